/-
  cut.Star walked.
-/
import Derived.Test.YtbbdbgfenidhgaaCut
namespace Go.Proofs.Ytbbdbgfenidhgaa
open Go Go.RowKit
attribute [local go_sem] Heavy heavyUpon

/-- The edges of a vertex. -/
def starT (v : Int) (e : E3) : Bool := e.1 == v || e.2.1 == v
def starE (l : List E3) (v : Int) : List E3 := l.filter (starT v)
def outS (n : Int) (l : List E3) (v : Int) : List E3 := if fitsE n l [v] = true then starE l v else []

set_option maxHeartbeats 1600000 in
theorem star_ok (l : List E3) (v : Int) (M : List Nat) (A : Option Addr) (n : Int) (m c : Nat) (w : World) (hS : ESl w M A m c l)
    (hm : m ≤ 4096) (K : List Nat) (hK : ∀ x ∈ K, x < w.heap.size) :
    Calls Try.prog 11 #[.int .i64 n, .slice A m c, .int .i64 v] w fun e w' => ∃ R d, e = .returned (.tuple #[.slice R (outS n l v).length d, .int .i64 (outC n l [v])]) ∧ ESl w' K R (outS n l v).length d (outS n l v) ∧ Below w.heap.size w w' := by
  have q : ∀ W B, ESl W M A m c l → Sl W [] 1 B 1 1 (ints .i64 [v]) → Calls Try.prog 23 #[.int .i64 n, .slice A m c, .slice B 1 1] W (Ret (.bool (fitsE n l [v])) W) := fun W B h1 h2 => fits_any l [v] M [] A B n m c 1 1 W h1 h2
  unfold outS outC
  have NB : Sl (w.alloc (.cells #[.int .i64 v] 3)) [] 1 (some ⟨w.heap.size, 0, none⟩) 1 1 (ints .i64 [v]) :=
    Sl.of_blk (Blk.new w _ _) rfl (fun x hx => by match x, hx with | 0, _ => rfl) (by simp) (by unfold maxLen; omega)
  have hb0 := (Below.refl w.heap.size w).alloc (Nat.le_refl _) (.cells #[.int .i64 v] 3)
  have hS0 := hS.alloc (.cells #[.int .i64 v] 3)
  have hz0 := hide (heap_alloc_size w (.cells #[.int .i64 v] 3))
  cases hf : fitsE n l [v]
  case false =>
    rw [hf] at q
    clear hf
    have Q := hide q
    clear q
    go_enter Try.func11, Try.ntmps11
    go_wp2_with (fail)
    refine (Q.out _ _ hS0 NB).mono ?_
    rintro e w1 ⟨rfl, b1⟩
    go_wp2_with (fail)
    refine bodyPost_ret (v := .tuple #[.slice none 0 0, .int .i64 1]) (by simp [results, Try.results11, go_sem]) rfl ⟨none, 0, rfl, Sl.nil_ _ _ _, hb0.trans (b1.mono hb0.size)⟩
  case true =>
    rw [hf] at q
    clear hf
    have Q := hide q
    clear q
    obtain ⟨ie, hie, hze, he1, he2⟩ := info_parts edge_info
    have HL := hide hS.length
    have HK := hide hK
    clear hK
    rw [if_pos rfl, if_pos rfl]
    go_enter Try.func11, Try.ntmps11
    go_wp2_with (fail)
    refine (Q.out _ _ hS0 NB).mono ?_
    rintro e w1 ⟨rfl, b1⟩
    have hb1 := hb0.trans (b1.mono hb0.size)
    clear b1 hb0 NB hS0 hz0
    go_wp2_with (fail)
    go_loopw [8, 19] (fun a i wr => ∃ (k : Nat) (Ao : Option Addr) (co : Nat), k ≤ m ∧ i = .int .i64 k ∧ a = .slice Ao (starE (l.take k) v).length co ∧ Below w.heap.size w wr ∧
        wr.ownsRow w.heap.size 39 3 (.slice Ao (starE (l.take k) v).length co) (starE (l.take k) v).length (ecells (starE (l.take k) v))) (fun _ i _ => m - (intOf i).toNat)
    case atStart => exact ⟨0, none, 0, Nat.zero_le _, rfl, by simp [starE], hb1, by simpa [starE, ecells] using World.ownsRow_nil w1 w.heap.size 39 3⟩
    case round =>
      obtain ⟨k, Ao, co, hk, rfl, rfl, hbr, hown⟩ := hrel
      have hSr : ESl wr M A m c l := hS.below hbr
      have hlen : (starE (l.take k) v).length ≤ k := by
        have := List.length_filter_le (starT v) (l.take k)
        rw [List.length_take] at this
        unfold starE
        omega
      by_cases hlt : k < m
      · have hx : k < l.length := by have := HL.out; omega
        obtain ⟨ad, rfl, had, _, c0, c1, c2⟩ := hSr.get hx
        have HU := hide (show starE (l.take (k + 1)) v = starE (l.take k) v ++ (if starT v l[k] = true then [l[k]] else []) by
          unfold starE
          rw [List.take_succ_eq_append_getElem hx, List.filter_append, List.filter_cons]; rfl)
        generalize l[k] = x at *
        obtain ⟨p, q, t⟩ := x
        simp only [] at c0 c1 c2
        have E0 := Blk.new wr 39 #[.int .i64 p, .int .i64 q, .int .i64 t]
        have HOW := hide hown
        clear hown
        by_cases hpv : p = v
        · have HF := hide (show starE (l.take (k + 1)) v = starE (l.take k) v ++ [(p, q, t)] by rw [HU.out, if_pos (by simp [starT, hpv])])
          have tp : (p == v) = true := by simp [hpv]
          clear hpv
          (go_wp2_with (at_builtin; refine stopAt ?_); refine stopGo ?_; have N2 : Sl ((wr.alloc (.cells #[.int .i64 p, .int .i64 q, .int .i64 t] 39)).alloc (.cells #[.int .i64 p, .int .i64 q, .int .i64 t] 39)) [] 3 (some ⟨(wr.alloc (.cells #[.int .i64 p, .int .i64 q, .int .i64 t] 39)).heap.size, 0, none⟩) 1 1 (ecells [(p, q, t)]) := Sl.of_blk (Blk.new _ 39 #[.int .i64 p, .int .i64 q, .int .i64 t]) rfl (fun x hx => by match x, hx with | 0, _ | 1, _ | 2, _ => rfl) (by simp) (by unfold maxLen; omega); have O2 := (HOW.out.alloc (.cells #[.int .i64 p, .int .i64 q, .int .i64 t] 39)).alloc (.cells #[.int .i64 p, .int .i64 q, .int .i64 t] 39); have hb2 := (hbr.alloc hbr.size (.cells #[.int .i64 p, .int .i64 q, .int .i64 t] 39)).alloc (Nat.le_trans hbr.size (by simp)) (.cells #[.int .i64 p, .int .i64 q, .int .i64 t] 39); have szl := hb2.size; have hzz := heap_alloc_size wr (.cells #[.int .i64 p, .int .i64 q, .int .i64 t] 39); rw [hzz] at N2; clear hzz; generalize (wr.alloc (.cells #[.int .i64 p, .int .i64 q, .int .i64 t] 39)).alloc (.cells #[.int .i64 p, .int .i64 q, .int .i64 t] 39) = W2 at *; refine wpList_append_sl _ rfl (.tmp 33) (.tmp 35) _ rfl w.heap.size 39 ie _ 3 24 Try.underlying22 hie hze he1 he2 rfl (by omega) (.slice Ao (starE (l.take k) v).length co) (starE (l.take k) v).length _ rfl O2 [] _ 1 1 (ecells [(p, q, t)]) rfl N2 ecells_one (by simp only [maxLen]; omega) (by omega) (by first | omega | (simp; done) | (simp; omega)) ?_; intro A5 c5 w5 own5 g5 _; rw [← ecells_append, ← HF.out] at own5; have hl5 : (starE (l.take k) v).length + 1 = (starE (l.take (k + 1)) v).length := (by rw [HF.out, List.length_append]; rfl); rw [hl5] at own5 ⊢; clear hl5; have hg5 := below_grown O2 g5 (Nat.le_refl _) (by first | omega | (simp; omega)); have hb5 := hb2.trans hg5; have OW5 := hide own5; clear own5 g5 hg5 O2 N2; go_wp2_with (fail); exact ⟨⟨k + 1, A5, c5, by omega, by go_num, rfl, hb5, OW5.out⟩, by simp [intOf]; omega⟩)
        · by_cases hqv : q = v
          · have HF := hide (show starE (l.take (k + 1)) v = starE (l.take k) v ++ [(p, q, t)] by rw [HU.out, if_pos (by simp [starT, hqv])])
            have tp : (p == v) = false := by simp [hpv]
            have tq : (q == v) = true := by simp [hqv]
            clear hpv hqv
            (go_wp2_with (at_builtin; refine stopAt ?_); refine stopGo ?_; have N2 : Sl ((wr.alloc (.cells #[.int .i64 p, .int .i64 q, .int .i64 t] 39)).alloc (.cells #[.int .i64 p, .int .i64 q, .int .i64 t] 39)) [] 3 (some ⟨(wr.alloc (.cells #[.int .i64 p, .int .i64 q, .int .i64 t] 39)).heap.size, 0, none⟩) 1 1 (ecells [(p, q, t)]) := Sl.of_blk (Blk.new _ 39 #[.int .i64 p, .int .i64 q, .int .i64 t]) rfl (fun x hx => by match x, hx with | 0, _ | 1, _ | 2, _ => rfl) (by simp) (by unfold maxLen; omega); have O2 := (HOW.out.alloc (.cells #[.int .i64 p, .int .i64 q, .int .i64 t] 39)).alloc (.cells #[.int .i64 p, .int .i64 q, .int .i64 t] 39); have hb2 := (hbr.alloc hbr.size (.cells #[.int .i64 p, .int .i64 q, .int .i64 t] 39)).alloc (Nat.le_trans hbr.size (by simp)) (.cells #[.int .i64 p, .int .i64 q, .int .i64 t] 39); have szl := hb2.size; have hzz := heap_alloc_size wr (.cells #[.int .i64 p, .int .i64 q, .int .i64 t] 39); rw [hzz] at N2; clear hzz; generalize (wr.alloc (.cells #[.int .i64 p, .int .i64 q, .int .i64 t] 39)).alloc (.cells #[.int .i64 p, .int .i64 q, .int .i64 t] 39) = W2 at *; refine wpList_append_sl _ rfl (.tmp 33) (.tmp 35) _ rfl w.heap.size 39 ie _ 3 24 Try.underlying22 hie hze he1 he2 rfl (by omega) (.slice Ao (starE (l.take k) v).length co) (starE (l.take k) v).length _ rfl O2 [] _ 1 1 (ecells [(p, q, t)]) rfl N2 ecells_one (by simp only [maxLen]; omega) (by omega) (by first | omega | (simp; done) | (simp; omega)) ?_; intro A5 c5 w5 own5 g5 _; rw [← ecells_append, ← HF.out] at own5; have hl5 : (starE (l.take k) v).length + 1 = (starE (l.take (k + 1)) v).length := (by rw [HF.out, List.length_append]; rfl); rw [hl5] at own5 ⊢; clear hl5; have hg5 := below_grown O2 g5 (Nat.le_refl _) (by first | omega | (simp; omega)); have hb5 := hb2.trans hg5; have OW5 := hide own5; clear own5 g5 hg5 O2 N2; go_wp2_with (fail); exact ⟨⟨k + 1, A5, c5, by omega, by go_num, rfl, hb5, OW5.out⟩, by simp [intOf]; omega⟩)
          · have HF := hide (show starE (l.take (k + 1)) v = starE (l.take k) v by rw [HU.out, if_neg (by simp [starT, hpv, hqv]), List.append_nil])
            have tp : (p == v) = false := by simp [hpv]
            have tq : (q == v) = false := by simp [hqv]
            clear hpv hqv
            go_wp2_with (fail)
            exact ⟨⟨k + 1, Ao, co, by omega, by go_num, by rw [HF.out], hbr.alloc hbr.size _, by rw [HF.out]; exact HOW.out.alloc _⟩, by simp [intOf]; omega⟩
      · have HF := hide (show l.take k = l from List.take_of_length_le (by have := HL.out; omega))
        rw [HF.out] at hown
        rw [HF.out]
        go_wp2_with (fail)
        refine bodyPost_ret (v := .tuple #[.slice Ao (starE l v).length co, .int .i64 0]) (by simp [results, Try.results11, go_sem]) rfl ⟨Ao, co, rfl, own_sl hown K HK.out, hbr⟩
end Go.Proofs.Ytbbdbgfenidhgaa
