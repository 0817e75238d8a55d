/-
  cut.Names and raftsmanref13.Names walked.
-/
import Derived.Test.YtbbdbgfenidhgaaApp
import Derived.Test.YtbbdbgfenidhgaaEdge
import Derived.Test.YtbbdbgfenidhgaaLex
import Derived.Test.YtbbdbgfenidhgaaRNameOf
namespace Go.Proofs.Ytbbdbgfenidhgaa
open Go Go.RowKit
attribute [local go_sem] Heavy heavyUpon

/-- What is owned stays owned through a call that turns nothing. -/
theorem own_below {w w' : World} {base : Nat} {e : TypeId} {size : Nat} {v : Value} {n : Nat} {xs : List Value} (h : w.ownsRow base e size v n xs) (hb : Below w.heap.size w w') : w'.ownsRow base e size v n xs := by
  obtain ⟨h1, h2⟩ := h
  refine ⟨h1, ?_⟩
  rcases h2 with h2 | ⟨g, cap, cur, a, b, c, d⟩
  · exact .inl h2
  · exact .inr ⟨g, cap, cur, a, b, (hb.block g (by rcases Nat.lt_or_ge g w.heap.size with h | h; exact h; rw [Array.getElem?_eq_none h] at c; cases c)).trans c, d⟩

def nameT (e : E3) : Int := (nameE e.1 e.2.1).1
def namesE (l : List E3) : List Int := l.map nameT
theorem u64_info : (Try.prog.info? 42).map (fun i => (i.zero, i.size, i.bytes)) = some (some (.int .u64 0), 1, 8) := by kernel_rfl
theorem nameE_err {u v : Int} (h : (nameE u v).2 ≠ 0) : (nameE u v).1 = 0 := by
  unfold nameE at h ⊢
  split
  · split
    · rfl
    · split <;> rename_i h1 h2 h3 <;> simp [h1, h2, h3] at h
  · rfl
theorem namesE_step (l : List E3) {k : Nat} (h : k < l.length) : namesE (l.take (k + 1)) = namesE (l.take k) ++ [nameT l[k]] := by
  unfold namesE
  rw [List.take_succ_eq_append_getElem h, List.map_append]; rfl
theorem namesE_len (l : List E3) : (namesE l).length = l.length := by simp [namesE]

set_option maxHeartbeats 1600000 in
theorem names_ok (l : List E3) (M : List Nat) (A : Option Addr) (m c : Nat) (w : World) (hS : ESl w M A m c l) (hm : m ≤ 4096) (K : List Nat) (hK : ∀ x ∈ K, x < w.heap.size) :
    Calls Try.prog 13 #[.slice A m c] w fun e w' => ∃ R d, e = .returned (.slice R m d) ∧ Sl w' K 1 R m d (ints .u64 (namesE l)) ∧ Below w.heap.size w w' := by
  obtain ⟨ie, hie, hze, he1, he2⟩ := info_parts u64_info
  have HL := hide hS.length
  have HK := hide hK
  clear hK
  go_enter Try.func13, Try.ntmps13
  go_wp2_with (fail)
  go_loopw [3, 10] (fun a i wr => ∃ (k : Nat) (Ao : Option Addr) (co : Nat), k ≤ m ∧ i = .int .i64 k ∧ a = .slice Ao k co ∧ Below w.heap.size w wr ∧
      wr.ownsRow w.heap.size 42 1 (.slice Ao k co) k (ints .u64 (namesE (l.take k)))) (fun _ i _ => m - (intOf i).toNat)
  case atStart => exact ⟨0, none, 0, Nat.zero_le _, rfl, rfl, Below.refl _ _, by simpa [namesE, ints] using World.ownsRow_nil w w.heap.size 42 1⟩
  case round =>
    obtain ⟨k, Ao, co, hk, rfl, rfl, hbr, hown⟩ := hrel
    have hSr : ESl wr M A m c l := hS.below hbr
    by_cases hlt : k < m
    · have hx : k < l.length := by have := HL.out; omega
      obtain ⟨ad, rfl, had, _, c0, c1, c2⟩ := hSr.get hx
      have HF := hide (namesE_step l hx)
      have HT := hide (show nameT l[k] = (nameE l[k].1 l[k].2.1).1 from rfl)
      generalize l[k] = x at *
      obtain ⟨p, q, t⟩ := x
      simp only [] at c0 c1 c2 HT
      have E0 := Blk.new wr 39 #[.int .i64 p, .int .i64 q, .int .i64 t]
      have HOW := hide hown
      clear hown
      generalize Value.slice Ao k co = RV at *
      have HO := hide (fun W => of_any p q W)
      have HE := hide (nameE_err (u := p) (v := q))
      generalize nameE p q = z at *
      obtain ⟨z, er⟩ := z
      simp only [] at HT HO HE
      have HG := hide (HT.out ▸ HF.out)
      clear HT HF
      go_wp2_with (fail)
      refine (HO.out _).mono ?_
      rintro e w1 ⟨rfl, b1⟩
      have hb1 : Below w.heap.size w (wr.alloc (.cells #[.int .i64 p, .int .i64 q, .int .i64 t] 39)) := hbr.alloc hbr.size _
      have hb2 := hb1.trans (b1.mono hb1.size)
      have HO1 := hide (own_below (HOW.out.alloc (.cells #[.int .i64 p, .int .i64 q, .int .i64 t] 39)) b1)
      clear b1 E0 c0 c1 c2 hb1
      by_cases he : er = 0
      · have hd : (er == 0) = true := by simp [he]
        clear he
        ((go_wp2_with (at_builtin; refine stopAt ?_); refine stopGo ?_); have N2 : Sl ((w1).alloc (.cells #[.int .u64 z] 42)) [] 1 (some ⟨(w1).heap.size, 0, none⟩) 1 1 (ints .u64 [z]) := Sl.of_blk (Blk.new _ 42 #[.int .u64 z]) rfl (fun x hx => by match x, hx with | 0, _ => rfl) (by simp) (by unfold maxLen; omega); have O2 := (HO1.out).alloc (.cells #[.int .u64 z] 42); have hb3 := hb2.alloc hb2.size (.cells #[.int .u64 z] 42); have szl := hb3.size; refine wpList_append_sl _ rfl (.tmp 24) (.tmp 26) _ rfl w.heap.size 42 ie _ 1 8 Try.underlying30 hie hze he1 he2 rfl (by omega) RV k _ rfl O2 [] _ 1 1 (ints .u64 [z]) rfl N2 ints_one (by simp only [maxLen]; omega) (by omega) (by first | omega | (simp; done) | (simp; omega)) ?_; intro A5 c5 w5 own5 g5 _; rw [← ints_append] at own5; have hg5 := below_grown O2 g5 (Nat.le_refl _) (by first | omega | (simp; omega)); have hb5 := hb3.trans hg5)
        rw [← HG.out] at own5
        have OW5 := hide own5
        clear own5 g5 hg5 O2 N2
        go_wp2_with (fail)
        exact ⟨⟨k + 1, A5, c5, by omega, by go_num, rfl, hb5, OW5.out⟩, by simp [intOf]; omega⟩
      · have hd : (er == 0) = false := by simp [he]
        obtain rfl := HE.out he
        clear he
        ((go_wp2_with (at_builtin; refine stopAt ?_); refine stopGo ?_); have N2 : Sl ((w1).alloc (.cells #[.int .u64 0] 42)) [] 1 (some ⟨(w1).heap.size, 0, none⟩) 1 1 (ints .u64 [0]) := Sl.of_blk (Blk.new _ 42 #[.int .u64 0]) rfl (fun x hx => by match x, hx with | 0, _ => rfl) (by simp) (by unfold maxLen; omega); have O2 := (HO1.out).alloc (.cells #[.int .u64 0] 42); have hb3 := hb2.alloc hb2.size (.cells #[.int .u64 0] 42); have szl := hb3.size; refine wpList_append_sl _ rfl (.tmp 24) (.tmp 26) _ rfl w.heap.size 42 ie _ 1 8 Try.underlying30 hie hze he1 he2 rfl (by omega) RV k _ rfl O2 [] _ 1 1 (ints .u64 [0]) rfl N2 ints_one (by simp only [maxLen]; omega) (by omega) (by first | omega | (simp; done) | (simp; omega)) ?_; intro A5 c5 w5 own5 g5 _; rw [← ints_append] at own5; have hg5 := below_grown O2 g5 (Nat.le_refl _) (by first | omega | (simp; omega)); have hb5 := hb3.trans hg5)
        rw [← HG.out] at own5
        have OW5 := hide own5
        clear own5 g5 hg5 O2 N2
        go_wp2_with (fail)
        exact ⟨⟨k + 1, A5, c5, by omega, by go_num, rfl, hb5, OW5.out⟩, by simp [intOf]; omega⟩
    · have HF := hide (show l.take k = l from List.take_of_length_le (by have := HL.out; omega))
      have hkm : k = m := by omega
      subst hkm
      rw [HF.out] at hown
      go_wp2_with (fail)
      go_ret
      exact ⟨Ao, co, rfl, own_sl hown K HK.out, hbr⟩
set_option maxHeartbeats 1600000 in
theorem rnames_ok (l : List E3) (M : List Nat) (A : Option Addr) (m c : Nat) (w : World) (hS : ESl w M A m c l) (hm : m ≤ 4096) (K : List Nat) (hK : ∀ x ∈ K, x < w.heap.size) :
    Calls Try.prog 14 #[.slice A m c] w fun e w' => ∃ R d, e = .returned (.slice R m d) ∧ Sl w' K 1 R m d (ints .u64 (namesE l)) ∧ Below w.heap.size w w' := by
  obtain ⟨ie, hie, hze, he1, he2⟩ := info_parts u64_info
  have HL := hide hS.length
  have HK := hide hK
  clear hK
  go_enter Try.func14, Try.ntmps14
  go_wp2_with (fail)
  go_loopw [3, 4] (fun a i wr => ∃ (k : Nat) (Ao : Option Addr) (co : Nat), k ≤ m ∧ i = .int .i64 k ∧ a = .slice Ao k co ∧ Below w.heap.size w wr ∧
      wr.ownsRow w.heap.size 42 1 (.slice Ao k co) k (ints .u64 (namesE (l.take k)))) (fun _ i _ => m - (intOf i).toNat)
  case atStart => exact ⟨0, none, 0, Nat.zero_le _, rfl, rfl, Below.refl _ _, by simpa [namesE, ints] using World.ownsRow_nil w w.heap.size 42 1⟩
  case round =>
    obtain ⟨k, Ao, co, hk, rfl, rfl, hbr, hown⟩ := hrel
    have hSr : ESl wr M A m c l := hS.below hbr
    by_cases hlt : k < m
    · have hx : k < l.length := by have := HL.out; omega
      obtain ⟨ad, rfl, had, _, c0, c1, c2⟩ := hSr.get hx
      have HF := hide (namesE_step l hx)
      have HT := hide (show nameT l[k] = (nameE l[k].1 l[k].2.1).1 from rfl)
      generalize l[k] = x at *
      obtain ⟨p, q, t⟩ := x
      simp only [] at c0 c1 c2 HT
      have HOW := hide hown
      clear hown
      generalize Value.slice Ao k co = RV at *
      have HO := hide (fun W => of_any p q W)
      have HO := hide (fun W => rof_any p q W)
      generalize nameE p q = z at *
      obtain ⟨z, er⟩ := z
      simp only [] at HT HO
      have HG := hide (HT.out ▸ HF.out)
      clear HT HF
      go_wp2_with (fail)
      have hwk : (ad.add (k * 3)).block < wr.heap.size := by rw [block_of_add]; exact had
      refine wp_region_lex [10] (fun w' => Below (wr).heap.size (wr) w') (by kernel_rfl) (by kernel_rfl) (Below.refl _ _).drew ?_
      (repeat ((with_reducible refine wpLex_step (fun K hK => ?_)); go_simp; first | ((with_reducible refine hK _ _ ?_); clear hK K) | ((with_reducible apply Exists.intro); refine ⟨fun w' hw' => ?_, hK _ _ ?_⟩; (· (have hq := bcells hw'; apply valEq; (· (go_simp; first | done | (with_reducible rfl))); (· ((try go_bits); with_reducible rfl)))); clear hK K)))
      ((with_reducible refine wpLex_step (fun K hK => ?_)); go_simp; refine (HO.out _).mono ?_; rintro e w1 ⟨rfl, hbx⟩; have b1 := ((Below.refl wr.heap.size wr).drew).trans (hbx.mono ((Below.refl wr.heap.size wr).drew).size); refine ⟨_, rfl, b1, hK _ _ ?_⟩; clear hK K hbx)
      (repeat ((with_reducible refine wpLex_step (fun K hK => ?_)); go_simp; first | ((with_reducible refine hK _ _ ?_); clear hK K) | ((with_reducible apply Exists.intro); refine ⟨fun w' hw' => ?_, hK _ _ ?_⟩; (· (have hq := bcells hw'; apply valEq; (· (go_simp; first | done | (with_reducible rfl))); (· ((try go_bits); with_reducible rfl)))); clear hK K)))
      refine wpLex_nil (fun _ => ?_)
      have hb2 := hbr.trans (b1.mono hbr.size)
      have HO1 := hide (own_below HOW.out b1)
      clear b1 c0 c1 c2
      ((go_wp2_with (at_builtin; refine stopAt ?_); refine stopGo ?_); have N2 : Sl ((w1).alloc (.cells #[.int .u64 z] 42)) [] 1 (some ⟨(w1).heap.size, 0, none⟩) 1 1 (ints .u64 [z]) := Sl.of_blk (Blk.new _ 42 #[.int .u64 z]) rfl (fun x hx => by match x, hx with | 0, _ => rfl) (by simp) (by unfold maxLen; omega); have O2 := (HO1.out).alloc (.cells #[.int .u64 z] 42); have hb3 := hb2.alloc hb2.size (.cells #[.int .u64 z] 42); have szl := hb3.size; refine wpList_append_sl _ rfl (.tmp 27) (.tmp 29) _ rfl w.heap.size 42 ie _ 1 8 Try.underlying30 hie hze he1 he2 rfl (by omega) RV k _ rfl O2 [] _ 1 1 (ints .u64 [z]) rfl N2 ints_one (by simp only [maxLen]; omega) (by omega) (by first | omega | (simp; done) | (simp; omega)) ?_; intro A5 c5 w5 own5 g5 _; rw [← ints_append] at own5; have hg5 := below_grown O2 g5 (Nat.le_refl _) (by first | omega | (simp; omega)); have hb5 := hb3.trans hg5)
      rw [← HG.out] at own5
      have OW5 := hide own5
      clear own5 g5 hg5 O2 N2
      go_wp2_with (fail)
      exact ⟨⟨k + 1, A5, c5, by omega, by go_num, rfl, hb5, OW5.out⟩, by simp [intOf]; omega⟩
    · have HF := hide (show l.take k = l from List.take_of_length_le (by have := HL.out; omega))
      have hkm : k = m := by omega
      subst hkm
      rw [HF.out] at hown
      go_wp2_with (fail)
      go_ret
      exact ⟨Ao, co, rfl, own_sl hown K HK.out, hbr⟩
end Go.Proofs.Ytbbdbgfenidhgaa
