/-
  raftsmanref13.Mixed walked.
-/
import Derived.Test.YtbbdbgfenidhgaaRCut
namespace Go.Proofs.Ytbbdbgfenidhgaa
open Go Go.RowKit
attribute [local go_sem] Heavy heavyUpon

/-- How often an end stands in a set. -/
def cntE (set : List Int) (u v : Int) : Nat := set.countP fun s => u == s || v == s
def mixT (set : List Int) (e : E3) : Bool := cntE set e.1 e.2.1 % 2 == 1
def mixR (l : List E3) (set : List Int) : List E3 := l.filter (mixT set)
theorem mixR_step (l : List E3) (set : List Int) {k : Nat} (hx : k < l.length) : mixR (l.take (k + 1)) set = mixR (l.take k) set ++ (if mixT set l[k] = true then [l[k]] else []) := by
  unfold mixR
  rw [List.take_succ_eq_append_getElem hx, List.filter_append, List.filter_cons]; rfl
theorem mixR_len (l : List E3) (set : List Int) (k : Nat) : (mixR (l.take k) set).length ≤ k := by
  have := List.length_filter_le (mixT set) (l.take k)
  rw [List.length_take] at this
  unfold mixR
  omega
theorem cntE_step (set : List Int) (u v : Int) {j : Nat} (hx : j < set.length) : cntE (set.take (j + 1)) u v = cntE (set.take j) u v + if (u == set[j] || v == set[j]) = true then 1 else 0 := by
  unfold cntE
  rw [List.take_succ_eq_append_getElem hx, List.countP_append, List.countP_singleton]
theorem cntE_le (set : List Int) (u v : Int) (j : Nat) : cntE (set.take j) u v ≤ j := by
  have := List.countP_le_length (p := fun s => u == s || v == s) (l := set.take j)
  rw [List.length_take] at this
  unfold cntE
  omega

set_option maxHeartbeats 3200000 in
theorem rmix_ok (l : List E3) (set : List Int) (M N : List Nat) (A B : Option Addr) (m c ms cs : Nat) (w : World) (hS : ESl w M A m c l) (hT : Sl w N 1 B ms cs (ints .i64 set)) (hm : m ≤ 4096) (K : List Nat) (hK : ∀ x ∈ K, x < w.heap.size) :
    Calls Try.prog 18 #[.slice A m c, .slice B ms cs] w fun e w' => ∃ R d, e = .returned (.slice R (mixR l set).length d) ∧ ESl w' K R (mixR l set).length d (mixR l set) ∧ Below w.heap.size w w' := by
  obtain ⟨ie, hie, hze, he1, he2⟩ := info_parts edge_info
  have HL := hide hS.length
  have HLS := hide (show set.length = ms by have := hT.len; simpa using this)
  have HK := hide hK
  clear hK
  have hcap : ms ≤ maxLen := Nat.le_trans hT.le hT.cap
  unfold maxLen at hcap
  go_enter Try.func18, Try.ntmps18
  go_wp2_with (fail)
  go_loopw [5, 6] (fun a i wr => ∃ (k : Nat) (Ao : Option Addr) (co : Nat), k ≤ m ∧ i = .int .i64 k ∧ a = .slice Ao (mixR (l.take k) set).length co ∧ Below w.heap.size w wr ∧
      wr.ownsRow w.heap.size 39 3 (.slice Ao (mixR (l.take k) set).length co) (mixR (l.take k) set).length (ecells (mixR (l.take k) set))) (fun _ i _ => m - (intOf i).toNat)
  case atStart => exact ⟨0, none, 0, Nat.zero_le _, rfl, by simp [mixR], Below.refl _ _, by simpa [mixR, ecells] using World.ownsRow_nil w w.heap.size 39 3⟩
  case round =>
    obtain ⟨k, Ao, co, hk, rfl, rfl, hbr, hown⟩ := hrel
    have hSr : ESl wr M A m c l := hS.below hbr
    have hTr := hT.below hbr
    have hlen := mixR_len l set k
    by_cases hlt : k < m
    · have hx : k < l.length := by have := HL.out; omega
      obtain ⟨ad, rfl, had, _, c0, c1, c2⟩ := hSr.get hx
      have HU := hide (mixR_step l set hx)
      generalize l[k] = x at *
      obtain ⟨u, v, t⟩ := x
      simp only [] at c0 c1 c2
      have HOW := hide hown
      clear hown
      have HRV := hide (show ∃ A c, (Value.slice Ao (mixR (l.take k) set).length co) = .slice A (mixR (l.take k) set).length c from ⟨_, _, rfl⟩)
      generalize Value.slice Ao (mixR (l.take k) set).length co = RV at *
      have hwk : (ad.add (k * 3)).block < wr.heap.size := by rw [block_of_add]; exact had
      obtain ⟨WL, rfl⟩ : ∃ W : World, W = wr := ⟨_, rfl⟩
      go_wp2_with (fail)
      go_loopw [7, 8] (fun a i wr => ∃ j : Nat, j ≤ ms ∧ i = .int .i64 j ∧ a = .int .i64 (cntE (set.take j) u v : Nat) ∧ Below WL.heap.size WL wr) (fun _ i _ => ms - (intOf i).toNat)
      case atStart => exact ⟨0, Nat.zero_le _, rfl, rfl, Below.refl _ _⟩
      case round =>
        obtain ⟨j, hj, rfl, rfl, hbj⟩ := hrel
        have hTj := hTr.below hbj
        have hcl := cntE_le set u v j
        have d0 := (bcells hbj _ (by exact hwk)).trans c0
        have d1 := (bcells hbj _ (by exact hwk)).trans c1
        have d2 := (bcells hbj _ (by exact hwk)).trans c2
        by_cases hjl : j < ms
        · obtain ⟨bd, rfl, hbd, _, hc⟩ := hTj.at_ (by omega)
          have hy : j < set.length := by have := HLS.out; omega
          have e0 := hc _ _ (ints_get hy)
          have HC := hide (cntE_step set u v hy)
          clear hc
          generalize set[j] = s at *
          generalize cntE (set.take j) u v = cn at *
          cases h1 : u == s
          · cases h2 : v == s
            · have HF := hide (show cntE (set.take (j + 1)) u v = cn by rw [HC.out, h1, h2]; rfl)
              go_wp2_with (fail)
              refine wp_region_lex [] (fun w' => ∀ p, w'.cell? p = wr.cell? p) (by kernel_rfl) (by kernel_rfl) (fun _ => rfl) ?_
              (repeat ((with_reducible refine wpLex_step (fun K hK => ?_)); go_simp; first | ((with_reducible refine hK _ _ ?_); clear hK K) | ((with_reducible apply Exists.intro); refine ⟨fun w' hw' => ?_, hK _ _ ?_⟩; (· (apply valEq; (· (go_simp; first | done | (with_reducible rfl))); (· ((try go_bits); with_reducible rfl)))); clear hK K)))
              refine wpLex_nil (fun hw => ?_)
              go_wp2_with (fail)
              exact ⟨⟨j + 1, by omega, by go_num, by rw [HF.out], hbj.drew⟩, by simp [intOf]; omega⟩
            · have HF := hide (show cntE (set.take (j + 1)) u v = cn + 1 by rw [HC.out, h1, h2]; rfl)
              go_wp2_with (fail)
              refine wp_region_lex [] (fun w' => ∀ p, w'.cell? p = wr.cell? p) (by kernel_rfl) (by kernel_rfl) (fun _ => rfl) ?_
              (repeat ((with_reducible refine wpLex_step (fun K hK => ?_)); go_simp; first | ((with_reducible refine hK _ _ ?_); clear hK K) | ((with_reducible apply Exists.intro); refine ⟨fun w' hw' => ?_, hK _ _ ?_⟩; (· (apply valEq; (· (go_simp; first | done | (with_reducible rfl))); (· ((try go_bits); with_reducible rfl)))); clear hK K)))
              refine wpLex_nil (fun hw => ?_)
              go_wp2_with (fail)
              exact ⟨⟨j + 1, by omega, by go_num, by rw [HF.out]; go_num, hbj.drew⟩, by simp [intOf]; omega⟩
          · have HF := hide (show cntE (set.take (j + 1)) u v = cn + 1 by rw [HC.out, h1]; rfl)
            go_wp2_with (fail)
            refine wp_region_lex [] (fun w' => ∀ p, w'.cell? p = wr.cell? p) (by kernel_rfl) (by kernel_rfl) (fun _ => rfl) ?_
            (repeat ((with_reducible refine wpLex_step (fun K hK => ?_)); go_simp; first | ((with_reducible refine hK _ _ ?_); clear hK K) | ((with_reducible apply Exists.intro); refine ⟨fun w' hw' => ?_, hK _ _ ?_⟩; (· (apply valEq; (· (go_simp; first | done | (with_reducible rfl))); (· ((try go_bits); with_reducible rfl)))); clear hK K)))
            refine wpLex_nil (fun hw => ?_)
            go_wp2_with (fail)
            exact ⟨⟨j + 1, by omega, by go_num, by rw [HF.out]; go_num, hbj.drew⟩, by simp [intOf]; omega⟩
        · have HF0 := hide (show set.take j = set from List.take_of_length_le (by have := HLS.out; omega))
          rw [HF0.out]
          rw [HF0.out] at hcl
          have HMT := hide (show mixT set (u, v, t) = (cntE set u v % 2 == 1) from rfl)
          generalize cntE set u v = cn at *
          have hb4 := hbr.trans (hbj.mono hbr.size)
          have OW4 := hide (own_below HOW.out hbj)
          clear c0 c1 c2
          by_cases hod : cn % 2 = 1
          · have HF := hide (show mixR (l.take (k + 1)) set = mixR (l.take k) set ++ [(u, v, t)] by rw [HU.out, if_pos (by rw [HMT.out]; simp [hod])])
            have hr : ((cn : Int) % 2 == 1) = true := by simp; omega
            clear hod
            ((go_wp2_with (at_builtin; refine stopAt ?_); refine stopGo ?_); have N2 : Sl ((wr).alloc (.cells #[.int .i64 u, .int .i64 v, .int .i64 t] 39)) [] 3 (some ⟨(wr).heap.size, 0, none⟩) 1 1 (ecells [(u, v, t)]) := Sl.of_blk (Blk.new _ 39 #[.int .i64 u, .int .i64 v, .int .i64 t]) rfl (fun x hx => by match x, hx with | 0, _ | 1, _ | 2, _ => rfl) (by simp) (by unfold maxLen; omega); have O2 := (OW4.out).alloc (.cells #[.int .i64 u, .int .i64 v, .int .i64 t] 39); have hb6 := hb4.alloc hb4.size (.cells #[.int .i64 u, .int .i64 v, .int .i64 t] 39); have szl := hb6.size; refine wpList_append_sl _ rfl (.tmp 48) (.tmp 53) _ rfl w.heap.size 39 ie _ 3 24 Try.underlying22 hie hze he1 he2 rfl (by omega) RV _ _ rfl O2 [] _ 1 1 (ecells [(u, v, t)]) rfl N2 ecells_one (by simp only [maxLen]; omega) (by omega) (by first | omega | (simp; done) | (simp; omega)) ?_; intro A5 c5 w5 own5 g5 _; rw [← ecells_append] at own5; have hg5 := below_grown O2 g5 (Nat.le_refl _) (by first | omega | (simp; omega)); have hb5 := hb6.trans hg5)
            rw [← HF.out] at own5
            have hl5 : (mixR (l.take k) set).length + 1 = (mixR (l.take (k + 1)) set).length := by rw [HF.out, List.length_append]; rfl
            rw [hl5] at own5 ⊢
            clear hl5
            have OW5 := hide own5
            clear own5 g5 hg5 O2 N2
            go_wp2_with (fail)
            exact ⟨⟨k + 1, A5, c5, by omega, by go_num, rfl, hb5, OW5.out⟩, by simp [intOf]; omega⟩
          · have HF := hide (show mixR (l.take (k + 1)) set = mixR (l.take k) set by rw [HU.out, if_neg (by rw [HMT.out]; simpa using hod), List.append_nil])
            have hr : ((cn : Int) % 2 == 1) = false := by simp; omega
            clear hod
            go_wp2_with (fail)
            obtain ⟨A6, c6, rfl⟩ := HRV.out
            exact ⟨⟨k + 1, A6, c6, by omega, by go_num, by rw [HF.out], hb4, by rw [HF.out]; exact OW4.out⟩, by simp [intOf]; omega⟩
    · have HF := hide (show l.take k = l from List.take_of_length_le (by have := HL.out; omega))
      rw [HF.out] at hown
      rw [HF.out]
      go_wp2_with (fail)
      go_ret
      exact ⟨Ao, co, rfl, own_sl hown K HK.out, hbr⟩
end Go.Proofs.Ytbbdbgfenidhgaa
