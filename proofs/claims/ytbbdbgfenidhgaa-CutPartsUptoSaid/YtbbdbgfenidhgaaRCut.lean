/-
  raftsmanref13.Cut walked.
-/
import Derived.Test.YtbbdbgfenidhgaaFirst
import Derived.Test.YtbbdbgfenidhgaaNames
namespace Go.Proofs.Ytbbdbgfenidhgaa
open Go Go.RowKit
attribute [local go_sem] Heavy heavyUpon

def cutT (set : List Int) (e : E3) : Bool := decide (e.1 ∈ set) != decide (e.2.1 ∈ set)
def cutR (l : List E3) (set : List Int) : List E3 := l.filter (cutT set)
theorem cutR_step (l : List E3) (set : List Int) {k : Nat} (hx : k < l.length) : cutR (l.take (k + 1)) set = cutR (l.take k) set ++ (if cutT set l[k] = true then [l[k]] else []) := by
  unfold cutR
  rw [List.take_succ_eq_append_getElem hx, List.filter_append, List.filter_cons]; rfl
theorem cutR_len (l : List E3) (set : List Int) (k : Nat) : (cutR (l.take k) set).length ≤ k := by
  have := List.length_filter_le (cutT set) (l.take k)
  rw [List.length_take] at this
  unfold cutR
  omega

set_option maxHeartbeats 3200000 in
theorem rcut_ok (l : List E3) (set : List Int) (M N : List Nat) (A B : Option Addr) (m c ms cs : Nat) (w : World) (hS : ESl w M A m c l) (hT : Sl w N 1 B ms cs (ints .i64 set)) (hm : m ≤ 4096) (K : List Nat) (hK : ∀ x ∈ K, x < w.heap.size) :
    Calls Try.prog 17 #[.slice A m c, .slice B ms cs] w fun e w' => ∃ R d, e = .returned (.slice R (cutR l set).length d) ∧ ESl w' K R (cutR l set).length d (cutR l set) ∧ Below w.heap.size w w' := by
  obtain ⟨ie, hie, hze, he1, he2⟩ := info_parts edge_info
  have HL := hide hS.length
  have HK := hide hK
  clear hK
  go_enter Try.func17, Try.ntmps17
  go_wp2_with (fail)
  go_loopw [5, 6] (fun a i wr => ∃ (k : Nat) (Ao : Option Addr) (co : Nat), k ≤ m ∧ i = .int .i64 k ∧ a = .slice Ao (cutR (l.take k) set).length co ∧ Below w.heap.size w wr ∧
      wr.ownsRow w.heap.size 39 3 (.slice Ao (cutR (l.take k) set).length co) (cutR (l.take k) set).length (ecells (cutR (l.take k) set))) (fun _ i _ => m - (intOf i).toNat)
  case atStart => exact ⟨0, none, 0, Nat.zero_le _, rfl, by simp [cutR], Below.refl _ _, by simpa [cutR, ecells] using World.ownsRow_nil w w.heap.size 39 3⟩
  case round =>
    obtain ⟨k, Ao, co, hk, rfl, rfl, hbr, hown⟩ := hrel
    have hSr : ESl wr M A m c l := hS.below hbr
    have hTr := hT.below hbr
    have hlen := cutR_len l set k
    by_cases hlt : k < m
    · have hx : k < l.length := by have := HL.out; omega
      obtain ⟨ad, rfl, had, _, c0, c1, c2⟩ := hSr.get hx
      have HU := hide (cutR_step l set hx)
      generalize l[k] = x at *
      obtain ⟨u, v, t⟩ := x
      simp only [] at c0 c1 c2
      have HOW := hide hown
      clear hown
      have HRV := hide (show ∃ A c, (Value.slice Ao (cutR (l.take k) set).length co) = .slice A (cutR (l.take k) set).length c from ⟨_, _, rfl⟩)
      generalize Value.slice Ao (cutR (l.take k) set).length co = RV at *
      have hfu := firstI_mem set u 0 (Int.le_refl 0)
      have hfv := firstI_mem set v 0 (Int.le_refl 0)
      obtain ⟨fu, hfu0⟩ : ∃ fu, firstI set u 0 = fu := ⟨_, rfl⟩
      obtain ⟨fv, hfv0⟩ : ∃ fv, firstI set v 0 = fv := ⟨_, rfl⟩
      rw [hfu0] at hfu
      rw [hfv0] at hfv
      have HU0 := hide hfu0
      have HV0 := hide hfv0
      clear hfu0 hfv0
      by_cases hu : u ∈ set
      · have pu : 0 ≤ fu := hfu.2 hu
        by_cases hv : v ∈ set
        · have pv : 0 ≤ fv := hfv.2 hv
          have HF := hide (show cutR (l.take (k + 1)) set = cutR (l.take k) set by rw [HU.out, if_neg (by simp [cutT, hu, hv]), List.append_nil])
          clear hu hv hfu hfv
          (have hwk : (ad.add (k * 3)).block < wr.heap.size := (by rw [block_of_add]; exact had); go_wp2_with (fail); refine wp_region_lex [6,14] (fun w' => Below (wr).heap.size (wr) w') (by kernel_rfl) (by kernel_rfl) (Below.refl _ _).drew ?_; (repeat ((with_reducible refine wpLex_step (fun K hK => ?_)); go_simp; first | ((with_reducible refine hK _ _ ?_); clear hK K) | ((with_reducible apply Exists.intro); refine ⟨fun w' hw' => ?_, hK _ _ ?_⟩; (· (have hq := bcells hw'; apply valEq; (· (go_simp; first | done | (with_reducible rfl))); (· ((try go_bits); with_reducible rfl)))); clear hK K))); ((with_reducible refine wpLex_step (fun K hK => ?_)); go_simp; refine (first_any set u N B ms cs _ hTr.drew).mono ?_; rintro e w3 ⟨rfl, hbx⟩; have g3 := ((Below.refl wr.heap.size wr).drew).trans (hbx.mono ((Below.refl wr.heap.size wr).drew).size); refine ⟨_, rfl, g3, hK _ _ ?_⟩; clear hK K hbx); (with_reducible rw [HU0.out]); (repeat ((with_reducible refine wpLex_step (fun K hK => ?_)); go_simp; first | ((with_reducible refine hK _ _ ?_); clear hK K) | ((with_reducible apply Exists.intro); refine ⟨fun w' hw' => ?_, hK _ _ ?_⟩; (· (have hq := bcells hw'; apply valEq; (· (go_simp; first | done | (with_reducible rfl))); (· ((try go_bits); with_reducible rfl)))); clear hK K))); ((with_reducible refine wpLex_step (fun K hK => ?_)); go_simp; refine (first_any set v N B ms cs _ (hTr.below g3)).mono ?_; rintro e w4 ⟨rfl, hbx⟩; have g4 := (g3).trans (hbx.mono (g3).size); refine ⟨_, rfl, g4, hK _ _ ?_⟩; clear hK K hbx); (with_reducible rw [HV0.out]); (repeat ((with_reducible refine wpLex_step (fun K hK => ?_)); go_simp; first | ((with_reducible refine hK _ _ ?_); clear hK K) | ((with_reducible apply Exists.intro); refine ⟨fun w' hw' => ?_, hK _ _ ?_⟩; (· (have hq := bcells hw'; apply valEq; (· (go_simp; first | done | (with_reducible rfl))); (· ((try go_bits); with_reducible rfl)))); clear hK K))); refine wpLex_nil (fun _ => ?_); have d0 := (bcells g4 _ (by exact hwk)).trans c0; have d1 := (bcells g4 _ (by exact hwk)).trans c1; have d2 := (bcells g4 _ (by exact hwk)).trans c2; have hb4 := hbr.trans (g4.mono hbr.size); have OW4 := hide (own_below HOW.out g4); clear c0 c1 c2 hwk)
          go_wp2_with (fail)
          obtain ⟨A6, c6, rfl⟩ := HRV.out
          exact ⟨⟨k + 1, A6, c6, by omega, by go_num, by rw [HF.out], hb4, by rw [HF.out]; exact OW4.out⟩, by simp [intOf]; omega⟩
        · have pv : fv < 0 := by rcases Int.lt_or_le fv 0 with h | h; exact h; exact absurd (hfv.1 h) hv
          have HF := hide (show cutR (l.take (k + 1)) set = cutR (l.take k) set ++ [(u, v, t)] by rw [HU.out, if_pos (by simp [cutT, hu, hv])])
          clear hu hv hfu hfv
          (have hwk : (ad.add (k * 3)).block < wr.heap.size := (by rw [block_of_add]; exact had); go_wp2_with (fail); refine wp_region_lex [6,14] (fun w' => Below (wr).heap.size (wr) w') (by kernel_rfl) (by kernel_rfl) (Below.refl _ _).drew ?_; (repeat ((with_reducible refine wpLex_step (fun K hK => ?_)); go_simp; first | ((with_reducible refine hK _ _ ?_); clear hK K) | ((with_reducible apply Exists.intro); refine ⟨fun w' hw' => ?_, hK _ _ ?_⟩; (· (have hq := bcells hw'; apply valEq; (· (go_simp; first | done | (with_reducible rfl))); (· ((try go_bits); with_reducible rfl)))); clear hK K))); ((with_reducible refine wpLex_step (fun K hK => ?_)); go_simp; refine (first_any set u N B ms cs _ hTr.drew).mono ?_; rintro e w3 ⟨rfl, hbx⟩; have g3 := ((Below.refl wr.heap.size wr).drew).trans (hbx.mono ((Below.refl wr.heap.size wr).drew).size); refine ⟨_, rfl, g3, hK _ _ ?_⟩; clear hK K hbx); (with_reducible rw [HU0.out]); (repeat ((with_reducible refine wpLex_step (fun K hK => ?_)); go_simp; first | ((with_reducible refine hK _ _ ?_); clear hK K) | ((with_reducible apply Exists.intro); refine ⟨fun w' hw' => ?_, hK _ _ ?_⟩; (· (have hq := bcells hw'; apply valEq; (· (go_simp; first | done | (with_reducible rfl))); (· ((try go_bits); with_reducible rfl)))); clear hK K))); ((with_reducible refine wpLex_step (fun K hK => ?_)); go_simp; refine (first_any set v N B ms cs _ (hTr.below g3)).mono ?_; rintro e w4 ⟨rfl, hbx⟩; have g4 := (g3).trans (hbx.mono (g3).size); refine ⟨_, rfl, g4, hK _ _ ?_⟩; clear hK K hbx); (with_reducible rw [HV0.out]); (repeat ((with_reducible refine wpLex_step (fun K hK => ?_)); go_simp; first | ((with_reducible refine hK _ _ ?_); clear hK K) | ((with_reducible apply Exists.intro); refine ⟨fun w' hw' => ?_, hK _ _ ?_⟩; (· (have hq := bcells hw'; apply valEq; (· (go_simp; first | done | (with_reducible rfl))); (· ((try go_bits); with_reducible rfl)))); clear hK K))); refine wpLex_nil (fun _ => ?_); have d0 := (bcells g4 _ (by exact hwk)).trans c0; have d1 := (bcells g4 _ (by exact hwk)).trans c1; have d2 := (bcells g4 _ (by exact hwk)).trans c2; have hb4 := hbr.trans (g4.mono hbr.size); have OW4 := hide (own_below HOW.out g4); clear c0 c1 c2 hwk)
          ((go_wp2_with (at_builtin; refine stopAt ?_); refine stopGo ?_); have N2 : Sl ((w4).alloc (.cells #[.int .i64 u, .int .i64 v, .int .i64 t] 39)) [] 3 (some ⟨(w4).heap.size, 0, none⟩) 1 1 (ecells [(u, v, t)]) := Sl.of_blk (Blk.new _ 39 #[.int .i64 u, .int .i64 v, .int .i64 t]) rfl (fun x hx => by match x, hx with | 0, _ | 1, _ | 2, _ => rfl) (by simp) (by unfold maxLen; omega); have O2 := (OW4.out).alloc (.cells #[.int .i64 u, .int .i64 v, .int .i64 t] 39); have hb6 := hb4.alloc hb4.size (.cells #[.int .i64 u, .int .i64 v, .int .i64 t] 39); have szl := hb6.size; refine wpList_append_sl _ rfl (.tmp 43) (.tmp 48) _ rfl w.heap.size 39 ie _ 3 24 Try.underlying22 hie hze he1 he2 rfl (by omega) RV _ _ rfl O2 [] _ 1 1 (ecells [(u, v, t)]) rfl N2 ecells_one (by simp only [maxLen]; omega) (by omega) (by first | omega | (simp; done) | (simp; omega)) ?_; intro A5 c5 w5 own5 g5 _; rw [← ecells_append] at own5; have hg5 := below_grown O2 g5 (Nat.le_refl _) (by first | omega | (simp; omega)); have hb5 := hb6.trans hg5)
          rw [← HF.out] at own5
          have hl5 : (cutR (l.take k) set).length + 1 = (cutR (l.take (k + 1)) set).length := by rw [HF.out, List.length_append]; rfl
          rw [hl5] at own5 ⊢
          clear hl5
          have OW5 := hide own5
          clear own5 g5 hg5 O2 N2
          go_wp2_with (fail)
          exact ⟨⟨k + 1, A5, c5, by omega, by go_num, rfl, hb5, OW5.out⟩, by simp [intOf]; omega⟩
      · have pu : fu < 0 := by rcases Int.lt_or_le fu 0 with h | h; exact h; exact absurd (hfu.1 h) hu
        by_cases hv : v ∈ set
        · have pv : 0 ≤ fv := hfv.2 hv
          have HF := hide (show cutR (l.take (k + 1)) set = cutR (l.take k) set ++ [(u, v, t)] by rw [HU.out, if_pos (by simp [cutT, hu, hv])])
          clear hu hv hfu hfv
          (have hwk : (ad.add (k * 3)).block < wr.heap.size := (by rw [block_of_add]; exact had); go_wp2_with (fail); refine wp_region_lex [6,14] (fun w' => Below (wr).heap.size (wr) w') (by kernel_rfl) (by kernel_rfl) (Below.refl _ _).drew ?_; (repeat ((with_reducible refine wpLex_step (fun K hK => ?_)); go_simp; first | ((with_reducible refine hK _ _ ?_); clear hK K) | ((with_reducible apply Exists.intro); refine ⟨fun w' hw' => ?_, hK _ _ ?_⟩; (· (have hq := bcells hw'; apply valEq; (· (go_simp; first | done | (with_reducible rfl))); (· ((try go_bits); with_reducible rfl)))); clear hK K))); ((with_reducible refine wpLex_step (fun K hK => ?_)); go_simp; refine (first_any set u N B ms cs _ hTr.drew).mono ?_; rintro e w3 ⟨rfl, hbx⟩; have g3 := ((Below.refl wr.heap.size wr).drew).trans (hbx.mono ((Below.refl wr.heap.size wr).drew).size); refine ⟨_, rfl, g3, hK _ _ ?_⟩; clear hK K hbx); (with_reducible rw [HU0.out]); (repeat ((with_reducible refine wpLex_step (fun K hK => ?_)); go_simp; first | ((with_reducible refine hK _ _ ?_); clear hK K) | ((with_reducible apply Exists.intro); refine ⟨fun w' hw' => ?_, hK _ _ ?_⟩; (· (have hq := bcells hw'; apply valEq; (· (go_simp; first | done | (with_reducible rfl))); (· ((try go_bits); with_reducible rfl)))); clear hK K))); ((with_reducible refine wpLex_step (fun K hK => ?_)); go_simp; refine (first_any set v N B ms cs _ (hTr.below g3)).mono ?_; rintro e w4 ⟨rfl, hbx⟩; have g4 := (g3).trans (hbx.mono (g3).size); refine ⟨_, rfl, g4, hK _ _ ?_⟩; clear hK K hbx); (with_reducible rw [HV0.out]); (repeat ((with_reducible refine wpLex_step (fun K hK => ?_)); go_simp; first | ((with_reducible refine hK _ _ ?_); clear hK K) | ((with_reducible apply Exists.intro); refine ⟨fun w' hw' => ?_, hK _ _ ?_⟩; (· (have hq := bcells hw'; apply valEq; (· (go_simp; first | done | (with_reducible rfl))); (· ((try go_bits); with_reducible rfl)))); clear hK K))); refine wpLex_nil (fun _ => ?_); have d0 := (bcells g4 _ (by exact hwk)).trans c0; have d1 := (bcells g4 _ (by exact hwk)).trans c1; have d2 := (bcells g4 _ (by exact hwk)).trans c2; have hb4 := hbr.trans (g4.mono hbr.size); have OW4 := hide (own_below HOW.out g4); clear c0 c1 c2 hwk)
          ((go_wp2_with (at_builtin; refine stopAt ?_); refine stopGo ?_); have N2 : Sl ((w4).alloc (.cells #[.int .i64 u, .int .i64 v, .int .i64 t] 39)) [] 3 (some ⟨(w4).heap.size, 0, none⟩) 1 1 (ecells [(u, v, t)]) := Sl.of_blk (Blk.new _ 39 #[.int .i64 u, .int .i64 v, .int .i64 t]) rfl (fun x hx => by match x, hx with | 0, _ | 1, _ | 2, _ => rfl) (by simp) (by unfold maxLen; omega); have O2 := (OW4.out).alloc (.cells #[.int .i64 u, .int .i64 v, .int .i64 t] 39); have hb6 := hb4.alloc hb4.size (.cells #[.int .i64 u, .int .i64 v, .int .i64 t] 39); have szl := hb6.size; refine wpList_append_sl _ rfl (.tmp 43) (.tmp 48) _ rfl w.heap.size 39 ie _ 3 24 Try.underlying22 hie hze he1 he2 rfl (by omega) RV _ _ rfl O2 [] _ 1 1 (ecells [(u, v, t)]) rfl N2 ecells_one (by simp only [maxLen]; omega) (by omega) (by first | omega | (simp; done) | (simp; omega)) ?_; intro A5 c5 w5 own5 g5 _; rw [← ecells_append] at own5; have hg5 := below_grown O2 g5 (Nat.le_refl _) (by first | omega | (simp; omega)); have hb5 := hb6.trans hg5)
          rw [← HF.out] at own5
          have hl5 : (cutR (l.take k) set).length + 1 = (cutR (l.take (k + 1)) set).length := by rw [HF.out, List.length_append]; rfl
          rw [hl5] at own5 ⊢
          clear hl5
          have OW5 := hide own5
          clear own5 g5 hg5 O2 N2
          go_wp2_with (fail)
          exact ⟨⟨k + 1, A5, c5, by omega, by go_num, rfl, hb5, OW5.out⟩, by simp [intOf]; omega⟩
        · have pv : fv < 0 := by rcases Int.lt_or_le fv 0 with h | h; exact h; exact absurd (hfv.1 h) hv
          have HF := hide (show cutR (l.take (k + 1)) set = cutR (l.take k) set by rw [HU.out, if_neg (by simp [cutT, hu, hv]), List.append_nil])
          clear hu hv hfu hfv
          (have hwk : (ad.add (k * 3)).block < wr.heap.size := (by rw [block_of_add]; exact had); go_wp2_with (fail); refine wp_region_lex [6,14] (fun w' => Below (wr).heap.size (wr) w') (by kernel_rfl) (by kernel_rfl) (Below.refl _ _).drew ?_; (repeat ((with_reducible refine wpLex_step (fun K hK => ?_)); go_simp; first | ((with_reducible refine hK _ _ ?_); clear hK K) | ((with_reducible apply Exists.intro); refine ⟨fun w' hw' => ?_, hK _ _ ?_⟩; (· (have hq := bcells hw'; apply valEq; (· (go_simp; first | done | (with_reducible rfl))); (· ((try go_bits); with_reducible rfl)))); clear hK K))); ((with_reducible refine wpLex_step (fun K hK => ?_)); go_simp; refine (first_any set u N B ms cs _ hTr.drew).mono ?_; rintro e w3 ⟨rfl, hbx⟩; have g3 := ((Below.refl wr.heap.size wr).drew).trans (hbx.mono ((Below.refl wr.heap.size wr).drew).size); refine ⟨_, rfl, g3, hK _ _ ?_⟩; clear hK K hbx); (with_reducible rw [HU0.out]); (repeat ((with_reducible refine wpLex_step (fun K hK => ?_)); go_simp; first | ((with_reducible refine hK _ _ ?_); clear hK K) | ((with_reducible apply Exists.intro); refine ⟨fun w' hw' => ?_, hK _ _ ?_⟩; (· (have hq := bcells hw'; apply valEq; (· (go_simp; first | done | (with_reducible rfl))); (· ((try go_bits); with_reducible rfl)))); clear hK K))); ((with_reducible refine wpLex_step (fun K hK => ?_)); go_simp; refine (first_any set v N B ms cs _ (hTr.below g3)).mono ?_; rintro e w4 ⟨rfl, hbx⟩; have g4 := (g3).trans (hbx.mono (g3).size); refine ⟨_, rfl, g4, hK _ _ ?_⟩; clear hK K hbx); (with_reducible rw [HV0.out]); (repeat ((with_reducible refine wpLex_step (fun K hK => ?_)); go_simp; first | ((with_reducible refine hK _ _ ?_); clear hK K) | ((with_reducible apply Exists.intro); refine ⟨fun w' hw' => ?_, hK _ _ ?_⟩; (· (have hq := bcells hw'; apply valEq; (· (go_simp; first | done | (with_reducible rfl))); (· ((try go_bits); with_reducible rfl)))); clear hK K))); refine wpLex_nil (fun _ => ?_); have d0 := (bcells g4 _ (by exact hwk)).trans c0; have d1 := (bcells g4 _ (by exact hwk)).trans c1; have d2 := (bcells g4 _ (by exact hwk)).trans c2; have hb4 := hbr.trans (g4.mono hbr.size); have OW4 := hide (own_below HOW.out g4); clear c0 c1 c2 hwk)
          go_wp2_with (fail)
          obtain ⟨A6, c6, rfl⟩ := HRV.out
          exact ⟨⟨k + 1, A6, c6, by omega, by go_num, by rw [HF.out], hb4, by rw [HF.out]; exact OW4.out⟩, by simp [intOf]; omega⟩
    · have HF := hide (show l.take k = l from List.take_of_length_le (by have := HL.out; omega))
      rw [HF.out] at hown
      rw [HF.out]
      go_wp2_with (fail)
      go_ret
      exact ⟨Ao, co, rfl, own_sl hown K HK.out, hbr⟩
end Go.Proofs.Ytbbdbgfenidhgaa
