/-
  table.Right walked: is a list of edges a table?
-/
import Derived.Test.YthhmlcckeipolaaLess
import Derived.Test.YthhmlcckeipolaaApp
namespace Go.Proofs.Ythhmlcckeipolaa
open Go Go.RowKit
attribute [local go_sem] Heavy heavyUpon

/-- May it be an edge of a table of n vertices? -/
def okE (n : Int) (e : E3) : Bool := !(decide (e.1 < 0)) && !(decide (e.2.1 ≤ e.1)) && !(decide (n ≤ e.2.1)) && (!(decide (e.2.2 < 0)) && !(decide (16 < e.2.2)))
/-- Each fits, and each stands behind the one ahead. -/
def chainE (n : Int) : Option E3 → List E3 → Bool
  | _, [] => true
  | p, e :: l => okE n e && (match p with | none => true | some p => ltE p e) && chainE n (some e) l
def rightE (n : Int) (l : List E3) : Bool := !(decide (n < 0)) && !(decide (1024 < n)) && chainE n none l
/-- The one ahead of place k. -/
def prevE (l : List E3) : Nat → Option E3
  | 0 => none
  | k + 1 => l[k]?

theorem tiered_any (t : Int) (w : World) : Calls Try.prog 15 #[.int .i64 t] w (Ret (.bool (!(decide (t < 0)) && !(decide (16 < t)))) w) := by
  by_cases h : 0 ≤ t
  · have HF := hide (show (!(decide (t < 0)) && !(decide (16 < t))) = decide (t ≤ 16) by
      rw [decide_eq_false (by omega)]
      by_cases h2 : t ≤ 16
      · rw [decide_eq_false (show ¬ 16 < t by omega), decide_eq_true h2]; rfl
      · rw [decide_eq_true (show 16 < t by omega), decide_eq_false h2]; rfl)
    go_enter Try.func15, Try.ntmps15
    go_wp2
    go_ret
    exact ⟨congrArg (fun x => Ending.returned (.bool x)) HF.out.symm, Below.refl _ _⟩
  · have HF := hide (show (!(decide (t < 0)) && !(decide (16 < t))) = false by rw [decide_eq_true (show t < 0 by omega)]; rfl)
    rw [HF.out]
    go_enter Try.func15, Try.ntmps15
    go_wp2
    go_ret
    exact ⟨rfl, Below.refl _ _⟩

theorem tiered_yes {t : Int} (w : World) (h : 0 ≤ t ∧ t ≤ 16) : Calls Try.prog 15 #[.int .i64 t] w (Ret (.bool true) w) := by
  have := tiered_any t w
  rwa [decide_eq_false (show ¬ t < 0 by omega), decide_eq_false (show ¬ 16 < t by omega)] at this
theorem tiered_no {t : Int} (w : World) (h : ¬ (0 ≤ t ∧ t ≤ 16)) : Calls Try.prog 15 #[.int .i64 t] w (Ret (.bool false) w) := by
  have := tiered_any t w
  have e : (!(decide (t < 0)) && !(decide (16 < t))) = false := by
    by_cases h1 : t < 0
    · rw [decide_eq_true h1]; rfl
    · rw [decide_eq_true (show 16 < t by omega)]; simp
  rwa [e] at this

theorem chain_step {n : Int} {l : List E3} {k : Nat} (hk : k < l.length) :
    chainE n (prevE l k) (l.drop k) = (okE n l[k] && (match prevE l k with | none => true | some p => ltE p l[k]) && chainE n (prevE l (k + 1)) (l.drop (k + 1))) := by
  rw [List.drop_eq_getElem_cons hk]
  simp only [chainE]
  have : prevE l (k + 1) = some l[k] := List.getElem?_eq_getElem hk
  rw [this]

set_option maxHeartbeats 1200000 in
theorem tright_ok (l : List E3) (M : List Nat) (A : Option Addr) (n : Int) (m c : Nat) (w : World) (hS : ESl w M A m c l) (h0 : 0 ≤ n) (h1 : n ≤ 1024) :
    Calls Try.prog 7 #[.int .i64 n, .slice A m c] w (Ret (.bool (chainE n none l)) w) := by
  have HL := hide hS.length
  have hcap : m ≤ maxLen := Nat.le_trans hS.le hS.cap
  unfold maxLen at hcap
  have d0 : decide (n < 0) = false := decide_eq_false (by omega)
  have d1 : decide (1024 < n) = false := decide_eq_false (by omega)
  go_enter Try.func7, Try.ntmps7
  go_wp2_with (fail)
  go_loopw [15] (fun i wr => ∃ k : Nat, k ≤ m ∧ i = .int .i64 k ∧ Below w.heap.size w wr ∧ Hid (chainE n (prevE l k) (l.drop k) = chainE n none l)) (fun i _ => m - (intOf i).toNat)
  case atStart => exact ⟨0, Nat.zero_le _, rfl, Below.refl _ _, hide rfl⟩
  case round =>
    obtain ⟨k, hk, rfl, hbr, HR⟩ := hrel
    have hSr : ESl wr M A m c l := hS.below hbr
    by_cases hlt : k < m
    · have hx : k < l.length := by have := HL.out; omega
      have HC := hide (chain_step (n := n) hx)
      obtain ⟨ad, rfl, had, _, c0, c1, c2⟩ := hSr.get hx
      have HP := hide (show ∀ j, k = j + 1 → ∃ hj : j < l.length, prevE l k = some l[j] from fun j e => ⟨by omega, by subst e; exact List.getElem?_eq_getElem (by omega)⟩)
      generalize hx' : l[k] = x at *
      obtain ⟨u, v, t⟩ := x
      have HC2 := hide (show chainE n none l = (okE n (u, v, t) && (match prevE l k with | none => true | some p => ltE p (u, v, t)) && chainE n (prevE l (k + 1)) (l.drop (k + 1))) from HR.out.symm.trans HC.out)
      clear hx' HC
      simp only [] at c0 c1 c2
      have hb1 := hbr.alloc hbr.size (.cells #[.int .i64 u, .int .i64 v, .int .i64 t] 30)
      by_cases a1 : u < 0
      · have HF := hide (show chainE n none l = false by rw [HC2.out]; simp [okE, a1])
        go_wp2_with (fail)
        go_ret
        exact ⟨congrArg (fun x => Ending.returned (.bool x)) HF.out.symm, hb1⟩
      · by_cases a2 : v ≤ u
        · have HF := hide (show chainE n none l = false by rw [HC2.out]; simp [okE, a2])
          go_wp2_with (fail)
          go_ret
          exact ⟨congrArg (fun x => Ending.returned (.bool x)) HF.out.symm, hb1⟩
        · by_cases a3 : n ≤ v
          · have HF := hide (show chainE n none l = false by rw [HC2.out]; simp [okE, a3])
            go_wp2_with (fail)
            go_ret
            exact ⟨congrArg (fun x => Ending.returned (.bool x)) HF.out.symm, hb1⟩
          · by_cases a4 : 0 ≤ t ∧ t ≤ 16
            · have HO := hide (show okE n (u, v, t) = true by
                simp only [okE]; rw [decide_eq_false a1, decide_eq_false a2, decide_eq_false a3, decide_eq_false (show ¬ t < 0 by omega), decide_eq_false (show ¬ 16 < t by omega)]; rfl)
              by_cases hk0 : 0 < k
              · have hd : decide ((0 : Int) < (k : Int)) = true := decide_eq_true (by omega)
                obtain ⟨hj, hprev⟩ := HP.out (k - 1) (by omega)
                obtain ⟨ad', e', had', _, p0, p1, p2⟩ := hSr.get hj
                injection e' with e'
                subst e'
                generalize l[k - 1] = y at *
                obtain ⟨u', v', t'⟩ := y
                simp only [] at p0 p1 p2
                have HL2 := hide (show chainE n none l = (ltE (u', v', t') (u, v, t) && chainE n (prevE l (k + 1)) (l.drop (k + 1))) by rw [HC2.out, HO.out, hprev]; simp)
                clear hprev
                have i0 : (0 : Int) ≤ (k : Int) - 1 := by omega
                have i0' : (1 : Int) ≤ (k : Int) := by omega
                have i1 : (k : Int) - 1 < (m : Int) := by omega
                have i2 : ((k : Int) - 1).toNat = k - 1 := by omega
                cases hl : ltE (u', v', t') (u, v, t)
                case false =>
                  have ql : ∀ W, Calls Try.prog 16 #[.agg #[.int .i64 u', .int .i64 v', .int .i64 t'], .agg #[.int .i64 u, .int .i64 v, .int .i64 t]] W (Ret (.bool false) W) := fun W => by have := less_any u' v' t' u v t W; rwa [hl] at this
                  have HF := hide (show chainE n none l = false by rw [HL2.out, hl]; rfl)
                  clear hl
                  go_wp2_with (fail)
                  refine (tiered_yes _ a4).mono ?_
                  rintro e w2 ⟨rfl, b2⟩
                  have E0 := (Blk.new wr 30 #[.int .i64 u, .int .i64 v, .int .i64 t]).below b2 (by simp)
                  have hb2 := hb1.trans (b2.mono hb1.size)
                  have f0 : w2.cell? (ad.add ((k - 1) * 3)) = some (.int .i64 u') := (b2.cell (by rw [block_of_add, heap_alloc_size]; omega)).trans ((World.cell?_of_block (Below.heap_alloc wr _ _ (by rw [block_of_add]; exact had))).trans p0)
                  have f1 : w2.cell? ⟨(ad.add ((k - 1) * 3)).block, (ad.add ((k - 1) * 3)).off + 1, none⟩ = some (.int .i64 v') := (b2.cell (p := ⟨(ad.add ((k - 1) * 3)).block, (ad.add ((k - 1) * 3)).off + 1, none⟩) (by simp only []; rw [block_of_add, heap_alloc_size]; omega)).trans ((World.cell?_of_block (a := ⟨(ad.add ((k - 1) * 3)).block, (ad.add ((k - 1) * 3)).off + 1, none⟩) (Below.heap_alloc wr _ _ (by simp only []; rw [block_of_add]; exact had))).trans p1)
                  have f2 : w2.cell? ⟨(ad.add ((k - 1) * 3)).block, (ad.add ((k - 1) * 3)).off + 2, none⟩ = some (.int .i64 t') := (b2.cell (p := ⟨(ad.add ((k - 1) * 3)).block, (ad.add ((k - 1) * 3)).off + 2, none⟩) (by simp only []; rw [block_of_add, heap_alloc_size]; omega)).trans ((World.cell?_of_block (a := ⟨(ad.add ((k - 1) * 3)).block, (ad.add ((k - 1) * 3)).off + 2, none⟩) (Below.heap_alloc wr _ _ (by simp only []; rw [block_of_add]; exact had))).trans p2)
                  have hw2 : (ad.add ((k - 1) * 3)).block < w2.heap.size := by rw [block_of_add]; have := hbr.size; have := b2.size; rw [heap_alloc_size] at this; omega
                  obtain ⟨x0, y0, z0⟩ := E0.facts
                  clear p0 p1 p2 c0 c1 c2 b2
                  go_wp2_with (fail)
                  refine wp_region_lex [9] (fun w' => Below (w2).heap.size (w2) w') (by kernel_rfl) (by kernel_rfl) (Below.refl _ _).drew ?_
                  (repeat ((with_reducible refine wpLex_step (fun K hK => ?_)); go_simp; first | ((with_reducible refine hK _ _ ?_); clear hK K) | ((with_reducible apply Exists.intro); refine ⟨fun w' hw' => ?_, hK _ _ ?_⟩; (· (have hq := bcells hw'; apply valEq; (· (go_simp; first | done | (with_reducible rfl))); (· ((try go_bits); with_reducible rfl)))); clear hK K)))
                  ((with_reducible refine wpLex_step (fun K hK => ?_)); go_simp; refine (ql _).mono ?_; rintro e w3 ⟨rfl, hbx⟩; have g3 := ((Below.refl w2.heap.size w2).drew).trans (hbx.mono ((Below.refl w2.heap.size w2).drew).size); refine ⟨_, rfl, g3, hK _ _ ?_⟩; clear hK K hbx)
                  (repeat ((with_reducible refine wpLex_step (fun K hK => ?_)); go_simp; first | ((with_reducible refine hK _ _ ?_); clear hK K) | ((with_reducible apply Exists.intro); refine ⟨fun w' hw' => ?_, hK _ _ ?_⟩; (· (have hq := bcells hw'; apply valEq; (· (go_simp; first | done | (with_reducible rfl))); (· ((try go_bits); with_reducible rfl)))); clear hK K)))
                  refine wpLex_nil (fun _ => ?_)
                  have hb3 := hb2.trans (g3.mono hb2.size)
                  go_wp2_with (fail)
                  go_ret
                  exact ⟨congrArg (fun x => Ending.returned (.bool x)) HF.out.symm, hb3⟩
                case true =>
                  have ql : ∀ W, Calls Try.prog 16 #[.agg #[.int .i64 u', .int .i64 v', .int .i64 t'], .agg #[.int .i64 u, .int .i64 v, .int .i64 t]] W (Ret (.bool true) W) := fun W => by have := less_any u' v' t' u v t W; rwa [hl] at this
                  have HF := hide (show chainE n (prevE l (k + 1)) (l.drop (k + 1)) = chainE n none l by rw [HL2.out, hl]; rfl)
                  clear hl
                  go_wp2_with (fail)
                  refine (tiered_yes _ a4).mono ?_
                  rintro e w2 ⟨rfl, b2⟩
                  have E0 := (Blk.new wr 30 #[.int .i64 u, .int .i64 v, .int .i64 t]).below b2 (by simp)
                  have hb2 := hb1.trans (b2.mono hb1.size)
                  have f0 : w2.cell? (ad.add ((k - 1) * 3)) = some (.int .i64 u') := (b2.cell (by rw [block_of_add, heap_alloc_size]; omega)).trans ((World.cell?_of_block (Below.heap_alloc wr _ _ (by rw [block_of_add]; exact had))).trans p0)
                  have f1 : w2.cell? ⟨(ad.add ((k - 1) * 3)).block, (ad.add ((k - 1) * 3)).off + 1, none⟩ = some (.int .i64 v') := (b2.cell (p := ⟨(ad.add ((k - 1) * 3)).block, (ad.add ((k - 1) * 3)).off + 1, none⟩) (by simp only []; rw [block_of_add, heap_alloc_size]; omega)).trans ((World.cell?_of_block (a := ⟨(ad.add ((k - 1) * 3)).block, (ad.add ((k - 1) * 3)).off + 1, none⟩) (Below.heap_alloc wr _ _ (by simp only []; rw [block_of_add]; exact had))).trans p1)
                  have f2 : w2.cell? ⟨(ad.add ((k - 1) * 3)).block, (ad.add ((k - 1) * 3)).off + 2, none⟩ = some (.int .i64 t') := (b2.cell (p := ⟨(ad.add ((k - 1) * 3)).block, (ad.add ((k - 1) * 3)).off + 2, none⟩) (by simp only []; rw [block_of_add, heap_alloc_size]; omega)).trans ((World.cell?_of_block (a := ⟨(ad.add ((k - 1) * 3)).block, (ad.add ((k - 1) * 3)).off + 2, none⟩) (Below.heap_alloc wr _ _ (by simp only []; rw [block_of_add]; exact had))).trans p2)
                  have hw2 : (ad.add ((k - 1) * 3)).block < w2.heap.size := by rw [block_of_add]; have := hbr.size; have := b2.size; rw [heap_alloc_size] at this; omega
                  obtain ⟨x0, y0, z0⟩ := E0.facts
                  clear p0 p1 p2 c0 c1 c2 b2
                  go_wp2_with (fail)
                  refine wp_region_lex [9] (fun w' => Below (w2).heap.size (w2) w') (by kernel_rfl) (by kernel_rfl) (Below.refl _ _).drew ?_
                  (repeat ((with_reducible refine wpLex_step (fun K hK => ?_)); go_simp; first | ((with_reducible refine hK _ _ ?_); clear hK K) | ((with_reducible apply Exists.intro); refine ⟨fun w' hw' => ?_, hK _ _ ?_⟩; (· (have hq := bcells hw'; apply valEq; (· (go_simp; first | done | (with_reducible rfl))); (· ((try go_bits); with_reducible rfl)))); clear hK K)))
                  ((with_reducible refine wpLex_step (fun K hK => ?_)); go_simp; refine (ql _).mono ?_; rintro e w3 ⟨rfl, hbx⟩; have g3 := ((Below.refl w2.heap.size w2).drew).trans (hbx.mono ((Below.refl w2.heap.size w2).drew).size); refine ⟨_, rfl, g3, hK _ _ ?_⟩; clear hK K hbx)
                  (repeat ((with_reducible refine wpLex_step (fun K hK => ?_)); go_simp; first | ((with_reducible refine hK _ _ ?_); clear hK K) | ((with_reducible apply Exists.intro); refine ⟨fun w' hw' => ?_, hK _ _ ?_⟩; (· (have hq := bcells hw'; apply valEq; (· (go_simp; first | done | (with_reducible rfl))); (· ((try go_bits); with_reducible rfl)))); clear hK K)))
                  refine wpLex_nil (fun _ => ?_)
                  have hb3 := hb2.trans (g3.mono hb2.size)
                  go_wp2_with (fail)
                  exact ⟨⟨k + 1, by omega, by go_num, hb3, HF⟩, by simp [intOf]; omega⟩
              · have hd : decide ((0 : Int) < (k : Int)) = false := decide_eq_false (by omega)
                have HN := hide (show chainE n (prevE l (k + 1)) (l.drop (k + 1)) = chainE n none l by
                  have : k = 0 := by omega
                  subst this
                  rw [HC2.out, HO.out]; simp [prevE])
                go_wp2_with (fail)
                refine (tiered_yes _ a4).mono ?_
                rintro e w2 ⟨rfl, b2⟩
                have hb2 := hb1.trans (b2.mono hb1.size)
                have E0 := (Blk.new wr 30 #[.int .i64 u, .int .i64 v, .int .i64 t]).below b2 (by simp)
                obtain ⟨x0, y0, z0⟩ := E0.facts
                go_wp2_with (fail)
                refine wp_region_lex [9] (fun w' => Below (w2).heap.size (w2) w') (by kernel_rfl) (by kernel_rfl) (Below.refl _ _).drew ?_
                (repeat ((with_reducible refine wpLex_step (fun K hK => ?_)); go_simp; first | ((with_reducible refine hK _ _ ?_); clear hK K) | ((with_reducible apply Exists.intro); refine ⟨fun w' hw' => ?_, hK _ _ ?_⟩; (· (have hq := bcells hw'; apply valEq; (· (go_simp; first | done | (with_reducible rfl))); (· ((try go_bits); with_reducible rfl)))); clear hK K)))
                refine wpLex_nil (fun _ => ?_)
                go_wp2_with (fail)
                exact ⟨⟨k + 1, by omega, by go_num, hb2.drew, HN⟩, by simp [intOf]; omega⟩
            · have HF := hide (show chainE n none l = false by
                rw [HC2.out]
                have : okE n (u, v, t) = false := by
                  simp only [okE]
                  by_cases h1 : t < 0
                  · rw [decide_eq_true h1]; simp
                  · rw [decide_eq_true (show 16 < t by omega)]; simp
                rw [this]; rfl)
              go_wp2_with (fail)
              refine (tiered_no _ a4).mono ?_
              rintro e w2 ⟨rfl, b2⟩
              go_wp2_with (fail)
              go_ret
              exact ⟨congrArg (fun x => Ending.returned (.bool x)) HF.out.symm, hb1.trans (b2.mono hb1.size)⟩
    · have HF := hide (show chainE n none l = true by
        rw [← HR.out, List.drop_eq_nil_of_le (by have := HL.out; omega)]; cases prevE l k <;> rfl)
      go_wp2_with (fail)
      go_ret
      exact ⟨congrArg (fun x => Ending.returned (.bool x)) HF.out.symm, hbr⟩

theorem rightE_in {n : Int} {l : List E3} (h0 : 0 ≤ n) (h1 : n ≤ 1024) : rightE n l = chainE n none l := by
  unfold rightE; rw [decide_eq_false (show ¬ n < 0 by omega), decide_eq_false (show ¬ 1024 < n by omega)]; rfl
theorem rightE_out {n : Int} {l : List E3} (h : ¬ (0 ≤ n ∧ n ≤ 1024)) : rightE n l = false := by
  unfold rightE
  by_cases h0 : n < 0
  · rw [decide_eq_true h0]; rfl
  · rw [decide_eq_true (show 1024 < n by omega)]; simp
theorem tright_any (l : List E3) (M : List Nat) (A : Option Addr) (n : Int) (m c : Nat) (w : World) (hS : ESl w M A m c l) :
    Calls Try.prog 7 #[.int .i64 n, .slice A m c] w (Ret (.bool (rightE n l)) w) := by
  by_cases h : 0 ≤ n ∧ n ≤ 1024
  · rw [rightE_in h.1 h.2]
    exact tright_ok l M A n m c w hS h.1 h.2
  · rw [rightE_out h]
    by_cases h0 : n < 0
    · go_enter Try.func7, Try.ntmps7
      go_wp2_with (fail)
      go_ret
      exact ⟨rfl, Below.refl _ _⟩
    · have h1 : 1024 < n := by omega
      clear h
      go_enter Try.func7, Try.ntmps7
      go_wp2_with (fail)
      go_ret
      exact ⟨rfl, Below.refl _ _⟩
end Go.Proofs.Ythhmlcckeipolaa
