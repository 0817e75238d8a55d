/-
  raftsmanref12.Right walked.
-/
import Derived.Test.YtbbdbgfenidhgaaRight
import Derived.Test.YtbbdbgfenidhgaaRLess
namespace Go.Proofs.Ytbbdbgfenidhgaa
open Go Go.RowKit
attribute [local go_sem] Heavy heavyUpon

set_option maxHeartbeats 1600000 in
theorem rright_ok (l : List E3) (M : List Nat) (A : Option Addr) (n : Int) (m c : Nat) (w : World) (hS : ESl w M A m c l) (h0 : 0 ≤ n) (h1 : n ≤ 1024) :
    Calls Try.prog 19 #[.int .i64 n, .slice A m c] w (Ret (.bool (chainE n none l)) w) := by
  have HL := hide hS.length
  have hcap : m ≤ maxLen := Nat.le_trans hS.le hS.cap
  unfold maxLen at hcap
  have d0 : decide (n < 0) = false := decide_eq_false (by omega)
  have d1 : decide (1024 < n) = false := decide_eq_false (by omega)
  go_enter Try.func19, Try.ntmps19
  go_wp2_with (fail)
  go_loopw [5] (fun i wr => ∃ k : Nat, k ≤ m ∧ i = .int .i64 k ∧ Below w.heap.size w wr ∧ Hid (chainE n (prevE l k) (l.drop k) = chainE n none l)) (fun i _ => m - (intOf i).toNat)
  case atStart => exact ⟨0, Nat.zero_le _, rfl, Below.refl _ _, hide rfl⟩
  case round =>
    obtain ⟨k, hk, rfl, hbr, HR⟩ := hrel
    have hSr : ESl wr M A m c l := hS.below hbr
    by_cases hlt : k < m
    · have hx : k < l.length := by have := HL.out; omega
      have HC := hide (chain_step (n := n) hx)
      obtain ⟨ad, rfl, had, _, c0, c1, c2⟩ := hSr.get hx
      have HP := hide (show ∀ j, k = j + 1 → ∃ hj : j < l.length, prevE l k = some l[j] from fun j e => ⟨by omega, by subst e; exact List.getElem?_eq_getElem (by omega)⟩)
      generalize hx' : l[k] = x at *
      obtain ⟨u, v, t⟩ := x
      have HC2 := hide (show chainE n none l = (okE n (u, v, t) && (match prevE l k with | none => true | some p => ltE p (u, v, t)) && chainE n (prevE l (k + 1)) (l.drop (k + 1))) from HR.out.symm.trans HC.out)
      clear hx' HC
      simp only [] at c0 c1 c2
      have hwk : (ad.add (k * 3)).block < wr.heap.size := by rw [block_of_add]; exact had
      by_cases a1 : u < 0
      · have HF := hide (show chainE n none l = false by rw [HC2.out]; simp [okE, a1])
        ((go_wp2_with (fail); refine wp_region_lex [] (fun w' => ∀ p, w'.cell? p = wr.cell? p) (by kernel_rfl) (by kernel_rfl) (fun _ => rfl) ?_; (repeat ((with_reducible refine wpLex_step (fun K hK => ?_)); go_simp; first | ((with_reducible refine hK _ _ ?_); clear hK K) | ((with_reducible apply Exists.intro); refine ⟨fun w' hw' => ?_, hK _ _ ?_⟩; (· (apply valEq; (· (go_simp; first | done | (with_reducible rfl))); (· ((try go_bits); with_reducible rfl)))); clear hK K))); refine wpLex_nil (fun _ => ?_)); go_wp2_with (fail); go_ret; exact ⟨congrArg (fun x => Ending.returned (.bool x)) HF.out.symm, hbr.drew⟩)
      · by_cases a2 : v ≤ u
        · have HF := hide (show chainE n none l = false by rw [HC2.out]; simp [okE, a2])
          ((go_wp2_with (fail); refine wp_region_lex [] (fun w' => ∀ p, w'.cell? p = wr.cell? p) (by kernel_rfl) (by kernel_rfl) (fun _ => rfl) ?_; (repeat ((with_reducible refine wpLex_step (fun K hK => ?_)); go_simp; first | ((with_reducible refine hK _ _ ?_); clear hK K) | ((with_reducible apply Exists.intro); refine ⟨fun w' hw' => ?_, hK _ _ ?_⟩; (· (apply valEq; (· (go_simp; first | done | (with_reducible rfl))); (· ((try go_bits); with_reducible rfl)))); clear hK K))); refine wpLex_nil (fun _ => ?_)); go_wp2_with (fail); go_ret; exact ⟨congrArg (fun x => Ending.returned (.bool x)) HF.out.symm, hbr.drew⟩)
        · by_cases a3 : n ≤ v
          · have HF := hide (show chainE n none l = false by rw [HC2.out]; simp [okE, a3])
            ((go_wp2_with (fail); refine wp_region_lex [] (fun w' => ∀ p, w'.cell? p = wr.cell? p) (by kernel_rfl) (by kernel_rfl) (fun _ => rfl) ?_; (repeat ((with_reducible refine wpLex_step (fun K hK => ?_)); go_simp; first | ((with_reducible refine hK _ _ ?_); clear hK K) | ((with_reducible apply Exists.intro); refine ⟨fun w' hw' => ?_, hK _ _ ?_⟩; (· (apply valEq; (· (go_simp; first | done | (with_reducible rfl))); (· ((try go_bits); with_reducible rfl)))); clear hK K))); refine wpLex_nil (fun _ => ?_)); go_wp2_with (fail); go_ret; exact ⟨congrArg (fun x => Ending.returned (.bool x)) HF.out.symm, hbr.drew⟩)
          · by_cases a4 : t < 0
            · have HF := hide (show chainE n none l = false by rw [HC2.out]; simp [okE, a4])
              ((go_wp2_with (fail); refine wp_region_lex [] (fun w' => ∀ p, w'.cell? p = wr.cell? p) (by kernel_rfl) (by kernel_rfl) (fun _ => rfl) ?_; (repeat ((with_reducible refine wpLex_step (fun K hK => ?_)); go_simp; first | ((with_reducible refine hK _ _ ?_); clear hK K) | ((with_reducible apply Exists.intro); refine ⟨fun w' hw' => ?_, hK _ _ ?_⟩; (· (apply valEq; (· (go_simp; first | done | (with_reducible rfl))); (· ((try go_bits); with_reducible rfl)))); clear hK K))); refine wpLex_nil (fun _ => ?_)); go_wp2_with (fail); go_ret; exact ⟨congrArg (fun x => Ending.returned (.bool x)) HF.out.symm, hbr.drew⟩)
            · by_cases a5 : 16 < t
              · have HF := hide (show chainE n none l = false by rw [HC2.out]; simp [okE, a5])
                ((go_wp2_with (fail); refine wp_region_lex [] (fun w' => ∀ p, w'.cell? p = wr.cell? p) (by kernel_rfl) (by kernel_rfl) (fun _ => rfl) ?_; (repeat ((with_reducible refine wpLex_step (fun K hK => ?_)); go_simp; first | ((with_reducible refine hK _ _ ?_); clear hK K) | ((with_reducible apply Exists.intro); refine ⟨fun w' hw' => ?_, hK _ _ ?_⟩; (· (apply valEq; (· (go_simp; first | done | (with_reducible rfl))); (· ((try go_bits); with_reducible rfl)))); clear hK K))); refine wpLex_nil (fun _ => ?_)); go_wp2_with (fail); go_ret; exact ⟨congrArg (fun x => Ending.returned (.bool x)) HF.out.symm, hbr.drew⟩)
              · have HO := hide (show okE n (u, v, t) = true by
                  simp only [okE]; rw [decide_eq_false a1, decide_eq_false a2, decide_eq_false a3, decide_eq_false a4, decide_eq_false a5]; rfl)
                by_cases hk0 : 0 < k
                · have hd : decide ((0 : Int) < (k : Int)) = true := decide_eq_true (by omega)
                  obtain ⟨hj, hprev⟩ := HP.out (k - 1) (by omega)
                  obtain ⟨ad', e', had', _, p0, p1, p2⟩ := hSr.get hj
                  injection e' with e'
                  subst e'
                  generalize l[k - 1] = y at *
                  obtain ⟨u', v', t'⟩ := y
                  simp only [] at p0 p1 p2
                  have HL2 := hide (show chainE n none l = (ltE (u', v', t') (u, v, t) && chainE n (prevE l (k + 1)) (l.drop (k + 1))) by rw [HC2.out, HO.out, hprev]; simp)
                  clear hprev
                  have i0 : (0 : Int) ≤ (k : Int) - 1 := by omega
                  have i0' : (1 : Int) ≤ (k : Int) := by omega
                  have i1 : (k : Int) - 1 < (m : Int) := by omega
                  have i2 : ((k : Int) - 1).toNat = k - 1 := by omega
                  have hwk' : (ad.add ((k - 1) * 3)).block < wr.heap.size := by rw [block_of_add]; exact had
                  cases hl : ltE (u', v', t') (u, v, t)
                  case false =>
                    have ql : ∀ W, Calls Try.prog 28 #[.agg #[.int .i64 u', .int .i64 v', .int .i64 t'], .agg #[.int .i64 u, .int .i64 v, .int .i64 t]] W (Ret (.bool false) W) := fun W => by have := rless_any u' v' t' u v t W; rwa [hl] at this
                    have HF := hide (show chainE n none l = false by rw [HL2.out, hl]; rfl)
                    clear hl
                    (go_wp2_with (fail); refine wp_region_lex [] (fun w' => ∀ p, w'.cell? p = wr.cell? p) (by kernel_rfl) (by kernel_rfl) (fun _ => rfl) ?_; (repeat ((with_reducible refine wpLex_step (fun K hK => ?_)); go_simp; first | ((with_reducible refine hK _ _ ?_); clear hK K) | ((with_reducible apply Exists.intro); refine ⟨fun w' hw' => ?_, hK _ _ ?_⟩; (· (apply valEq; (· (go_simp; first | done | (with_reducible rfl))); (· ((try go_bits); with_reducible rfl)))); clear hK K))); refine wpLex_nil (fun _ => ?_))
                    go_wp2_with (fail)
                    refine wp_region_lex [12] (fun w' => Below (wr.drew).heap.size (wr.drew) w') (by kernel_rfl) (by kernel_rfl) (Below.refl _ _).drew ?_
                    (repeat ((with_reducible refine wpLex_step (fun K hK => ?_)); go_simp; first | ((with_reducible refine hK _ _ ?_); clear hK K) | ((with_reducible apply Exists.intro); refine ⟨fun w' hw' => ?_, hK _ _ ?_⟩; (· (have hq := bcells hw'; apply valEq; (· (go_simp; first | done | (with_reducible rfl))); (· ((try go_bits); with_reducible rfl)))); clear hK K)))
                    ((with_reducible refine wpLex_step (fun K hK => ?_)); go_simp; refine (ql _).mono ?_; rintro e w3 ⟨rfl, hbx⟩; have g3 := ((Below.refl wr.drew.heap.size wr.drew).drew).trans (hbx.mono ((Below.refl wr.drew.heap.size wr.drew).drew).size); refine ⟨_, rfl, g3, hK _ _ ?_⟩; clear hK K hbx)
                    (repeat ((with_reducible refine wpLex_step (fun K hK => ?_)); go_simp; first | ((with_reducible refine hK _ _ ?_); clear hK K) | ((with_reducible apply Exists.intro); refine ⟨fun w' hw' => ?_, hK _ _ ?_⟩; (· (have hq := bcells hw'; apply valEq; (· (go_simp; first | done | (with_reducible rfl))); (· ((try go_bits); with_reducible rfl)))); clear hK K)))
                    refine wpLex_nil (fun _ => ?_)
                    go_wp2_with (fail)
                    go_ret
                    exact ⟨congrArg (fun x => Ending.returned (.bool x)) HF.out.symm, hbr.drew.trans (g3.mono hbr.size)⟩
                  case true =>
                    have ql : ∀ W, Calls Try.prog 28 #[.agg #[.int .i64 u', .int .i64 v', .int .i64 t'], .agg #[.int .i64 u, .int .i64 v, .int .i64 t]] W (Ret (.bool true) W) := fun W => by have := rless_any u' v' t' u v t W; rwa [hl] at this
                    have HF := hide (show chainE n (prevE l (k + 1)) (l.drop (k + 1)) = chainE n none l by rw [HL2.out, hl]; rfl)
                    clear hl
                    (go_wp2_with (fail); refine wp_region_lex [] (fun w' => ∀ p, w'.cell? p = wr.cell? p) (by kernel_rfl) (by kernel_rfl) (fun _ => rfl) ?_; (repeat ((with_reducible refine wpLex_step (fun K hK => ?_)); go_simp; first | ((with_reducible refine hK _ _ ?_); clear hK K) | ((with_reducible apply Exists.intro); refine ⟨fun w' hw' => ?_, hK _ _ ?_⟩; (· (apply valEq; (· (go_simp; first | done | (with_reducible rfl))); (· ((try go_bits); with_reducible rfl)))); clear hK K))); refine wpLex_nil (fun _ => ?_))
                    go_wp2_with (fail)
                    refine wp_region_lex [12] (fun w' => Below (wr.drew).heap.size (wr.drew) w') (by kernel_rfl) (by kernel_rfl) (Below.refl _ _).drew ?_
                    (repeat ((with_reducible refine wpLex_step (fun K hK => ?_)); go_simp; first | ((with_reducible refine hK _ _ ?_); clear hK K) | ((with_reducible apply Exists.intro); refine ⟨fun w' hw' => ?_, hK _ _ ?_⟩; (· (have hq := bcells hw'; apply valEq; (· (go_simp; first | done | (with_reducible rfl))); (· ((try go_bits); with_reducible rfl)))); clear hK K)))
                    ((with_reducible refine wpLex_step (fun K hK => ?_)); go_simp; refine (ql _).mono ?_; rintro e w3 ⟨rfl, hbx⟩; have g3 := ((Below.refl wr.drew.heap.size wr.drew).drew).trans (hbx.mono ((Below.refl wr.drew.heap.size wr.drew).drew).size); refine ⟨_, rfl, g3, hK _ _ ?_⟩; clear hK K hbx)
                    (repeat ((with_reducible refine wpLex_step (fun K hK => ?_)); go_simp; first | ((with_reducible refine hK _ _ ?_); clear hK K) | ((with_reducible apply Exists.intro); refine ⟨fun w' hw' => ?_, hK _ _ ?_⟩; (· (have hq := bcells hw'; apply valEq; (· (go_simp; first | done | (with_reducible rfl))); (· ((try go_bits); with_reducible rfl)))); clear hK K)))
                    refine wpLex_nil (fun _ => ?_)
                    go_wp2_with (fail)
                    exact ⟨⟨k + 1, by omega, by go_num, hbr.drew.trans (g3.mono hbr.size), HF⟩, by simp [intOf]; omega⟩
                · have hd : decide ((0 : Int) < (k : Int)) = false := decide_eq_false (by omega)
                  have HN := hide (show chainE n (prevE l (k + 1)) (l.drop (k + 1)) = chainE n none l by
                    have : k = 0 := by omega
                    subst this
                    rw [HC2.out, HO.out]; simp [prevE])
                  (go_wp2_with (fail); refine wp_region_lex [] (fun w' => ∀ p, w'.cell? p = wr.cell? p) (by kernel_rfl) (by kernel_rfl) (fun _ => rfl) ?_; (repeat ((with_reducible refine wpLex_step (fun K hK => ?_)); go_simp; first | ((with_reducible refine hK _ _ ?_); clear hK K) | ((with_reducible apply Exists.intro); refine ⟨fun w' hw' => ?_, hK _ _ ?_⟩; (· (apply valEq; (· (go_simp; first | done | (with_reducible rfl))); (· ((try go_bits); with_reducible rfl)))); clear hK K))); refine wpLex_nil (fun _ => ?_))
                  go_wp2_with (fail)
                  refine wp_region_lex [12] (fun w' => Below (wr.drew).heap.size (wr.drew) w') (by kernel_rfl) (by kernel_rfl) (Below.refl _ _).drew ?_
                  (repeat ((with_reducible refine wpLex_step (fun K hK => ?_)); go_simp; first | ((with_reducible refine hK _ _ ?_); clear hK K) | ((with_reducible apply Exists.intro); refine ⟨fun w' hw' => ?_, hK _ _ ?_⟩; (· (have hq := bcells hw'; apply valEq; (· (go_simp; first | done | (with_reducible rfl))); (· ((try go_bits); with_reducible rfl)))); clear hK K)))
                  refine wpLex_nil (fun _ => ?_)
                  go_wp2_with (fail)
                  exact ⟨⟨k + 1, by omega, by go_num, hbr.drew.drew, HN⟩, by simp [intOf]; omega⟩
    · have HF := hide (show chainE n none l = true by
        rw [← HR.out, List.drop_eq_nil_of_le (by have := HL.out; omega)]; cases prevE l k <;> rfl)
      go_wp2_with (fail)
      go_ret
      exact ⟨congrArg (fun x => Ending.returned (.bool x)) HF.out.symm, hbr⟩

theorem rright_any (l : List E3) (M : List Nat) (A : Option Addr) (n : Int) (m c : Nat) (w : World) (hS : ESl w M A m c l) :
    Calls Try.prog 19 #[.int .i64 n, .slice A m c] w (Ret (.bool (rightE n l)) w) := by
  by_cases h : 0 ≤ n ∧ n ≤ 1024
  · rw [rightE_in h.1 h.2]
    exact rright_ok l M A n m c w hS h.1 h.2
  · rw [rightE_out h]
    by_cases h0 : n < 0
    · go_enter Try.func19, Try.ntmps19
      go_wp2_with (fail)
      go_ret
      exact ⟨rfl, Below.refl _ _⟩
    · have h1 : 1024 < n := by omega
      clear h
      go_enter Try.func19, Try.ntmps19
      go_wp2_with (fail)
      go_ret
      exact ⟨rfl, Below.refl _ _⟩
end Go.Proofs.Ytbbdbgfenidhgaa
