/-
  raftsmanlaw08.TourLeaf walked.
-/
import Derived.Test.YtbnkanhibjoleaaTourTurns
namespace Go.Proofs.Ytbnkanhibjoleaa
open Go Go.RowKit
attribute [local go_sem] Heavy heavyUpon

theorem filter_step {α : Type} (p : α → Bool) (l : List α) {k : Nat} (h : k < l.length) : (l.take (k + 1)).filter p = (l.take k).filter p ++ (if p l[k] = true then [l[k]] else []) := by
  rw [List.take_succ_eq_append_getElem h, List.filter_append, List.filter_cons]; rfl
theorem filter_len {α : Type} (p : α → Bool) (l : List α) (k : Nat) : ((l.take k).filter p).length ≤ k := by
  have := List.length_filter_le p (l.take k)
  rw [List.length_take] at this
  omega
/-- Is v an end of an edge? -/
def endT (v : Int) (e : E3) : Bool := e.1 == v || e.2.1 == v
theorem endT_mkE (v a b : Int) : endT v (mkE a b) = (a == v || b == v) := by
  unfold endT
  rcases mkE_cases a b with ⟨e, _⟩ | ⟨e, _⟩ <;> rw [e]
  exact Bool.or_comm _ _
/-- In a walk no place is that ahead of it. -/
theorem run_apart {s : List Int} : ∀ {P q fin : List Int} {p : Int}, p ∈ P → (p :: q).Nodup → (∀ x ∈ q, x ∈ P) → run P (p :: q) s = some fin →
    ∀ v, ((stF p s).filter (endT v)).length + (if p = v then 1 else 0) + (if (p :: s).getLast (by simp) = v then 1 else 0) = 2 * (p :: s).count v := by
  induction s with
  | nil =>
    intro P q fin p _ _ _ _ v
    by_cases h : p = v
    · subst h; simp [stF]
    · simp [stF, h]
  | cons x s ih =>
    intro P q fin p hp hn hq h v
    have hlast : (p :: x :: s).getLast (by simp) = (x :: s).getLast (by simp) := by simp
    have step : x ≠ p → (((stF x s).filter (endT v)).length + (if x = v then 1 else 0) + (if (x :: s).getLast (by simp) = v then 1 else 0) = 2 * (x :: s).count v) →
        ((stF p (x :: s)).filter (endT v)).length + (if p = v then 1 else 0) + (if (p :: x :: s).getLast (by simp) = v then 1 else 0) = 2 * (p :: x :: s).count v := by
      intro hxp h2
      rw [hlast, stF, List.filter_cons, endT_mkE, List.count_cons (a := v) (b := p)]
      by_cases h3 : p = v
      · have h4 : ¬ x = v := fun h => hxp (by rw [h, h3])
        simp only [h3, h4, beq_iff_eq, if_true, if_false, beq_self_eq_true, Bool.true_or, List.length_cons] at h2 ⊢
        omega
      · by_cases h4 : x = v
        · simp only [h3, h4, beq_iff_eq, if_true, if_false, beq_self_eq_true, Bool.or_true, List.length_cons] at h2 ⊢
          omega
        · have e1 : (p == v) = false := by simpa using h3
          have e2 : (x == v) = false := by simpa using h4
          simp only [h3, h4, e1, e2, Bool.or_self, Bool.false_eq_true, if_false] at h2 ⊢
          omega
    rcases run_some h with ⟨hv, h'⟩ | ⟨hv, a, q', hqq, h'⟩
    · have hxp : x ≠ p := fun e => hv (e ▸ hp)
      refine step hxp (ih (P := x :: P) List.mem_cons_self ?_ (fun y hy => ?_) h' v)
      · rw [List.nodup_cons]
        refine ⟨fun hm => ?_, hn⟩
        rcases List.mem_cons.1 hm with hm | hm
        · exact hxp hm
        · exact hv (hq x hm)
      · rcases List.mem_cons.1 hy with rfl | hy
        · exact List.mem_cons_of_mem _ hp
        · exact List.mem_cons_of_mem _ (hq y hy)
    · injection hqq with h1 h2
      subst h1 h2
      rw [List.nodup_cons] at hn
      have hxp : x ≠ p := fun e => hn.1 (by rw [← e]; exact List.mem_cons_self)
      exact step hxp (ih (P := x :: P) List.mem_cons_self hn.2 (fun y hy => List.mem_cons_of_mem _ (hq y (List.mem_cons_of_mem _ hy))) h' v)
/-- A vertex stands in a tour as often as it has neighbours, the root once more. -/
theorem leaf_count {l : List Int} (h : isT l = true) (v : Int) : l.count v = ((edgesT l).filter (endT v)).length + (if v = atI l 0 then 1 else 0) := by
  have hz := isT_closed h
  have htw := steps_twice h
  match l, h, hz, htw with
  | r :: s, h, hz, htw =>
    have h1 := run_apart (P := [r]) (q := []) List.mem_cons_self (by simp) (by simp) (isT_iff.1 h) v
    have hl : (r :: s).getLast (by simp) = r := by
      have e : atI (r :: s) ((r :: s).length - 1) = (r :: s).getLast (by simp) := by
        rw [List.getLast_eq_getElem, atI_lt (by simp)]
      rw [← e, hz]; rfl
    rw [hl] at h1
    have hp : (stF r s).Perm (edgesT (r :: s) ++ edgesT (r :: s)) := by
      rw [List.perm_iff_count]
      intro e
      have := htw e
      rw [List.count_append]
      show (stepsT (r :: s)).count e = _
      omega
    have h2 := (hp.filter (endT v)).length_eq
    rw [List.filter_append, List.length_append] at h2
    have e0 : atI (r :: s) 0 = r := rfl
    rw [e0]
    by_cases hrv : r = v
    · rw [if_pos hrv] at h1
      rw [if_pos hrv.symm]; omega
    · rw [if_neg hrv] at h1
      rw [if_neg (fun h => hrv h.symm)]; omega

set_option maxRecDepth 100000 in
set_option maxHeartbeats 6400000 in
theorem tleaf_ok (l : List Int) (hwf : ∀ x ∈ l, (Lit.int .i64 x).wf = true) (A : Option Addr) (m c : Nat) (w : World) (hS : Sl w [] 1 A m c (ints .i64 l)) :
    Calls Try.prog 7 #[.slice A m c] w (Ret (.bool true) w) := by
  by_cases h1 : 60 < m
  · (go_enter Try.func7, Try.ntmps7)
    (go_wp2_with (fail); refine (wawake_ok _).mono ?_; rintro e x ⟨rfl, bx⟩; go_wp2_with (fail); go_ret; exact ⟨rfl, (Below.refl w.heap.size w).trans (bx.mono (Below.refl w.heap.size w).size)⟩)
  have hm : m ≤ 60 := by omega
  clear h1
  have HL := hide (show l.length = m by have := hS.len; simpa using this)
  have qr := fun W h => isT_any l hwf A m c W h (by omega)
  cases hr : isT l
  case false =>
    rw [hr] at qr
    have QR := hide qr
    clear qr hr hwf
    (go_enter Try.func7, Try.ntmps7)
    (go_wp2_with (fail); refine (QR.out w hS).mono ?_; rintro e w1 ⟨rfl, b1⟩; have S1 := hS.below b1)
    (go_wp2_with (fail); refine (wawake_ok _).mono ?_; rintro e x ⟨rfl, bx⟩; go_wp2_with (fail); go_ret; exact ⟨rfl, (b1).trans (bx.mono (b1).size)⟩)
  rw [hr] at qr
  have QR := hide qr
  clear qr
  have hm0 : 0 < m := by have := isT_ne hr; have := HL.out; omega
  have qv := fun W h => verts_any l hwf A m c W h (by omega)
  have qe := fun W h => edges_any l hwf A m c W h (by omega)
  rw [outV_in hr] at qv
  rw [outD_in hr] at qe
  have HC := hide (leaf_count hr)
  have HZ := hide (isT_closed hr)
  have hel : (edgesT l).length ≤ 60 := by have := tour_len hr; have := HL.out; omega
  have hvl : (vertsT l).length ≤ 61 := by have := tverts_len hr; have := HL.out; omega
  have QV := hide qv
  have QE := hide qe
  clear qv qe hr hwf
  generalize edgesT l = E at *
  generalize vertsT l = V at *
  have HC0 := hide (show ∀ k x, (l.take k).count x ≤ k from fun k x => Nat.le_trans List.count_le_length (by rw [List.length_take]; omega))
  have HE0 := hide (show ∀ k x, ((E.take k).filter (endT x)).length ≤ k from fun k x => filter_len _ E k)
  (go_enter Try.func7, Try.ntmps7)
  (go_wp2_with (fail); refine (QR.out w hS).mono ?_; rintro e w1 ⟨rfl, b1⟩; have S1 := hS.below b1)
  go_wp2_with (fail)
  refine (QV.out w1 S1).mono ?_
  rintro e w2 ⟨R2, d2, rfl, N2, b2⟩
  have hb2 := b1.trans (b2.mono b1.size)
  clear b2 b1 S1
  go_wp2_with (fail)
  go_loopw [23] (fun i wr => ∃ k : Nat, k ≤ V.length ∧ i = .int .i64 k ∧ Below w2.heap.size w2 wr) (fun i _ => V.length - (intOf i).toNat)
  case atStart => exact ⟨0, Nat.zero_le _, rfl, Below.refl _ _⟩
  case round =>
    obtain ⟨k, hk, rfl, hbr⟩ := hrel
    have hbw := hb2.trans (hbr.mono hb2.size)
    have Sr := hS.below hbw
    by_cases hlt : k < V.length
    · obtain ⟨vd, hV, hvd, _, hc⟩ := (N2.below hbr).at_ (by omega)
      subst hV
      have v0 := hc k (.int .i64 V[k]) (ints_get hlt)
      clear hc
      generalize V[k] = v at *
      obtain ⟨WL, rfl⟩ : ∃ W : World, W = wr := ⟨_, rfl⟩
      go_wp2_with (fail)
      go_loop [5, 29] (fun a i => ∃ j : Nat, j ≤ m ∧ i = .int .i64 j ∧ a = .int .i64 ((l.take j).count v : Nat)) (fun _ i => m - (intOf i).toNat)
      case atStart => exact ⟨0, Nat.zero_le _, rfl, by simp⟩
      case round =>
        obtain ⟨j, hj, rfl, rfl⟩ := hrel
        by_cases hjl : j < m
        · have hx : j < l.length := by have := HL.out; omega
          obtain ⟨ad, hA, had, _, hc⟩ := Sr.at_ (by omega)
          have c0 := hc j (.int .i64 l[j]) (ints_get hx)
          have HK := hide (show (l.take (j + 1)).count v = (l.take j).count v + (if l[j] = v then 1 else 0) by
            rw [List.take_succ_eq_append_getElem hx, List.count_append, List.count_singleton]; simp only [beq_iff_eq])
          have hcl := HC0.out j v
          clear hc
          generalize l[j] = x at *
          generalize (l.take j).count v = cn at *
          rw [hA]
          by_cases hxv : x = v
          · have HF := hide (show (l.take (j + 1)).count v = cn + 1 by rw [HK.out, if_pos hxv])
            have hd : (x == v) = true := by simp [hxv]
            clear hxv HK
            go_wp2_with (fail)
            exact ⟨⟨j + 1, by omega, by go_num, by rw [HF.out]; go_num⟩, by simp [intOf]; omega⟩
          · have HF := hide (show (l.take (j + 1)).count v = cn by rw [HK.out, if_neg hxv]; rfl)
            have hd : (x == v) = false := by simp [hxv]
            clear hxv HK
            go_wp2_with (fail)
            exact ⟨⟨j + 1, by omega, by go_num, by rw [HF.out]⟩, by simp [intOf]; omega⟩
        · have HT := hide (show l.take j = l from List.take_of_length_le (by have := HL.out; omega))
          rw [HT.out]
          have hcl : l.count v ≤ 60 := by have := HC0.out j v; rw [HT.out] at this; omega
          have HCV := hide (HC.out v)
          clear v0
          generalize l.count v = many at *
          go_wp2_with (fail)
          refine (QE.out WL Sr).mono ?_
          rintro e w4 ⟨R4, d4, rfl, Z4, b4⟩
          have hb4 := hbw.trans (b4.mono hbw.size)
          have hbr4 := hbr.trans (b4.mono hbr.size)
          clear b4
          go_wp2_with (fail)
          go_loopw [6, 42] (fun a i wr => ∃ q : Nat, q ≤ E.length ∧ i = .int .i64 q ∧ a = .int .i64 (((E.take q).filter (endT v)).length : Nat) ∧ Below w4.heap.size w4 wr) (fun _ i _ => E.length - (intOf i).toNat)
          case atStart => exact ⟨0, Nat.zero_le _, rfl, by simp, Below.refl _ _⟩
          case round =>
            obtain ⟨q, hq, rfl, rfl, hbq⟩ := hrel
            by_cases hql : q < E.length
            · obtain ⟨ed, hE, hed, _, e0, e1, e2⟩ := ESl.get (Z4.below hbq) hql
              rw [hE]
              have HK := hide (filter_step (endT v) E hql)
              have hcl2 := HE0.out q v
              generalize E[q] = x at *
              obtain ⟨a, b, t⟩ := x
              simp only [] at e0 e1 e2
              have hb0 := hbq.alloc hbq.size (.cells #[.int .i64 a, .int .i64 b, .int .i64 t] 38)
              generalize hcn : ((E.take q).filter (endT v)).length = cn at *
              have HCN := hide hcn
              clear hcn
              cases p1 : a == v
              · cases p2 : b == v
                · have HF := hide (show ((E.take (q + 1)).filter (endT v)).length = cn by rw [HK.out, if_neg (by simp [endT, p1, p2]), List.append_nil, HCN.out])
                  go_wp2_with (fail)
                  exact ⟨⟨q + 1, by omega, by go_num, by rw [HF.out], hb0⟩, by simp [intOf]; omega⟩
                · have HF := hide (show ((E.take (q + 1)).filter (endT v)).length = cn + 1 by rw [HK.out, if_pos (by simp [endT, p1, p2]), List.length_append, HCN.out]; rfl)
                  go_wp2_with (fail)
                  exact ⟨⟨q + 1, by omega, by go_num, by rw [HF.out]; go_num, hb0⟩, by simp [intOf]; omega⟩
              · have HF := hide (show ((E.take (q + 1)).filter (endT v)).length = cn + 1 by rw [HK.out, if_pos (by simp [endT, p1]), List.length_append, HCN.out]; rfl)
                go_wp2_with (fail)
                exact ⟨⟨q + 1, by omega, by go_num, by rw [HF.out]; go_num, hb0⟩, by simp [intOf]; omega⟩
            · have HT2 := hide (show E.take q = E from List.take_of_length_le (by omega))
              rw [HT2.out]
              have hcl2 := HE0.out q v
              rw [HT2.out] at hcl2
              have hbq4 := hb4.trans (hbq.mono hb4.size)
              have hbq2 := hbr4.trans (hbq.mono hbr4.size)
              obtain ⟨ad, hA, had, _, hc⟩ := (hS.below hbq4).at_ hm0
              have hl0 : 0 < l.length := by have := HL.out; omega
              have c0 := hc 0 (.int .i64 l[0]) (ints_get hl0)
              rw [← atI_lt hl0, add_zero_] at c0
              clear hc hl0
              have HM := hide (show many = (E.filter (endT v)).length + (if v = atI l 0 then 1 else 0) from HCV.out)
              generalize (E.filter (endT v)).length = near at *
              generalize atI l 0 = t0 at *
              subst hA
              by_cases hvt : v = t0
              · have HF := hide (show many = near + 1 by rw [HM.out, if_pos hvt])
                have hd : (v == t0) = true := by simp [hvt]
                rw [HF.out]
                clear hvt HM HCV hcl
                go_wp2_with (fail)
                exact ⟨⟨k + 1, by omega, by go_num, hbq2⟩, by simp [intOf]; omega⟩
              · have HF := hide (show many = near by rw [HM.out, if_neg hvt]; rfl)
                have hd : (v == t0) = false := by simp [hvt]
                rw [HF.out]
                clear hvt HM HCV hcl
                go_wp2_with (fail)
                exact ⟨⟨k + 1, by omega, by go_num, hbq2⟩, by simp [intOf]; omega⟩
    · obtain ⟨ad, hA, had, _, hc⟩ := Sr.at_ hm0
      have hl0 : 0 < l.length := by have := HL.out; omega
      have hl1 : m - 1 < l.length := by have := HL.out; omega
      have c0 := hc 0 (.int .i64 l[0]) (ints_get hl0)
      have c1 := hc (m - 1) (.int .i64 l[m - 1]) (ints_get hl1)
      rw [← atI_lt hl0, add_zero_] at c0
      rw [← atI_lt hl1] at c1
      have HZ2 := hide (show atI l (m - 1) = atI l 0 by rw [← HL.out]; exact HZ.out)
      rw [HZ2.out] at c1
      clear hc hl0 hl1 HZ2
      generalize atI l 0 = t0 at *
      rw [hA]
      have i0 : (0 : Int) ≤ (m : Int) - 1 := by omega
      have i0' : (1 : Int) ≤ (m : Int) := by omega
      have i1 : (m : Int) - 1 < (m : Int) := by omega
      have i2 : ((m : Int) - 1).toNat = m - 1 := by omega
      have hwk : (ad.add (m - 1)).block < wr.heap.size := by rw [block_of_add]; exact had
      go_wp2_with (fail)
      refine wp_region_lexD [11] (fun w' => Below (wr).heap.size (wr) w') (by kernel_rfl) (by kernel_rfl) (Below.refl _ _).drew ?_
      (repeat ((with_reducible refine wpLex_step (fun K hK => ?_)); go_simp; first | ((with_reducible refine hK _ _ ?_); clear hK K) | ((with_reducible apply Exists.intro); refine ⟨fun w' hw' => ?_, hK _ _ ?_⟩; (· (have hq := bcells hw'; apply valEq; (· (go_simp; first | done | (with_reducible rfl))); (· ((try go_bits); with_reducible rfl)))); clear hK K)))
      ((with_reducible refine wpLex_step (fun K hK => ?_)); go_simp; refine (wawake_ok wr.drew).mono ?_; rintro e w9 ⟨rfl, hbx⟩; have g9 := ((Below.refl wr.heap.size wr).drew).trans (hbx.mono ((Below.refl wr.heap.size wr).drew).size); refine ⟨_, rfl, g9, hK _ _ ?_⟩; clear hK K hbx)
      (repeat ((with_reducible refine wpLex_step (fun K hK => ?_)); go_simp; first | ((with_reducible refine hK _ _ ?_); clear hK K) | ((with_reducible apply Exists.intro); refine ⟨fun w' hw' => ?_, hK _ _ ?_⟩; (· (have hq := bcells hw'; apply valEq; (· (go_simp; first | done | (with_reducible rfl))); (· ((try go_bits); with_reducible rfl)))); clear hK K)))
      refine wpLex_nil (fun _ => ?_)
      go_wp2_with (fail)
      go_ret
      exact ⟨rfl, hbw.trans (g9.mono hbw.size)⟩
end Go.Proofs.Ytbnkanhibjoleaa
