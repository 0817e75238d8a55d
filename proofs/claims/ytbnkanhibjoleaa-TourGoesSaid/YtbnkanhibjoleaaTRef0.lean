/-
  The document's test of a tour is a walk on a stack: plain.
-/
import Derived.Test.YtbnkanhibjoleaaTCut0
namespace Go.Proofs.Ytbnkanhibjoleaa
open Go Go.RowKit

/-- Each one on the stack stands first right behind the one below it. -/
def Lnk (X : List Int) : List Int → Prop
  | a :: b :: q => (∃ Y Z, X = Y ++ b :: a :: Z ∧ a ∉ Y ∧ a ≠ b) ∧ Lnk X (b :: q)
  | _ => True
theorem Lnk.tail {X : List Int} {a b : Int} {q : List Int} (h : Lnk X (a :: b :: q)) : Lnk X (b :: q) := h.2
theorem Lnk.more (W : List Int) {X : List Int} : ∀ {st : List Int}, Lnk X st → Lnk (X ++ W) st
  | [], _ => trivial
  | [_], _ => trivial
  | a :: b :: q, h => by
    obtain ⟨⟨Y, Z, e, h1, h2⟩, h3⟩ := h
    exact ⟨⟨Y, Z ++ W, by rw [e]; simp, h1, h2⟩, Lnk.more W h3⟩
/-- What the stack is behind the places X. -/
structure Inv (r : Int) (X st : List Int) : Prop where
  nd : st.Nodup
  mem : ∀ x ∈ st, x ∈ X
  lnk : Lnk X st
  top : ∃ Y v q, X = Y ++ [v] ∧ st = v :: q
  bot : st.getLast? = some r
theorem Inv.step {r v : Int} {P X st st' : List Int} (h : Inv r X st) (hP : ∀ x, x ∈ P ↔ x ∈ X) (e : step1 P st v = some st') : Inv r (X ++ [v]) st' := by
  obtain ⟨Y, a, q, hX, rfl⟩ := h.top
  unfold step1 at e
  by_cases hv : v ∈ P
  · rw [if_pos hv] at e
    match q, h, e with
    | [], h, e => cases e
    | b :: q, h, e =>
      by_cases hb : b = v
      · subst hb
        simp only [popTo, if_true, Option.some.injEq] at e
        subst e
        refine ⟨(List.nodup_cons.1 h.nd).2, fun x hx => ?_, h.lnk.tail.more _, ⟨X, b, q, rfl, rfl⟩, ?_⟩
        · exact List.mem_append_left _ (h.mem x (List.mem_cons_of_mem _ hx))
        · rw [← h.bot, List.getLast?_cons_cons]
      · simp [popTo, hb] at e
  · rw [if_neg hv, Option.some.injEq] at e
    subst e
    have hvX : v ∉ X := fun hx => hv ((hP v).2 hx)
    refine ⟨List.nodup_cons.2 ⟨fun hx => hvX (h.mem v hx), h.nd⟩, fun x hx => ?_, ⟨⟨Y, [], ?_, ?_, ?_⟩, h.lnk.more _⟩, ⟨X, v, a :: q, rfl, rfl⟩, ?_⟩
    · rcases List.mem_cons.1 hx with rfl | hx
      · simp
      · exact List.mem_append_left _ (h.mem x hx)
    · rw [hX]; simp
    · intro hy; exact hvX (by rw [hX]; simp [hy])
    · intro e; exact hvX (by rw [hX, e]; simp)
    · rw [List.getLast?_cons_cons]; exact h.bot
theorem Inv.run {r : Int} : ∀ {s P X st fin : List Int}, Inv r X st → (∀ x, x ∈ P ↔ x ∈ X) → run P st s = some fin → Inv r (X ++ s) fin
  | [], P, X, st, fin, h, _, e => by rw [run_nil] at e; injection e with e; subst e; simpa using h
  | v :: s, P, X, st, fin, h, hP, e => by
    rw [run_cons] at e
    cases hs : step1 P st v with
    | none => rw [hs] at e; cases e
    | some st' =>
      rw [hs] at e
      have := Inv.run (h.step hP hs) (fun x => by rw [List.mem_append, List.mem_cons, hP, List.mem_singleton]; exact Or.comm) e
      simpa using this
theorem Inv.one (r : Int) : Inv r [r] [r] := ⟨by simp, by simp, trivial, ⟨[], r, [], rfl, rfl⟩, rfl⟩

theorem firstI_of {x : Int} : ∀ {Y Z : List Int} {k : Int}, x ∉ Y → firstI (Y ++ x :: Z) x k = k + Y.length
  | [], Z, k, _ => by simp [firstI]
  | y :: Y, Z, k, h => by
    rw [List.mem_cons, not_or] at h
    rw [List.cons_append, firstI, if_neg (fun e => h.1 e.symm), firstI_of h.2, List.length_cons]
    omega
theorem atI_mid {x : Int} {Y Z : List Int} : atI (Y ++ x :: Z) Y.length = x := by
  rw [atI_lt (by simp)]; simp
theorem lastK_of {l : List Int} {v d : Int} {e n : Nat} (h : e < n) (h1 : atI l e = v) (h2 : ∀ i, e < i → i < n → atI l i ≠ v) : lastK l v d n = e := by
  obtain ⟨f, h3, h4, h5, h6⟩ := lastK_spec l v d n ⟨e, h, h1⟩
  rw [h3]
  rcases Nat.lt_trichotomy e f with h7 | h7 | h7
  · exact absurd h5 (h2 f h7 h4)
  · rw [h7]
  · exact absurd h1 (h6 e h7 h)
theorem lastK_mid {x d : Int} {Y Z : List Int} (h : x ∉ Z) : lastK (Y ++ x :: Z) x d (Y ++ x :: Z).length = (Y.length : Int) := by
  refine lastK_of (by simp) atI_mid fun i h1 h2 e => h ?_
  rw [atI_lt h2, List.getElem_append_right (by omega)] at e
  rw [List.getElem_cons] at e
  rw [dif_neg (by omega)] at e
  rw [← e]; exact List.getElem_mem _

theorem first_split {v : Int} {X : List Int} (h : v ∈ X) : ∃ T D, X = T ++ v :: D ∧ v ∉ T := by
  obtain ⟨f, _, hf, h3, h4⟩ := first_spec X v 0 (Int.le_refl _) ((firstI_mem _ v 0 (Int.le_refl _)).2 h)
  exact ⟨X.take f, X.drop (f + 1), by rw [← h3, List.getElem_cons_drop, List.take_append_drop], h4⟩
/-- What the document asks of the place i. -/
def OkR (l : List Int) (i : Nat) : Prop :=
  (firstI l (atI l i) 0 = i → ∃ e : Nat, lastK l (atI l i) (-1) l.length = e ∧ e + 1 < l.length ∧ atI l (e + 1) = atI l (i - 1)) ∧
  (firstI l (atI l i) 0 ≠ i → atI l (i - 1) ≠ atI l i ∧ firstI l (atI l (i - 1)) 0 ≠ 0 ∧ lastK l (atI l (i - 1)) (-1) l.length = (i : Int) - 1 ∧ ∃ f : Nat, firstI l (atI l (i - 1)) 0 = (f : Int) ∧ atI l (f - 1) = atI l i)

theorem okR_of {l : List Int} (h : isT l = true) {i : Nat} (h0 : 0 < i) (hi : i < l.length) : OkR l i := by
  match l, h with
  | r :: s, h =>
    rw [isT_iff] at h
    obtain ⟨k, rfl⟩ : ∃ k, i = k + 1 := ⟨i - 1, by omega⟩
    have hk : k < s.length := by simpa using hi
    have hs : s = s.take k ++ s[k] :: s.drop (k + 1) := by rw [List.getElem_cons_drop, List.take_append_drop]
    generalize hs1 : s.take k = s1 at hs
    generalize s[k] = v at hs
    generalize s.drop (k + 1) = s2 at hs
    have hkl : s1.length = k := by rw [← hs1, List.length_take]; omega
    clear hs1
    subst hs
    have hat : atI (r :: (s1 ++ v :: s2)) (k + 1) = v := by
      have := @atI_mid v (r :: s1) s2
      rw [List.length_cons, hkl] at this; exact this
    rw [run_app] at h
    cases hr : run [r] [r] s1 with
    | none => rw [hr] at h; cases h
    | some st =>
      rw [hr] at h
      simp only [Option.bind_some] at h
      have hI := (Inv.one r).run (fun x => Iff.rfl) hr
      obtain ⟨Y, a, q, hX, rfl⟩ := hI.top
      have hYl : Y.length = k := by
        have := congrArg List.length hX
        simp at this; omega
      have hP : ∀ x, x ∈ s1.reverse ++ [r] ↔ x ∈ [r] ++ s1 := by intro x; simp [or_comm]
      have hal : r :: (s1 ++ v :: s2) = Y ++ a :: v :: s2 := by
        have : r :: s1 = Y ++ [a] := hX
        rw [← List.cons_append, this]; simp
      have hata : atI (r :: (s1 ++ v :: s2)) (k + 1 - 1) = a := by
        rw [Nat.add_sub_cancel, hal, ← hYl]; exact atI_mid
      unfold OkR
      rw [hat, hata]
      rcases run_some h with ⟨hv, h'⟩ | ⟨hv, a', q', hq, h'⟩
      · have hvX : v ∉ r :: s1 := fun hx => hv ((hP v).2 hx)
        have hfe : firstI (r :: (s1 ++ v :: s2)) v 0 = ((k + 1 : Nat) : Int) := by
          rw [← List.cons_append, firstI_of hvX, List.length_cons, hkl]; omega
        refine ⟨fun _ => ?_, fun hne => absurd hfe hne⟩
        obtain ⟨X, Q, c, rfl, h1, h2, h3⟩ := run_split (st := [v]) (r := a) (q := q) (by simp) h' (by simp)
        simp only [List.getLast?_singleton, Option.some.injEq] at h2
        subst h2
        have hvQ : v ∉ a :: Q := by
          have hvs : v ∉ a :: q := fun hx => hvX (hI.mem v hx)
          have := (run_dead (x := v) (by simp) hvs h3).1
          intro hx
          rcases List.mem_cons.1 hx with e | hx
          · exact hvs (by simp [e])
          · exact this hx
        have hb : ∃ B, v :: X = B ++ [v] := by
          rcases List.eq_nil_or_concat X with rfl | ⟨X', z, rfl⟩
          · exact ⟨[], rfl⟩
          · rw [List.concat_eq_append] at h1 ⊢
            obtain ⟨_, hq⟩ := run_top h1
            have hz : v = z := by injection hq
            subst hz
            exact ⟨v :: X', rfl⟩
        obtain ⟨B, hB⟩ := hb
        have hl : r :: (s1 ++ v :: (X ++ a :: Q)) = (r :: s1 ++ B) ++ v :: (a :: Q) := by
          rw [← List.cons_append, ← List.cons_append, hB]; simp
        refine ⟨(r :: s1 ++ B).length, ?_, ?_, ?_⟩
        · rw [hl, lastK_mid hvQ]
        · rw [hl]; simp; omega
        · rw [hl]
          have := @atI_mid a (r :: s1 ++ B ++ [v]) Q
          rw [show (r :: s1 ++ B ++ [v]).length = (r :: s1 ++ B).length + 1 by simp; omega] at this
          simpa using this
      · injection hq with e1 e2
        subst e1 e2
        have hvX : v ∈ r :: s1 := (hP v).1 hv
        refine ⟨fun hf => ?_, fun _ => ?_⟩
        · exfalso
          obtain ⟨T, D, hsp, h4⟩ := first_split hvX
          rw [← List.cons_append, hsp, List.append_assoc, List.cons_append, firstI_of h4] at hf
          have := congrArg List.length hsp
          simp at this
          omega
        · have hav : a ≠ v := by
            have := (List.nodup_cons.1 hI.nd).1
            intro e; exact this (by simp [e])
          obtain ⟨⟨U, Z, e, hU, _⟩, _⟩ := hI.lnk
          have hl : r :: (s1 ++ v :: s2) = (U ++ [v]) ++ a :: (Z ++ v :: s2) := by
            have : r :: s1 = U ++ v :: a :: Z := e
            rw [← List.cons_append, this]; simp
          have hfa : firstI (r :: (s1 ++ v :: s2)) a 0 = ((U.length + 1 : Nat) : Int) := by
            rw [hl, firstI_of (by simp [hU, hav])]; simp
          have hdead : a ∉ v :: s2 := by
            have := (run_dead (x := a) (by
              have : a ∈ r :: s1 := hI.mem a (by simp)
              exact List.mem_cons_of_mem _ ((hP a).2 this)) (List.nodup_cons.1 hI.nd).1 h').1
            simp [hav, this]
          refine ⟨hav, by rw [hfa]; omega, ?_, U.length + 1, hfa, ?_⟩
          · rw [hal, lastK_mid hdead]; omega
          · rw [hl, Nat.add_sub_cancel, List.append_assoc]; exact atI_mid

theorem isT_of {l : List Int} (hl : 0 < l.length) (hc : atI l 0 = atI l (l.length - 1)) (hok : ∀ i, 0 < i → i < l.length → OkR l i) : isT l = true := by
  match l, hl, hc, hok with
  | r :: s, _, hc, hok =>
    have key : ∀ k, k ≤ s.length → ∃ st, run [r] [r] (s.take k) = some st := by
      intro k
      induction k with
      | zero => intro _; exact ⟨[r], rfl⟩
      | succ k ih =>
        intro hk
        obtain ⟨st, hr⟩ := ih (by omega)
        have hI := (Inv.one r).run (fun x => Iff.rfl) hr
        have hsk : k < s.length := by omega
        have hP : ∀ x, x ∈ (s.take k).reverse ++ [r] ↔ x ∈ [r] ++ s.take k := by intro x; simp [or_comm]
        rw [List.take_succ_eq_append_getElem hsk, run_app, hr]
        simp only [Option.bind_some]
        have hat : atI (r :: s) (k + 1) = s[k] := by rw [atI_lt (by simpa using hsk)]; rfl
        have hs : r :: s = (r :: s.take k) ++ s[k] :: s.drop (k + 1) := by rw [List.cons_append, List.getElem_cons_drop, List.take_append_drop]
        generalize s[k] = v at *
        have hkl : (s.take k).length = k := by rw [List.length_take]; omega
        by_cases hv : v ∈ (s.take k).reverse ++ [r]
        · have hvX : v ∈ r :: s.take k := (hP v).1 hv
          obtain ⟨Y, a, q, hX, rfl⟩ := hI.top
          have hYl : Y.length = k := by
            have := congrArg List.length hX
            simp only [List.length_append, List.length_cons, List.length_nil, hkl] at this; omega
          have hata : atI (r :: s) (k + 1 - 1) = a := by
            have : r :: s = Y ++ a :: (v :: s.drop (k + 1)) := by
              have h2 : r :: s.take k = Y ++ [a] := hX
              rw [hs, h2]; simp
            rw [Nat.add_sub_cancel, this, ← hYl]; exact atI_mid
          have hok1 := (hok (k + 1) (by omega) (by simpa using hsk)).2
          rw [hat, hata] at hok1
          obtain ⟨h1, h2, h3, f, h4, h5⟩ := hok1 (by
            obtain ⟨T, D, hsp, h4⟩ := first_split hvX
            rw [hs, hsp, List.append_assoc, List.cons_append, firstI_of h4]
            have := congrArg List.length hsp
            rw [List.length_cons, List.length_append, List.length_cons, hkl] at this
            omega)
          match q, hI with
          | [], hI =>
            exfalso
            have hb := hI.bot
            simp only [List.getLast?_singleton, Option.some.injEq] at hb
            subst hb
            exact h2 (by simp [firstI])
          | b :: q, hI =>
            obtain ⟨⟨U, Z, e, hU, hab⟩, _⟩ := hI.lnk
            have hl2 : r :: s = (U ++ [b]) ++ a :: (Z ++ v :: s.drop (k + 1)) := by
              have h2 : r :: s.take k = U ++ b :: a :: Z := e
              rw [hs, h2]; simp
            have hfa : firstI (r :: s) a 0 = ((U.length + 1 : Nat) : Int) := by
              rw [hl2, firstI_of (by simp [hU, hab])]; simp
            have hf : f = U.length + 1 := by omega
            have hbv : b = v := by
              rw [← h5, hf, Nat.add_sub_cancel, hl2, List.append_assoc]
              exact atI_mid.symm
            subst hbv
            exact ⟨b :: q, by rw [run_back hv, run_nil]⟩
        · exact ⟨v :: st, by rw [run_new hv, run_nil]⟩
    obtain ⟨st, hr⟩ := key s.length (Nat.le_refl _)
    rw [List.take_length] at hr
    have hI := (Inv.one r).run (fun x => Iff.rfl) hr
    obtain ⟨Y, a, q, hX, rfl⟩ := hI.top
    have hX' : r :: s = Y ++ [a] := hX
    have hra : r = a := by
      have e1 : atI (r :: s) 0 = r := rfl
      rw [e1] at hc
      rw [hc, hX']
      have := @atI_mid a Y []
      rw [show (Y ++ [a]).length - 1 = Y.length by simp]
      exact this
    rw [isT_iff, hr]
    match q, hI with
    | [], _ => rw [hra]
    | b :: q, hI =>
      exfalso
      have hb := hI.bot
      rw [List.getLast?_cons_cons] at hb
      have := List.mem_of_getLast? hb
      exact (List.nodup_cons.1 hI.nd).1 (by rw [← hra]; exact this)
end Go.Proofs.Ytbnkanhibjoleaa
