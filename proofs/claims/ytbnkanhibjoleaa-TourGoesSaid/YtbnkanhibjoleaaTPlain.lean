/-
  The plain law of tours: rerooted they have the same edges; linked and cut they fall into what they were.
-/
import Derived.Test.YtbnkanhibjoleaaTCutW
namespace Go.Proofs.Ytbnkanhibjoleaa
open Go Go.RowKit

theorem rotT_succ {l : List Int} {f : Nat} (h : f + 1 < l.length) : ∃ s, rotT l f = l[f] :: l[f + 1] :: s ∧ rotT l (f + 1) = l[f + 1] :: s ++ [l[f + 1]] := by
  refine ⟨l.drop (f + 2) ++ (l.take (f + 1)).drop 1, ?_, ?_⟩
  · unfold rotT
    rw [List.drop_eq_getElem_cons (show f < l.length by omega), List.drop_eq_getElem_cons h]; rfl
  · unfold rotT
    rw [List.drop_eq_getElem_cons h, List.take_succ_eq_append_getElem h, List.drop_append_of_le_length (by rw [List.length_take]; omega), List.cons_append, List.cons_append, List.append_assoc]
theorem rot_tour {l : List Int} (h : isT l = true) : ∀ {f : Nat}, f < l.length → isT (rotT l f) = true := by
  intro f
  induction f with
  | zero => intro _; rw [rotT_zero]; exact h
  | succ f ih =>
    intro hf
    obtain ⟨s, e1, e2⟩ := rotT_succ hf
    have := ih (by omega)
    rw [e1] at this
    rw [e2]
    exact tour_rot1 this
/-- The steps of a walk. -/
def stF (p : Int) : List Int → List E3
  | [] => []
  | v :: s => mkE p v :: stF v s
def stepsT : List Int → List E3
  | [] => []
  | r :: s => stF r s
theorem stF_snoc (p c : Int) (s : List Int) : stF p (s ++ [c]) = stF p s ++ [mkE ((p :: s).getLast (by simp)) c] := by
  induction s generalizing p with
  | nil => rfl
  | cons v s ih =>
    rw [List.cons_append, stF, stF, ih]
    simp
/-- New edges of a walk. -/
def edF (P : List Int) (p : Int) : List Int → List E3
  | [] => []
  | v :: s => (if v ∈ P then [] else [mkE v p]) ++ edF (v :: P) v s
def pathE : List Int → List E3
  | a :: b :: q => mkE a b :: pathE (b :: q)
  | _ => []
theorem mkE_comm (a b : Int) : mkE a b = mkE b a := by
  unfold mkE
  by_cases h1 : a < b
  · rw [if_pos h1, if_neg (by omega)]
  · by_cases h2 : b < a
    · rw [if_neg h1, if_pos h2]
    · have : a = b := by omega
      subst this; rfl
theorem run_count (e : E3) {s : List Int} : ∀ {P q fin : List Int} {p : Int}, run P (p :: q) s = some fin → (stF p s).count e + (pathE fin).count e = 2 * (edF P p s).count e + (pathE (p :: q)).count e := by
  induction s with
  | nil => intro P q fin p h; rw [run_nil] at h; injection h with h; subst h; simp [stF, edF]
  | cons v s ih =>
    intro P q fin p h
    rcases run_some h with ⟨hv, h'⟩ | ⟨hv, a, q', hq, h'⟩
    · have := ih h'
      rw [stF, edF, if_neg hv, List.count_cons, List.count_append, List.count_singleton]
      have e1 : pathE (v :: p :: q) = mkE v p :: pathE (p :: q) := rfl
      rw [e1, List.count_cons] at this
      rw [mkE_comm p v]
      omega
    · injection hq with h1 h2
      subst h1 h2
      have := ih h'
      rw [stF, edF, if_pos hv, List.count_cons, List.nil_append]
      have e1 : pathE (p :: v :: q') = mkE p v :: pathE (v :: q') := rfl
      rw [e1, List.count_cons]
      omega
theorem run_len {s : List Int} : ∀ {P q fin : List Int} {p : Int}, run P (p :: q) s = some fin → s.length + (p :: q).length = 2 * (edF P p s).length + 2 * (p :: q).length - fin.length ∧ fin.length ≤ 2 * (edF P p s).length + (p :: q).length := by
  induction s with
  | nil => intro P q fin p h; rw [run_nil] at h; injection h with h; subst h; simp [edF]; omega
  | cons v s ih =>
    intro P q fin p h
    rcases run_some h with ⟨hv, h'⟩ | ⟨hv, a, q', hq, h'⟩
    · have := ih h'
      rw [edF, if_neg hv, List.length_append, List.length_cons]
      simp only [List.length_cons, List.length_nil] at *
      omega
    · injection hq with h1 h2
      subst h1 h2
      have := ih h'
      rw [edF, if_pos hv, List.nil_append, List.length_cons]
      simp only [List.length_cons, List.length_nil] at *
      omega
/-- The edges that the program tells, by the walk. -/
theorem edF_at (l : List Int) : ∀ (n k : Nat) (P : List Int), 0 < k → k + n = l.length → (∀ x, x ∈ P ↔ x ∈ l.take k) → edF P (atI l (k - 1)) (l.drop k) = ((List.range' k n).filter (newAt l)).map (edgeAt l) := by
  intro n
  induction n with
  | zero =>
    intro k P _ hk _
    rw [List.drop_eq_nil_of_le (by omega)]; rfl
  | succ n ih =>
    intro k P h0 hk hP
    have hkl : k < l.length := by omega
    rw [List.drop_eq_getElem_cons hkl, edF, List.range'_succ, List.filter_cons]
    have hrest := ih (k + 1) (l[k] :: P) (by omega) (by omega) (fun x => by
      rw [List.take_succ_eq_append_getElem hkl, List.mem_append, List.mem_cons, List.mem_singleton, hP]; exact Or.comm)
    rw [Nat.add_sub_cancel, atI_lt hkl] at hrest
    rw [hrest]
    have hn : newAt l k = decide (l[k] ∉ P) := by
      unfold newAt
      rw [atI_lt hkl]
      by_cases hm : l[k] ∈ l.take k
      · have := (hP l[k]).2 hm; simp [hm, this]
      · have hnp : l[k] ∉ P := fun (h : l[k] ∈ P) => hm ((hP l[k]).1 h)
        rw [decide_eq_true hm, decide_eq_true hnp]
    rw [hn]
    by_cases hm : l[k] ∈ P
    · rw [if_pos hm, if_neg (by simpa using hm)]; rfl
    · rw [if_neg hm, if_pos (by simpa using hm), List.map_cons]
      have : edgeAt l k = mkE l[k] (atI l (k - 1)) := by unfold edgeAt; rw [atI_lt hkl]
      rw [this]; rfl
theorem edgesT_edF (r : Int) (s : List Int) : edgesT (r :: s) = edF [r] r s := by
  unfold edgesT
  rw [List.length_cons, firstsN_cons]
  have h := edF_at (r :: s) s.length 1 [r] (by omega) (by simp; omega) (fun x => by simp)
  have e1 : (r :: s).drop 1 = s := rfl
  have e2 : atI (r :: s) (1 - 1) = r := rfl
  rw [e1, e2] at h
  rw [h, List.drop_succ_cons, List.drop_zero]
  congr 2
  rw [List.range'_eq_map_range]
  congr 1
  funext x
  omega
theorem verts_len (l : List Int) (h : 0 < l.length) : (vertsT l).length = (edgesT l).length + 1 := by
  unfold vertsT edgesT
  obtain ⟨m, hm⟩ : ∃ m, l.length = m + 1 := ⟨l.length - 1, by omega⟩
  rw [hm, firstsN_cons]
  simp
/-- Each edge is walked twice. -/
theorem steps_twice {l : List Int} (h : isT l = true) (e : E3) : (stepsT l).count e = 2 * (edgesT l).count e := by
  match l, h with
  | r :: s, h =>
    rw [edgesT_edF]
    have := run_count e (isT_iff.1 h)
    simpa [stepsT, pathE] using this
theorem tour_len {l : List Int} (h : isT l = true) : l.length = 2 * (edgesT l).length + 1 := by
  match l, h with
  | r :: s, h =>
    rw [edgesT_edF]
    have := (run_len (isT_iff.1 h))
    simp only [List.length_cons, List.length_nil] at *
    omega
theorem steps_rot1 {r c : Int} {s : List Int} (h : isT (r :: c :: s) = true) (e : E3) : (stepsT (c :: s ++ [c])).count e = (stepsT (r :: c :: s)).count e := by
  have hc := isT_closed h
  have e1 : (c :: s).getLast (by simp) = r := by
    have : atI (r :: c :: s) ((r :: c :: s).length - 1) = (c :: s).getLast (by simp) := by
      rw [List.getLast_eq_getElem]
      unfold atI
      simp [List.getD]
    rw [← this, hc]; rfl
  show (stF c (s ++ [c])).count e = (stF r (c :: s)).count e
  rw [stF_snoc, e1, stF]
  exact List.Perm.count_eq List.perm_append_comm e
theorem steps_rot {l : List Int} (h : isT l = true) (e : E3) : ∀ {f : Nat}, f < l.length → (stepsT (rotT l f)).count e = (stepsT l).count e := by
  intro f
  induction f with
  | zero => intro _; rw [rotT_zero]
  | succ f ih =>
    intro hf
    obtain ⟨s, e1, e2⟩ := rotT_succ hf
    have ht := rot_tour h (show f < l.length by omega)
    have := ih (by omega)
    rw [e1] at this ht
    rw [e2, ← this]
    exact steps_rot1 ht e
theorem edges_rot {l : List Int} (h : isT l = true) {f : Nat} (hf : f < l.length) : (edgesT (rotT l f)).Perm (edgesT l) := by
  rw [List.perm_iff_count]
  intro e
  have h1 := steps_twice h e
  have h2 := steps_twice (rot_tour h hf) e
  have h3 := steps_rot h e hf
  omega
theorem edges_zero {l : List Int} {e : E3} (he : e ∈ edgesT l) : e.2.2 = 0 := by
  unfold edgesT at he
  obtain ⟨p, _, rfl⟩ := List.mem_map.1 he
  unfold edgeAt mkE
  split <;> rfl
/-- All of it, for the tour from a vertex on. -/
theorem from_tour {l : List Int} (h : isT l = true) {u : Int} (hu : u ∈ l) : isT (fromT l u) = true ∧ (edgesT (fromT l u)).Perm (edgesT l) := by
  obtain ⟨f, ef, hf, _, _⟩ := first_spec l u 0 (Int.le_refl _) ((firstI_mem l u 0 (Int.le_refl _)).2 hu)
  unfold fromT
  rw [ef, Int.zero_add, Int.toNat_natCast]
  exact ⟨rot_tour h hf, edges_rot h hf⟩
end Go.Proofs.Ytbnkanhibjoleaa
