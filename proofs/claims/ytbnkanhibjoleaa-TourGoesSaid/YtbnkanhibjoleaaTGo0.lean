/-
  Trees linked and cut, plain: what a link and a cut make of tours.
-/
import Derived.Test.YtbnkanhibjoleaaTSplit0
import Derived.Test.YtbnkanhibjoleaaTRef0
namespace Go.Proofs.Ytbnkanhibjoleaa
open Go Go.RowKit

theorem edF_congr {s : List Int} : ∀ {P P' : List Int} {p : Int}, (∀ v ∈ s, v ∈ P ↔ v ∈ P') → edF P p s = edF P' p s := by
  induction s with
  | nil => intros; rfl
  | cons v s ih =>
    intro P P' p h
    have hv := h v List.mem_cons_self
    have h' : ∀ x ∈ s, x ∈ v :: P ↔ x ∈ v :: P' := fun x hx => by rw [List.mem_cons, List.mem_cons, h x (List.mem_cons_of_mem _ hx)]
    rw [edF, edF, ih h']
    by_cases hp : v ∈ P
    · rw [if_pos hp, if_pos (hv.1 hp)]
    · rw [if_neg hp, if_neg (fun x => hp (hv.2 x))]
theorem edF_app {s : List Int} : ∀ {P t : List Int} {p : Int}, edF P p (s ++ t) = edF P p s ++ edF (s.reverse ++ P) ((p :: s).getLast (by simp)) t := by
  induction s with
  | nil => intros; rfl
  | cons v s ih =>
    intro P t p
    rw [List.cons_append, edF, edF, ih, List.append_assoc]
    have e : (v :: s).reverse ++ P = s.reverse ++ v :: P := by simp
    have e2 : (p :: v :: s).getLast (by simp) = (v :: s).getLast (by simp) := by simp
    rw [e, e2]
/-- What is new above what is new does not come from below. -/
theorem run_new_apart {s : List Int} : ∀ {P P0 st fin : List Int}, (∀ x ∈ P0, x ∈ P) → (∀ x ∈ st, x ∉ P0) → run P st s = some fin → ∀ x ∈ s, x ∉ P0 := by
  induction s with
  | nil => intro P P0 st fin _ _ _ x hx; cases hx
  | cons v s ih =>
    intro P P0 st fin h1 h2 h x hx
    have h1' : ∀ x ∈ P0, x ∈ v :: P := fun x hx => List.mem_cons_of_mem _ (h1 x hx)
    rcases run_some h with ⟨hv, h'⟩ | ⟨hv, a, q, rfl, h'⟩
    · have hv0 : v ∉ P0 := fun hm => hv (h1 v hm)
      rcases List.mem_cons.1 hx with rfl | hx
      · exact hv0
      · exact ih h1' (fun y hy => by rcases List.mem_cons.1 hy with rfl | hy; exact hv0; exact h2 y hy) h' x hx
    · rcases List.mem_cons.1 hx with rfl | hx
      · exact h2 x (by simp)
      · exact ih h1' (fun y hy => h2 y (List.mem_cons_of_mem _ hy)) h' x hx
theorem last_of {A : List Int} {u : Int} {s : List Int} (hA : A = u :: s) (h : atI A (A.length - 1) = u) : (u :: s).getLast (by simp) = u := by
  subst hA
  have : atI (u :: s) ((u :: s).length - 1) = (u :: s).getLast (by simp) := by rw [List.getLast_eq_getElem, atI_lt (by simp)]
  rw [← this]; exact h
/-- The edges of what is linked. -/
theorem link_perm {A B : List Int} {u v : Int} (hA : Loop A u) (hB : Loop B v) (hd : ∀ x ∈ A, x ∉ B) : (edgesT (A ++ B ++ [u])).Perm (mkE u v :: (edgesT A ++ edgesT B)) := by
  obtain ⟨a, ha⟩ := hA.cons
  obtain ⟨b, hb⟩ := hB.cons
  have la := last_of ha hA.last
  have lb := last_of hb hB.last
  subst ha hb
  have e0 : u :: a ++ v :: b ++ [u] = u :: (a ++ (v :: (b ++ [u]))) := by simp
  have hv : v ∉ a.reverse ++ [u] := fun h => hd v (by
    rcases List.mem_append.1 h with h | h
    · exact List.mem_cons_of_mem _ (List.mem_reverse.1 h)
    · rw [List.mem_singleton.1 h]; exact List.mem_cons_self) List.mem_cons_self
  rw [e0, edgesT_edF, edgesT_edF, edgesT_edF, edF_app, la, edF, if_neg hv, edF_app, lb]
  have eb : edF (v :: (a.reverse ++ [u])) v b = edF [v] v b := edF_congr fun x hx => by
    constructor
    · intro h
      rcases List.mem_cons.1 h with h | h
      · rw [h]; simp
      · exfalso
        refine hd x ?_ (List.mem_cons_of_mem _ hx)
        rcases List.mem_append.1 h with h | h
        · exact List.mem_cons_of_mem _ (List.mem_reverse.1 h)
        · rw [List.mem_singleton.1 h]; exact List.mem_cons_self
    · intro h; rw [List.mem_singleton.1 h]; simp
  have eu : edF (b.reverse ++ v :: (a.reverse ++ [u])) v [u] = [] := by
    rw [edF, if_pos (by simp)]; rfl
  rw [eb, eu, List.append_nil, mkE_comm v u]
  simp

/-- What a cut makes of the tour from u on. -/
theorem cut_split {s : List Int} {u v : Int} (h : isT (u :: s) = true) (he : mkE u v ∈ edgesT (u :: s)) :
    ∃ s1 X Q, u :: s = (u :: s1) ++ (v :: X) ++ u :: Q ∧ atI (u :: s1) ((u :: s1).length - 1) = u ∧ isT (v :: X) = true ∧ isT (u :: s1 ++ Q) = true ∧ v ∉ u :: s1 ∧ v ∉ u :: Q ∧
      (∀ x ∈ v :: X, x ∉ u :: s1 ++ Q) ∧ (edgesT (u :: s)).Perm (mkE u v :: (edgesT (u :: s1 ++ Q) ++ edgesT (v :: X))) ∧ atI (v :: X) ((v :: X).length - 1) = v := by
  obtain ⟨p, hp0, hpl, e, hn⟩ := edge_spec (by simp) he
  have hu : u ∈ (u :: s).take p := by
    obtain ⟨k, rfl⟩ : ∃ k, p = k + 1 := ⟨p - 1, by omega⟩
    rw [List.take_succ_cons]; simp
  have hpv : atI (u :: s) p = v ∧ atI (u :: s) (p - 1) = u := by
    rcases mkE_eq e with ⟨h1, h2⟩ | ⟨h1, h2⟩
    · exfalso; exact hn (by rw [← h1]; exact hu)
    · exact ⟨h2.symm, h1.symm⟩
  obtain ⟨hv, hpu⟩ := hpv
  rw [hv] at hn
  obtain ⟨k, rfl⟩ : ∃ k, p = k + 1 := ⟨p - 1, by omega⟩
  have hks : k < s.length := by simpa using hpl
  rw [atI_lt hpl] at hv
  simp only [List.getElem_cons_succ] at hv
  rw [List.take_succ_cons] at hn
  rw [Nat.add_sub_cancel] at hpu
  have hs : s = s.take k ++ v :: s.drop (k + 1) := by rw [← hv, List.getElem_cons_drop, List.take_append_drop]
  have hkl : (s.take k).length = k := by rw [List.length_take]; omega
  generalize s.take k = s1 at *
  generalize s.drop (k + 1) = s2 at *
  have hl1 : atI (u :: s1) ((u :: s1).length - 1) = u := by
    rw [List.length_cons, Nat.add_sub_cancel, hkl]
    rw [hs, ← List.cons_append, atI_app_lo (by simp; omega)] at hpu
    exact hpu
  clear hv hpl hpu hp0 hu e hks
  subst hs
  rw [isT_iff, run_app] at h
  cases hr : run [u] [u] s1 with
  | none => rw [hr] at h; cases h
  | some st =>
    rw [hr] at h
    simp only [Option.bind_some] at h
    have hI := (Inv.one u).run (fun x => Iff.rfl) hr
    obtain ⟨Y, a, q, hX, rfl⟩ := hI.top
    have hau : a = u := by
      have h1 : atI (u :: s1) ((u :: s1).length - 1) = a := by
        have h2 : u :: s1 = Y ++ [a] := hX
        rw [h2]
        have := @atI_mid a Y []
        simpa using this
      rw [← h1]; exact hl1
    subst hau
    have hq : q = [] := by
      match q, hI with
      | [], _ => rfl
      | b :: q, hI =>
        exfalso
        have hb := hI.bot
        rw [List.getLast?_cons_cons] at hb
        exact (List.nodup_cons.1 hI.nd).1 (List.mem_of_getLast? hb)
    subst hq
    have hP : ∀ x, x ∈ s1.reverse ++ [a] ↔ x ∈ a :: s1 := by intro x; simp [or_comm]
    have hvP : v ∉ s1.reverse ++ [a] := fun hx => hn ((hP v).1 hx)
    rw [run_new hvP] at h
    obtain ⟨X, Q, c, rfl, h1, h2, h3⟩ := run_split (st := [v]) (r := a) (q := []) (by simp) h (by simp)
    simp only [List.getLast?_singleton, Option.some.injEq] at h2
    subst h2
    have hXa : ∀ x ∈ X, x ∉ s1.reverse ++ [a] := run_new_apart (P0 := s1.reverse ++ [a]) (fun x hx => List.mem_cons_of_mem _ hx) (fun x hx => by rw [List.mem_singleton.1 hx]; exact hvP) h1
    have hBa : ∀ x ∈ v :: X, x ∉ s1.reverse ++ [a] := fun x hx => by
      rcases List.mem_cons.1 hx with rfl | hx
      · exact hvP
      · exact hXa x hx
    have hBQ : ∀ x ∈ v :: X, x ∉ Q := fun x hx => by
      have hxa : x ≠ a := fun e => hBa x hx (by simp [e])
      refine (run_dead (x := x) ?_ (by simpa using hxa) h3).1
      rcases List.mem_cons.1 hx with rfl | hx
      · simp
      · simp [hx]
    have tB : isT (v :: X) = true := by
      rw [isT_iff, ← h1]
      refine run_congr fun x hx => ?_
      have := hXa x hx
      constructor
      · intro h; rw [List.mem_singleton.1 h]; simp
      · intro h
        rcases List.mem_cons.1 h with h | h
        · rw [h]; simp
        · exact absurd h this
    have hQP : ∀ x ∈ Q, x ∈ a :: (X.reverse ++ v :: (s1.reverse ++ [a])) ↔ x ∈ s1.reverse ++ [a] := fun x hx => by
      have hxB : x ∉ v :: X := fun h => hBQ x h hx
      rw [List.mem_cons, not_or] at hxB
      constructor
      · intro h
        rcases List.mem_cons.1 h with h | h
        · rw [h]; simp
        · rcases List.mem_append.1 h with h | h
          · exact absurd (List.mem_reverse.1 h) hxB.2
          · rcases List.mem_cons.1 h with h | h
            · exact absurd h hxB.1
            · exact h
      · intro h; exact List.mem_cons_of_mem _ (List.mem_append_right _ (List.mem_cons_of_mem _ h))
    have tA : isT (a :: (s1 ++ Q)) = true := by
      rw [isT_iff]
      refine run_app_some hr ?_
      rw [← h3]
      exact run_congr fun x hx => (hQP x hx).symm
    have l1 := last_of rfl hl1
    have lX : (v :: X).getLast (by simp) = v := by
      have := isT_closed tB
      have e0 : atI (v :: X) 0 = v := rfl
      exact last_of rfl (by rw [this, e0])
    refine ⟨s1, X, Q, by simp, hl1, tB, tA, hn, ?_, fun x hx h => ?_, ?_, ?_⟩
    · intro h
      rcases List.mem_cons.1 h with h | h
      · exact hn (by simp [h])
      · exact hBQ v List.mem_cons_self h
    · rw [List.cons_append, ← List.cons_append] at h
      rcases List.mem_append.1 h with h | h
      · exact hBa x hx ((hP x).2 h)
      · exact hBQ x hx h
    · rw [List.cons_append, edgesT_edF, edgesT_edF, edgesT_edF, edF_app, l1, edF, if_neg hvP, edF_app, lX, edF, if_pos (by simp), edF_app, l1]
      have eX : edF (v :: (s1.reverse ++ [a])) v X = edF [v] v X := edF_congr fun x hx => by
        have := hXa x hx
        constructor
        · intro h
          rcases List.mem_cons.1 h with h | h
          · rw [h]; simp
          · exact absurd h this
        · intro h; rw [List.mem_singleton.1 h]; simp
      have eQ : edF (a :: (X.reverse ++ v :: (s1.reverse ++ [a]))) a Q = edF (s1.reverse ++ [a]) a Q := edF_congr hQP
      rw [eX, eQ, mkE_comm v a, List.nil_append]
      generalize edF [a] a s1 = E1
      generalize edF [v] v X = E2
      generalize edF (s1.reverse ++ [a]) a Q = E3'
      refine List.perm_middle.trans (List.Perm.cons _ ?_)
      rw [List.append_assoc]
      show (E1 ++ (E2 ++ E3')).Perm (E1 ++ (E3' ++ E2))
      exact List.Perm.append_left _ List.perm_append_comm
    · rw [isT_closed tB]; rfl
end Go.Proofs.Ytbnkanhibjoleaa
