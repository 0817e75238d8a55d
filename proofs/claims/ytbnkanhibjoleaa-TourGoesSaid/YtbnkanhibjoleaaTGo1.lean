/-
  A forest of tours, plain: rerooted, cut, linked, it stays one.
-/
import Derived.Test.YtbnkanhibjoleaaTGo0
namespace Go.Proofs.Ytbnkanhibjoleaa
open Go Go.RowKit

theorem cut_tour {t : List Int} {u v : Int} (h : isT t = true) (he : mkE u v ∈ edgesT t) :
    isT (cutX t u v) = true ∧ isT (cutY t u v) = true ∧ (edgesT t).Perm (mkE u v :: (edgesT (cutX t u v) ++ edgesT (cutY t u v))) ∧ (∀ x, x ∈ t ↔ x ∈ cutX t u v ∨ x ∈ cutY t u v) ∧ ∀ x ∈ cutX t u v, x ∉ cutY t u v := by
  obtain ⟨hu, _, _⟩ := edge_ends (isT_ne h) he
  obtain ⟨tr, pr⟩ := from_tour h hu
  obtain ⟨hl, _, _, hm⟩ := fromT_spec h hu
  have hL := from_loop h hu
  have he' := pr.symm.mem_iff.1 he
  unfold cutX cutY
  generalize fromT t u = r at *
  obtain ⟨s, rfl⟩ := hL.cons
  obtain ⟨s1, X, Q, hs, l1, tB, tA, n1, n2, hd, hp, lX⟩ := cut_split tr he'
  rw [hs] at hm hl hp pr
  rw [hs]
  have hf : firstI ((u :: s1) ++ (v :: X) ++ u :: Q) v 0 = ((u :: s1).length : Int) := by
    have e : (u :: s1) ++ (v :: X) ++ u :: Q = (u :: s1) ++ v :: (X ++ u :: Q) := by simp
    rw [e, firstI_of n1, Int.zero_add]
  have hB : v :: X = (v :: X).dropLast ++ [v] := by
    have e : (v :: X).getLast (by simp) = v := last_of rfl lX
    have := List.dropLast_concat_getLast (l := v :: X) (by simp)
    rw [e] at this; exact this.symm
  have hk : lastK ((u :: s1) ++ (v :: X) ++ u :: Q) v 0 t.length = (((u :: s1).length + X.length : Nat) : Int) := by
    have e : (u :: s1) ++ (v :: X) ++ u :: Q = ((u :: s1) ++ (v :: X).dropLast) ++ v :: (u :: Q) := by
      conv => lhs; rw [hB]
      simp
    rw [← hl, e, lastK_mid n2]
    simp
    omega
  rw [hf, hk, Int.toNat_natCast, Int.toNat_natCast]
  have eX : ((u :: s1) ++ (v :: X) ++ u :: Q).take (u :: s1).length ++ ((u :: s1) ++ (v :: X) ++ u :: Q).drop ((u :: s1).length + X.length + 2) = u :: s1 ++ Q := by
    rw [List.append_assoc, List.take_append_of_le_length (Nat.le_refl _), List.take_length]
    congr 1
    rw [List.drop_append, List.drop_eq_nil_of_le (by omega), List.nil_append, show (u :: s1).length + X.length + 2 - (u :: s1).length = (v :: X).length + 1 by rw [List.length_cons (a := v)]; omega, List.drop_append, List.drop_eq_nil_of_le (by omega), List.nil_append, Nat.add_sub_cancel_left]
    rfl
  have eY : (((u :: s1) ++ (v :: X) ++ u :: Q).take ((u :: s1).length + X.length + 1)).drop (u :: s1).length = v :: X := by
    have e : (u :: s1).length + X.length + 1 = ((u :: s1) ++ (v :: X)).length := by rw [List.length_append, List.length_cons (a := v)]; omega
    rw [e, List.take_append_of_le_length (Nat.le_refl _), List.take_length, List.drop_append_of_le_length (Nat.le_refl _), List.drop_length, List.nil_append]
  rw [eX, eY]
  refine ⟨tA, tB, pr.symm.trans hp, fun x => ?_, fun x hx hy => hd x hy hx⟩
  rw [← hm]
  simp only [List.mem_append, List.mem_cons]
  constructor
  · rintro ((h | h) | (h | h)) <;> simp [h]
  · rintro (h | h)
    · rcases h with (h | h) | h <;> simp [h]
    · rcases h with h | h <;> simp [h]

/-- A forest of tours over the vertices 0 to 7, and its edges. -/
structure Frst (ts : List (List Int)) (es : List E3) : Prop where
  tour : ∀ t ∈ ts, isT t = true
  every : ∀ x : Int, 0 ≤ x → x ≤ 7 → ∃ t ∈ ts, x ∈ t
  only : ∀ t ∈ ts, ∀ x ∈ t, 0 ≤ x ∧ x ≤ 7
  apart : ts.Pairwise fun a b => ∀ x ∈ a, x ∉ b
  edges : es.Perm (ts.flatMap edgesT)
  many : es.length + ts.length = 8
theorem Frst.perm {ts ts' : List (List Int)} {es : List E3} (h : Frst ts es) (p : ts'.Perm ts) : Frst ts' es :=
  ⟨fun t ht => h.tour t (p.mem_iff.1 ht), fun x h0 h1 => by obtain ⟨t, ht, hx⟩ := h.every x h0 h1; exact ⟨t, p.mem_iff.2 ht, hx⟩, fun t ht => h.only t (p.mem_iff.1 ht),
    (p.pairwise_iff (fun {a b} hab x hx hy => hab x hy hx)).2 h.apart, h.edges.trans (p.symm.flatMap_right _), by rw [p.length_eq]; exact h.many⟩
theorem Frst.root {t : List Int} {rest : List (List Int)} {es : List E3} (h : Frst (t :: rest) es) {u : Int} (hu : u ∈ t) : Frst (fromT t u :: rest) es := by
  have ht := h.tour t List.mem_cons_self
  obtain ⟨tr, pr⟩ := from_tour ht hu
  have hm := (fromT_spec ht hu).2.2.2
  obtain ⟨a1, a2⟩ := List.pairwise_cons.1 h.apart
  refine ⟨fun x hx => ?_, fun x h0 h1 => ?_, fun x hx y hy => ?_, List.pairwise_cons.2 ⟨fun b hb x hx => a1 b hb x ((hm x).1 hx), a2⟩, ?_, h.many⟩
  · rcases List.mem_cons.1 hx with rfl | hx
    · exact tr
    · exact h.tour x (List.mem_cons_of_mem _ hx)
  · obtain ⟨b, hb, hx⟩ := h.every x h0 h1
    rcases List.mem_cons.1 hb with rfl | hb
    · exact ⟨_, List.mem_cons_self, (hm x).2 hx⟩
    · exact ⟨b, List.mem_cons_of_mem _ hb, hx⟩
  · rcases List.mem_cons.1 hx with rfl | hx
    · exact h.only t List.mem_cons_self y ((hm y).1 hy)
    · exact h.only x (List.mem_cons_of_mem _ hx) y hy
  · refine h.edges.trans ?_
    rw [List.flatMap_cons, List.flatMap_cons]
    exact List.Perm.append_right _ pr.symm
theorem Frst.cut {t : List Int} {rest : List (List Int)} {es es' : List E3} {u v : Int} (h : Frst (t :: rest) es) (he : mkE u v ∈ edgesT t) (hes : es.Perm (mkE u v :: es')) : Frst (cutX t u v :: cutY t u v :: rest) es' := by
  have ht := h.tour t List.mem_cons_self
  obtain ⟨tX, tY, pe, hm, hd⟩ := cut_tour ht he
  obtain ⟨a1, a2⟩ := List.pairwise_cons.1 h.apart
  have hX : ∀ x ∈ cutX t u v, x ∈ t := fun x hx => (hm x).2 (.inl hx)
  have hY : ∀ x ∈ cutY t u v, x ∈ t := fun x hx => (hm x).2 (.inr hx)
  refine ⟨fun x hx => ?_, fun x h0 h1 => ?_, fun x hx y hy => ?_, List.pairwise_cons.2 ⟨fun b hb x hx => ?_, List.pairwise_cons.2 ⟨fun b hb x hx => a1 b hb x (hY x hx), a2⟩⟩, ?_, ?_⟩
  · rcases List.mem_cons.1 hx with rfl | hx
    · exact tX
    · rcases List.mem_cons.1 hx with rfl | hx
      · exact tY
      · exact h.tour x (List.mem_cons_of_mem _ hx)
  · obtain ⟨b, hb, hx⟩ := h.every x h0 h1
    rcases List.mem_cons.1 hb with rfl | hb
    · rcases (hm x).1 hx with hx | hx
      · exact ⟨_, List.mem_cons_self, hx⟩
      · exact ⟨_, List.mem_cons_of_mem _ List.mem_cons_self, hx⟩
    · exact ⟨b, List.mem_cons_of_mem _ (List.mem_cons_of_mem _ hb), hx⟩
  · rcases List.mem_cons.1 hx with rfl | hx
    · exact h.only t List.mem_cons_self y (hX y hy)
    · rcases List.mem_cons.1 hx with rfl | hx
      · exact h.only t List.mem_cons_self y (hY y hy)
      · exact h.only x (List.mem_cons_of_mem _ hx) y hy
  · rcases List.mem_cons.1 hb with rfl | hb
    · exact hd x hx
    · exact a1 b hb x (hX x hx)
  · have h1 := hes.symm.trans h.edges
    rw [List.flatMap_cons] at h1
    have h2 := h1.trans (List.Perm.append_right _ pe)
    rw [List.flatMap_cons, List.flatMap_cons, ← List.append_assoc]
    exact List.Perm.cons_inv h2
  · have h1 := hes.length_eq
    have h2 := h.many
    simp only [List.length_cons] at *
    omega
theorem Frst.link {a b : List Int} {rest : List (List Int)} {es : List E3} {u v : Int} (h : Frst (a :: b :: rest) es) (hu : u ∈ a) (hv : v ∈ b) : Frst ((fromT a u ++ fromT b v ++ [u]) :: rest) (es ++ [mkE u v]) := by
  have ta := h.tour a List.mem_cons_self
  have tb := h.tour b (List.mem_cons_of_mem _ List.mem_cons_self)
  obtain ⟨a1, a2⟩ := List.pairwise_cons.1 h.apart
  obtain ⟨a3, a4⟩ := List.pairwise_cons.1 a2
  obtain ⟨trA, prA⟩ := from_tour ta hu
  obtain ⟨trB, prB⟩ := from_tour tb hv
  have hmA := (fromT_spec ta hu).2.2.2
  have hmB := (fromT_spec tb hv).2.2.2
  have lA := from_loop ta hu
  have lB := from_loop tb hv
  have hd : ∀ x ∈ fromT a u, x ∉ fromT b v := fun x hx hy => a1 b List.mem_cons_self x ((hmA x).1 hx) ((hmB x).1 hy)
  have tt := link_tour lA lB hd trA trB
  have pe := link_perm lA lB hd
  have hT : ∀ x, x ∈ fromT a u ++ fromT b v ++ [u] ↔ x ∈ a ∨ x ∈ b := fun x => by
    rw [List.mem_append, List.mem_append, List.mem_singleton, hmA, hmB]
    constructor
    · rintro (h | rfl)
      · exact h
      · exact .inl hu
    · exact fun h => .inl h
  refine ⟨fun x hx => ?_, fun x h0 h1 => ?_, fun x hx y hy => ?_, List.pairwise_cons.2 ⟨fun c hc x hx => ?_, a4⟩, ?_, ?_⟩
  · rcases List.mem_cons.1 hx with rfl | hx
    · exact tt
    · exact h.tour x (List.mem_cons_of_mem _ (List.mem_cons_of_mem _ hx))
  · obtain ⟨c, hc, hx⟩ := h.every x h0 h1
    rcases List.mem_cons.1 hc with rfl | hc
    · exact ⟨_, List.mem_cons_self, (hT x).2 (.inl hx)⟩
    · rcases List.mem_cons.1 hc with rfl | hc
      · exact ⟨_, List.mem_cons_self, (hT x).2 (.inr hx)⟩
      · exact ⟨c, List.mem_cons_of_mem _ hc, hx⟩
  · rcases List.mem_cons.1 hx with rfl | hx
    · rcases (hT y).1 hy with hy | hy
      · exact h.only a List.mem_cons_self y hy
      · exact h.only b (List.mem_cons_of_mem _ List.mem_cons_self) y hy
    · exact h.only x (List.mem_cons_of_mem _ (List.mem_cons_of_mem _ hx)) y hy
  · rcases (hT x).1 hx with hx | hx
    · exact a1 c (List.mem_cons_of_mem _ hc) x hx
    · exact a3 c hc x hx
  · have h1 := h.edges
    rw [List.flatMap_cons, List.flatMap_cons, ← List.append_assoc] at h1
    rw [List.flatMap_cons]
    have h2 : (edgesT (fromT a u ++ fromT b v ++ [u]) ++ rest.flatMap edgesT).Perm (mkE u v :: ((edgesT a ++ edgesT b) ++ rest.flatMap edgesT)) := by
      rw [← List.cons_append]
      exact List.Perm.append_right _ (pe.trans (List.Perm.cons _ (prA.append prB)))
    exact (List.perm_append_comm.trans (List.Perm.cons _ h1)).trans h2.symm
  · have h2 := h.many
    simp only [List.length_cons, List.length_append, List.length_nil] at *
    omega

theorem idx_split {α : Type} {l : List α} {i : Nat} (h : i < l.length) : ∃ A B, l = A ++ l[i] :: B ∧ A.length = i :=
  ⟨l.take i, l.drop (i + 1), by rw [List.getElem_cons_drop, List.take_append_drop], by rw [List.length_take]; omega⟩
theorem set_at {α : Type} {X Y : List α} {u : α} (v : α) {i : Nat} (hi : X.length = i) : (X ++ u :: Y).set i v = X ++ v :: Y := by
  subst hi; simp
theorem one_perm {α : Type} {l : List α} {i : Nat} (h : i < l.length) : ∃ R, l.Perm (l[i] :: R) ∧ ∀ x, (l.set i x).Perm (x :: R) := by
  obtain ⟨A, B, e, hA⟩ := idx_split h
  refine ⟨A ++ B, ?_, fun x => ?_⟩
  · conv => lhs; rw [e]
    exact List.perm_middle
  · conv => lhs; rw [e]
    rw [set_at x hA]; exact List.perm_middle
theorem two_perm {α : Type} {l : List α} {i j : Nat} (hi : i < l.length) (hj : j < l.length) (hne : i ≠ j) : ∃ R, l.Perm (l[i] :: l[j] :: R) ∧ ∀ x y, ((l.set i x).set j y).Perm (x :: y :: R) := by
  have H : ∀ {i j : Nat} (hi : i < l.length) (hj : j < l.length), i < j → ∃ R, l.Perm (l[i] :: l[j] :: R) ∧ ∀ x y, ((l.set i x).set j y).Perm (x :: y :: R) := by
    intro i j hi hj hlt
    obtain ⟨A, B, e, hA⟩ := idx_split hi
    have hjB : j - (i + 1) < B.length := by
      have := congrArg List.length e
      simp only [List.length_append, List.length_cons] at this; omega
    obtain ⟨C, D, e2, hC⟩ := idx_split hjB
    have hlj : l[j] = B[j - (i + 1)] := by
      have : l[j]? = B[j - (i + 1)]? := by
        conv => lhs; rw [e]
        rw [List.getElem?_append_right (by omega), hA, show j - i = j - (i + 1) + 1 by omega, List.getElem?_cons_succ]
      rw [List.getElem?_eq_getElem hj, List.getElem?_eq_getElem hjB] at this
      injection this
    rw [← hlj] at e2
    generalize l[i] = a at *
    generalize l[j] = b at *
    subst e2
    rw [e]
    have e3 : ∀ x y : α, A ++ x :: (C ++ y :: D) = (A ++ x :: C) ++ y :: D := fun x y => by simp
    refine ⟨A ++ (C ++ D), ?_, fun x y => ?_⟩
    · refine List.perm_middle.trans (List.Perm.cons _ ?_)
      refine (List.Perm.append_left A List.perm_middle).trans List.perm_middle
    · rw [set_at x hA, e3, set_at y (by simp; omega), ← e3]
      refine List.perm_middle.trans (List.Perm.cons _ ?_)
      refine (List.Perm.append_left A List.perm_middle).trans List.perm_middle
  rcases Nat.lt_or_gt_of_ne hne with h | h
  · exact H hi hj h
  · obtain ⟨R, h1, h2⟩ := H hj hi h
    exact ⟨R, h1.trans (List.Perm.swap _ _ _), fun x y => by
      rw [List.set_comm _ _ (by omega)]
      exact (h2 y x).trans (List.Perm.swap _ _ _)⟩

/-- The trees behind a link, as the law keeps them. -/
def linkL (ts : List (List Int)) (i j : Nat) (t z : List Int) : List (List Int) :=
  (if j = ts.length - 1 ∨ i = ts.length - 1 then ((ts.set i t).set j z).set (min i j) t else (ts.set i t).set j z).take (ts.length - 1)
theorem linkL_perm {ts : List (List Int)} {i j : Nat} (hi : i < ts.length) (hj : j < ts.length) (hne : i ≠ j) (t : List Int) : ∃ R, ts.Perm (ts[i] :: ts[j] :: R) ∧ (linkL ts i j t (ts[ts.length - 1]'(by omega))).Perm (t :: R) := by
  obtain ⟨I, z, rfl⟩ : ∃ I z, ts = I ++ [z] := by
    rcases List.eq_nil_or_concat ts with rfl | ⟨I, z, h⟩
    · simp at hi
    · exact ⟨I, z, by rw [h, List.concat_eq_append]⟩
  have hn : (I ++ [z]).length - 1 = I.length := by simp
  have hz : (I ++ [z])[(I ++ [z]).length - 1]'(by simp) = z := by simp
  rw [hz]
  unfold linkL
  rw [hn]
  rw [List.length_append, List.length_singleton] at hi hj
  by_cases h1 : j = I.length
  · have hiI : i < I.length := by omega
    obtain ⟨R, p1, p2⟩ := one_perm hiI
    rw [if_pos (.inl h1)]
    refine ⟨R, ?_, ?_⟩
    · subst h1
      simp only [List.getElem_append_left hiI, List.getElem_append_right (Nat.le_refl _), Nat.sub_self, List.getElem_cons_zero]
      refine List.perm_append_comm.trans ?_
      exact (List.Perm.cons z p1).trans (List.Perm.swap _ _ _)
    · subst h1
      rw [show min i I.length = i by omega, List.set_append_left _ _ hiI, set_at z (by simp), List.set_append_left _ _ (by simpa using hiI), List.take_append_of_le_length (by simp), List.set_set, List.take_of_length_le (by simp)]
      exact p2 t
  · have hjI : j < I.length := by omega
    by_cases h2 : i = I.length
    · obtain ⟨R, p1, p2⟩ := one_perm hjI
      rw [if_pos (.inr h2)]
      subst h2
      refine ⟨R, ?_, ?_⟩
      · simp only [List.getElem_append_left hjI, List.getElem_append_right (Nat.le_refl _), Nat.sub_self, List.getElem_cons_zero]
        exact List.perm_append_comm.trans (List.Perm.cons z p1)
      · rw [show min I.length j = j by omega, set_at t rfl, List.set_append_left _ _ hjI, List.set_append_left _ _ (by simpa using hjI), List.take_append_of_le_length (by simp), List.set_set, List.take_of_length_le (by simp)]
        exact p2 t
    · have hiI : i < I.length := by omega
      obtain ⟨R, p1, p2⟩ := two_perm hiI hjI hne
      rw [if_neg (by omega)]
      refine ⟨z :: R, ?_, ?_⟩
      · simp only [List.getElem_append_left hjI, List.getElem_append_left hiI]
        refine List.perm_append_comm.trans ?_
        refine (List.Perm.cons z p1).trans ?_
        exact (List.Perm.swap _ _ _).trans (List.Perm.cons _ (List.Perm.swap _ _ _))
      · rw [List.set_append_left _ _ hiI, List.set_append_left _ _ (by simpa using hjI), List.take_append_of_le_length (by simp), List.take_of_length_le (by simp)]
        exact p2 t z
end Go.Proofs.Ytbnkanhibjoleaa
