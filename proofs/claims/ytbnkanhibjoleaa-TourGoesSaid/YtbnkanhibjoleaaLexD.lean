/-
  A region that draws its order, walked once in the order of its text: of two heavy operations each hangs on the other, be it by way of others.
-/
import Derived.Test.YtbnkanhibjoleaaLex
namespace Go.Proofs.Ytbnkanhibjoleaa
open Go
section
variable {P : Program} {ops : Array Oper} {md : Region.Mode} {C : World → Prop} {hs : List Nat}

theorem lxAny_firstD {Q : Act → World → Prop} {i : Nat} {oi : Oper} (D : List Nat) (hi : ops[i]? = some oi) (hsel : ∀ (j : Nat) (o : Oper) cs b, ops[j]? = some o → o.op ≠ .select cs b)
    (hcl : ∀ j ∈ D, ∃ oj, ops[j]? = some oj ∧ ∃ e ∈ oj.after, Region.binds md e = true ∧ (e.on = i ∨ e.on ∈ D)) :
    ∀ (fuel : Nat) (listed : Array Bool) (a : Act) (w : World), C w →
      (∀ j oj, ops[j]? = some oj → j ≠ i → j ∉ D → listed.getD j true = false → (∀ e ∈ oj.after, Region.binds md e = true → e.on ≠ i) → oi.apart ops oj = true ∧ ¬ (hs.contains i = true ∧ hs.contains j = true)) →
      (∀ j ∈ D, listed.getD j true = false) →
      i ∈ Region.ready md ops listed → lxOp P ops C hs i (lxAny P md ops C hs Q fuel (listed.setIfInBounds i true)) a w → lxAny P md ops C hs Q (fuel + 1) listed a w := by
  intro fuel
  induction fuel with
  | zero =>
    intro listed a w hC hfree _ hr H
    refine ⟨fun h => (by rw [h] at hr; cases hr), fun j hj => ?_⟩
    by_cases hji : j = i
    · subst hji; exact H
    · exfalso
      have hm := ready_mono hj hji
      have : ∃ a w, lxAny P md ops C hs Q 0 (listed.setIfInBounds i true) a w := by
        unfold lxOp at H
        simp only [hi] at H
        split at H
        · split at H
          · obtain ⟨v, w', _, h⟩ := heavyUpon_some H; exact ⟨_, _, h⟩
          · obtain ⟨v, _, h⟩ := H; exact ⟨_, _, h⟩
        · exact ⟨_, _, H⟩
      obtain ⟨_, _, h0, _⟩ := this
      rw [h0] at hm
      cases hm
  | succ fuel ih =>
    intro listed a w hC hfree hun hr H
    refine ⟨fun h => (by rw [h] at hr; cases hr), fun j hj => ?_⟩
    by_cases hji : j = i
    · subst hji; exact H
    · obtain ⟨hjun, oj, hoj, hall⟩ := mem_ready.1 hj
      have hlist : ∀ e ∈ oj.after, Region.binds md e = true → ∀ d, listed.getD d true = false → d < listed.size → e.on ≠ d := fun e he hb d hd hds heq => by
        have h1 := hall e he hb
        rw [heq] at h1
        simp [hds] at hd h1
        rw [hd] at h1; cases h1
      have hsz : ∀ d, listed.getD d true = false → d < listed.size := fun d hd => by
        rcases Nat.lt_or_ge d listed.size with h' | h'
        · exact h'
        · simp [Array.getElem?_eq_none h'] at hd
      have hiun := (mem_ready.1 hr).1
      have hnot : ∀ e ∈ oj.after, Region.binds md e = true → e.on ≠ i := fun e he hb => hlist e he hb i hiun (hsz i hiun)
      have hjD : j ∉ D := fun hjd => by
        obtain ⟨oj', hoj', e, he, hb, h2⟩ := hcl j hjd
        rw [hoj] at hoj'; injection hoj' with hoj'; subst hoj'
        rcases h2 with h2 | h2
        · exact hnot e he hb h2
        · exact hlist e he hb _ (hun _ h2) (hsz _ (hun _ h2)) rfl
      obtain ⟨hap, hv⟩ := hfree j oj hoj hji hjD hjun hnot
      have H1 : lxOp P ops C hs i (lxOp P ops C hs j (lxAny P md ops C hs Q fuel ((listed.setIfInBounds i true).setIfInBounds j true))) a w :=
        lxOp_mono hC (fun a' w' _ h => h.2 j (ready_mono hj hji)) H
      have H2 := lxOp_swap hi hoj hap hv (fun cs b => hsel i oi cs b hi) (fun cs b => hsel j oj cs b hoj) hC H1
      have hfree' : ∀ k ok, ops[k]? = some ok → k ≠ i → k ∉ D → (listed.setIfInBounds j true).getD k true = false →
          (∀ e ∈ ok.after, Region.binds md e = true → e.on ≠ i) → oi.apart ops ok = true ∧ ¬ (hs.contains i = true ∧ hs.contains k = true) := fun k ok hk hki hkD hun' hno => by
        refine hfree k ok hk hki hkD ?_ hno
        by_cases hjk : j = k
        · subst hjk; exact hjun
        · rw [getD_set_ne true hjk] at hun'; exact hun'
      have hunD : ∀ d ∈ D, (listed.setIfInBounds j true).getD d true = false := fun d hd => by
        have hne : j ≠ d := fun e => hjD (e ▸ hd)
        rw [getD_set_ne true hne]; exact hun d hd
      refine lxOp_mono hC (fun a' w' hC' h => ih (listed.setIfInBounds j true) a' w' hC' hfree' hunD (ready_mono hr (Ne.symm hji)) ?_) H2
      rw [Array.setIfInBounds_comm _ _ hji]
      exact h

/-- Those that hang on number i. -/
def hangOn (md : Region.Mode) (ops : Array Oper) (i : Nat) : List Nat :=
  (List.range ops.size).foldl (fun D j => if ((ops[j]?).map (·.after.any fun e => Region.binds md e && (e.on == i || D.contains e.on))).getD false then j :: D else D) []
def closedB (md : Region.Mode) (ops : Array Oper) (listed : Array Bool) (i : Nat) (D : List Nat) : Bool :=
  D.all fun j => !listed.getD j true && ((ops[j]?).map (·.after.any fun e => Region.binds md e && (e.on == i || D.contains e.on))).getD false
def loneD (ops : Array Oper) (hs : List Nat) (listed : Array Bool) (i : Nat) (D : List Nat) : Bool :=
  !hs.contains i || (List.range ops.size).all fun j => j == i || listed.getD j true || D.contains j || !hs.contains j

theorem closedB_spec {listed : Array Bool} {i : Nat} {D : List Nat} (h : closedB md ops listed i D = true) :
    (∀ j ∈ D, ∃ oj, ops[j]? = some oj ∧ ∃ e ∈ oj.after, Region.binds md e = true ∧ (e.on = i ∨ e.on ∈ D)) ∧ (∀ j ∈ D, listed.getD j true = false) := by
  unfold closedB at h
  rw [List.all_eq_true] at h
  refine ⟨fun j hj => ?_, fun j hj => ?_⟩
  · have h1 := h j hj
    rw [Bool.and_eq_true] at h1
    cases ho : ops[j]? with
    | none => rw [ho] at h1; simp at h1
    | some oj =>
      rw [ho] at h1
      have h2 := h1.2
      simp only [Option.map_some, Option.getD_some] at h2
      rw [Array.any_eq_true'] at h2
      obtain ⟨e, he, h3⟩ := h2
      simp only [Bool.and_eq_true, Bool.or_eq_true, beq_iff_eq, List.contains_iff_mem] at h3
      exact ⟨oj, rfl, e, he, h3.1, h3.2⟩
  · have h1 := h j hj
    rw [Bool.and_eq_true] at h1
    simpa using h1.1
theorem loneD_spec {i : Nat} {listed : Array Bool} {D : List Nat} (h : loneD ops hs listed i D = true) (j : Nat) (oj : Oper) (hj : ops[j]? = some oj) (hji : j ≠ i) (hjD : j ∉ D) (hun : listed.getD j true = false) : ¬ (hs.contains i = true ∧ hs.contains j = true) := by
  rintro ⟨h1, h2⟩
  unfold loneD at h
  simp only [h1, Bool.not_true, Bool.false_or, List.all_eq_true, List.mem_range] at h
  have hlt : j < ops.size := (Array.getElem?_eq_some_iff.1 hj).1
  have h3 := h j hlt
  simp only [hun, h2, Bool.not_true, Bool.or_false, Bool.or_eq_true, beq_iff_eq, List.contains_iff_mem] at h3
  rcases h3 with h3 | h3
  · exact hji h3
  · exact hjD h3

def lexFromD (md : Region.Mode) (ops : Array Oper) (hs : List Nat) : Nat → Nat → Array Bool → Bool
  | 0, _, listed => (Region.ready md ops listed).isEmpty
  | fuel + 1, k, listed => (Region.ready md ops listed).contains k && Region.free md ops listed k && (closedB md ops listed k (hangOn md ops k) && loneD ops hs listed k (hangOn md ops k)) && lexFromD md ops hs fuel (k + 1) (listed.setIfInBounds k true)
def lexOkD (md : Region.Mode) (ops : Array Oper) (hs : List Nat) : Bool := Region.noSelect ops && lexFromD md ops hs ops.size 0 (Array.replicate ops.size false)

theorem lxAny_lexD {Q : Act → World → Prop} (hsel : Region.noSelect ops = true) : ∀ (l : List Oper) (k : Nat) (listed : Array Bool) (a : Act) (w : World), C w → (∀ j, l[j]? = ops[k + j]?) →
    lexFromD md ops hs l.length k listed = true → wpLex P ops C hs Q k l a w → lxAny P md ops C hs Q l.length listed a w
  | [], _, _, _, _, _, _, hB, h => ⟨by simpa [lexFromD] using hB, h⟩
  | o :: l, k, listed, a, w, hC, hl, hB, h => by
    have h0 : ops[k]? = some o := by simpa using (hl 0).symm
    simp only [List.length_cons, lexFromD, Bool.and_eq_true] at hB
    obtain ⟨⟨⟨hr, hf⟩, hcl, ho⟩, hB'⟩ := hB
    have hst : lxOp P ops C hs k (wpLex P ops C hs Q (k + 1) l) a w := by unfold lxOp; simp only [h0]; exact h
    obtain ⟨hc1, hc2⟩ := closedB_spec hcl
    refine lxAny_firstD (hangOn md ops k) h0 (Region.noSelect_spec hsel) hc1 l.length listed a w hC (fun j oj hj hji hjD hun hno => ⟨Region.free_spec h0 hf j oj hj hji hun hno, loneD_spec ho j oj hj hji hjD hun⟩) hc2 (by simpa using hr) ?_
    exact lxOp_mono hC (fun a' w' hC' h' => lxAny_lexD hsel l (k + 1) _ a' w' hC' (fun j => by have := hl (j + 1); simpa [Nat.add_assoc, Nat.add_comm 1 j] using this) hB' h') hst

theorem wp_region_lexD (hs : List Nat) (C : World → Prop) {id : Nat} {Q : Exit → Act → World → Prop} {a : Act} {w : World} {l : List Oper} (hm : P.follows .mixedOrders = true) (hB : lexOkD .any l.toArray hs = true)
    (hC : C w.drew) (h : wpLex P l.toArray C hs (fun a' w' => C w' → Q .normal a' w') 0 l a w.drew) : (Code.region id l.toArray true).wp P Q a w := by
  simp only [lexOkD, Bool.and_eq_true] at hB
  refine wp_region_any hm (wpAny_of_lxAny (C := C) (hs := hs) (Q := fun a' w' => C w' → Q .normal a' w') (fun _ _ hw h => h hw) _ _ _ _ hC ?_)
  have := lxAny_lexD (P := P) (C := C) (md := .any) hB.1 l 0 (Array.replicate l.length false) a w.drew hC (by simp) (by simpa using hB.2) h
  simpa using this
end
end Go.Proofs.Ytbnkanhibjoleaa
