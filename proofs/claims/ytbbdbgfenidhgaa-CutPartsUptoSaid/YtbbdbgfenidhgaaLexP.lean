/-
  A region that draws its order, in which two heavy operations that stand side by side in the text are not ordered: both orders of the two are walked, all else once.
-/
import Derived.Test.YtbbdbgfenidhgaaLex
namespace Go.Proofs.Ytbbdbgfenidhgaa
open Go
section
variable {P : Program} {ops : Array Oper} {md : Region.Mode} {C : World → Prop} {hs : List Nat}

theorem lxOp_some {i : Nat} {a : Act} {w : World} {K : Act → World → Prop} (h : lxOp P ops C hs i K a w) : ∃ a w, K a w := by
  unfold lxOp at h
  split at h
  · exact ⟨_, _, h⟩
  · split at h
    · split at h
      · obtain ⟨v, w', _, h⟩ := heavyUpon_some h; exact ⟨_, _, h⟩
      · obtain ⟨v, _, h⟩ := h; exact ⟨_, _, h⟩
    · exact ⟨_, _, h⟩

theorem lxOp_both {i : Nat} {a : Act} {w : World} {K K' : Act → World → Prop} (hC : C w) (hv : ¬ hs.contains i = true) (h : lxOp P ops C hs i K a w) (h' : lxOp P ops C hs i K' a w) :
    lxOp P ops C hs i (fun a w => K a w ∧ K' a w) a w := by
  unfold lxOp at *
  split
  · rename_i ho; simp only [ho] at h h'; exact ⟨h, h'⟩
  · rename_i o ho
    simp only [ho] at h h'
    split
    · rename_i hw
      simp only [hw, hv, if_true] at h h' ⊢
      obtain ⟨v, h1, h2⟩ := h
      obtain ⟨u, h3, h4⟩ := h'
      have e1 := h1 w hC
      rw [h3 w hC] at e1
      injection e1 with e1
      injection e1 with e1
      subst e1
      exact ⟨u, h3, h2, h4⟩
    · rename_i hw; simp only [hw] at h h'; exact ⟨h, h'⟩

/-- No one not carried out yet, that waits not for i, hangs together with i. -/
def clearOf (md : Region.Mode) (ops : Array Oper) (hs : List Nat) (listed : Array Bool) (i : Nat) (oi : Oper) : Prop :=
  ∀ j oj, ops[j]? = some oj → j ≠ i → listed.getD j true = false → (∀ e ∈ oj.after, Region.binds md e = true → e.on ≠ i) → oi.apart ops oj = true ∧ ¬ (hs.contains i = true ∧ hs.contains j = true)

theorem clearOf_more {listed : Array Bool} {i k : Nat} {oi : Oper} (h : clearOf md ops hs listed i oi) : clearOf md ops hs (listed.setIfInBounds k true) i oi := fun j oj hj hji hun hno => by
  refine h j oj hj hji ?_ hno
  by_cases hk : k = j
  · subst hk
    rcases Nat.lt_or_ge k listed.size with h' | h'
    · simp [h'] at hun
    · simp at hun
  · rw [getD_set_ne true hk] at hun; exact hun

theorem lxAny_pair {Q : Act → World → Prop} {x y : Nat} {ox oy : Oper} (hx : ops[x]? = some ox) (hy : ops[y]? = some oy) (hxy : x ≠ y) (hvx : hs.contains x = true) (hvy : hs.contains y = true)
    (hsel : ∀ (j : Nat) (o : Oper) cs b, ops[j]? = some o → o.op ≠ .select cs b) : ∀ (fuel : Nat) (listed : Array Bool) (a : Act) (w : World), C w →
      clearOf md ops hs (listed.setIfInBounds y true) x ox → clearOf md ops hs (listed.setIfInBounds x true) y oy →
      x ∈ Region.ready md ops listed → y ∈ Region.ready md ops listed →
      lxOp P ops C hs x (lxOp P ops C hs y (lxAny P md ops C hs Q fuel ((listed.setIfInBounds x true).setIfInBounds y true))) a w →
      lxOp P ops C hs y (lxOp P ops C hs x (lxAny P md ops C hs Q fuel ((listed.setIfInBounds x true).setIfInBounds y true))) a w →
      lxAny P md ops C hs Q (fuel + 2) listed a w := by
  intro fuel
  induction fuel with
  | zero =>
    intro listed a w hC fx fy rx ry H1 H2
    refine ⟨fun h => (by rw [h] at rx; cases rx), fun j hj => ?_⟩
    by_cases hjx : j = x
    · subst hjx
      refine lxOp_mono hC (fun a' w' hC' h => lxAny_first hy hsel 0 _ a' w' hC' fy (ready_mono ry (Ne.symm hxy)) h) H1
    · by_cases hjy : j = y
      · subst hjy
        refine lxOp_mono hC (fun a' w' hC' h => lxAny_first hx hsel 0 _ a' w' hC' fx (ready_mono rx hxy) ?_) H2
        rw [Array.setIfInBounds_comm _ _ (Ne.symm hxy)]; exact h
      · exfalso
        have hm := ready_mono (ready_mono hj hjx) hjy
        obtain ⟨_, _, h⟩ := lxOp_some H1
        obtain ⟨_, _, h0, _⟩ := lxOp_some h
        rw [h0] at hm
        cases hm
  | succ fuel ih =>
    intro listed a w hC fx fy rx ry H1 H2
    refine ⟨fun h => (by rw [h] at rx; cases rx), fun j hj => ?_⟩
    by_cases hjx : j = x
    · subst hjx
      refine lxOp_mono hC (fun a' w' hC' h => lxAny_first hy hsel _ _ a' w' hC' fy (ready_mono ry (Ne.symm hxy)) h) H1
    · by_cases hjy : j = y
      · subst hjy
        refine lxOp_mono hC (fun a' w' hC' h => lxAny_first hx hsel _ _ a' w' hC' fx (ready_mono rx hxy) ?_) H2
        rw [Array.setIfInBounds_comm _ _ (Ne.symm hxy)]; exact h
      · obtain ⟨hjun, oj, hoj, hall⟩ := mem_ready.1 hj
        have hnot : ∀ k, k ∈ Region.ready md ops listed → ∀ e ∈ oj.after, Region.binds md e = true → e.on ≠ k := fun k hk e he hb heq => by
          have h1 := hall e he hb
          have h0 := (mem_ready.1 hk).1
          rw [heq] at h1
          rcases Nat.lt_or_ge k listed.size with h' | h'
          · simp [h'] at h0 h1; rw [h0] at h1; cases h1
          · simp [Array.getElem?_eq_none h'] at h1
        have hunx : (listed.setIfInBounds x true).getD j true = false := by rw [getD_set_ne true (Ne.symm hjx)]; exact hjun
        have huny : (listed.setIfInBounds y true).getD j true = false := by rw [getD_set_ne true (Ne.symm hjy)]; exact hjun
        obtain ⟨apx, nvx⟩ := fx j oj hoj hjx huny (hnot x rx)
        obtain ⟨apy, nvy⟩ := fy j oj hoj hjy hunx (hnot y ry)
        have hlj : ¬ hs.contains j = true := fun h => nvx ⟨hvx, h⟩
        have sj : ∀ cs b, oj.op ≠ .select cs b := fun cs b => hsel j oj cs b hoj
        have sx : ∀ cs b, ox.op ≠ .select cs b := fun cs b => hsel x ox cs b hx
        have sy : ∀ cs b, oy.op ≠ .select cs b := fun cs b => hsel y oy cs b hy
        have hrj := ready_mono (ready_mono hj hjx) hjy
        have E1 : lxOp P ops C hs x (lxOp P ops C hs y (lxOp P ops C hs j (lxAny P md ops C hs Q fuel (((listed.setIfInBounds x true).setIfInBounds y true).setIfInBounds j true)))) a w :=
          lxOp_mono hC (fun a' w' hC' h => lxOp_mono hC' (fun a'' w'' _ h' => h'.2 j hrj) h) H1
        have E2 : lxOp P ops C hs y (lxOp P ops C hs x (lxOp P ops C hs j (lxAny P md ops C hs Q fuel (((listed.setIfInBounds x true).setIfInBounds y true).setIfInBounds j true)))) a w :=
          lxOp_mono hC (fun a' w' hC' h => lxOp_mono hC' (fun a'' w'' _ h' => h'.2 j hrj) h) H2
        have F1 := lxOp_swap hx hoj apx nvx sx sj hC (lxOp_mono hC (fun a' w' hC' h => lxOp_swap hy hoj apy nvy sy sj hC' h) E1)
        have F2 := lxOp_swap hy hoj apy nvy sy sj hC (lxOp_mono hC (fun a' w' hC' h => lxOp_swap hx hoj apx nvx sx sj hC' h) E2)
        have ec : ((listed.setIfInBounds x true).setIfInBounds y true).setIfInBounds j true = ((listed.setIfInBounds j true).setIfInBounds x true).setIfInBounds y true := by
          rw [Array.setIfInBounds_comm _ _ (Ne.symm hjy), Array.setIfInBounds_comm _ _ (Ne.symm hjx)]
        rw [ec] at F1 F2
        refine lxOp_mono hC (fun a' w' hC' h => ih (listed.setIfInBounds j true) a' w' hC' ?_ ?_ (ready_mono rx (Ne.symm hjx)) (ready_mono ry (Ne.symm hjy)) h.1 h.2) (lxOp_both hC hlj F1 F2)
        · rw [Array.setIfInBounds_comm _ _ hjy]; exact clearOf_more fx
        · rw [Array.setIfInBounds_comm _ _ hjx]; exact clearOf_more fy

theorem clearOf_of {listed : Array Bool} {i : Nat} {oi : Oper} (h0 : ops[i]? = some oi) (hf : Region.free md ops listed i = true) (ho : lone md ops hs listed i = true) : clearOf md ops hs listed i oi :=
  fun j oj hj hji hun hno => ⟨Region.free_spec h0 hf j oj hj hji hun hno, lone_spec ho j oj hj hji hun hno⟩

/-- The check of the order of the text, with the pair at s and s + 1 left open. -/
def pairOk (md : Region.Mode) (ops : Array Oper) (hs : List Nat) (s : Nat) (listed : Array Bool) : Bool :=
  (Region.ready md ops listed).contains s && (Region.ready md ops listed).contains (s + 1) && hs.contains s && hs.contains (s + 1) &&
  Region.free md ops (listed.setIfInBounds (s + 1) true) s && lone md ops hs (listed.setIfInBounds (s + 1) true) s && Region.free md ops (listed.setIfInBounds s true) (s + 1) && lone md ops hs (listed.setIfInBounds s true) (s + 1)
def lexFromP (md : Region.Mode) (ops : Array Oper) (hs : List Nat) (s tail : Nat) : Nat → Nat → Array Bool → Bool
  | 0, k, listed => k == s && pairOk md ops hs s listed && lexFrom md ops hs tail (s + 2) ((listed.setIfInBounds s true).setIfInBounds (s + 1) true)
  | fuel + 1, k, listed => (Region.ready md ops listed).contains k && Region.free md ops listed k && lone md ops hs listed k && lexFromP md ops hs s tail fuel (k + 1) (listed.setIfInBounds k true)

theorem lxOp_of_wpLex {Q : Act → World → Prop} {k : Nat} {o : Oper} {l : List Oper} {a : Act} {w : World} (h0 : ops[k]? = some o) (h : wpLex P ops C hs Q k (o :: l) a w) : lxOp P ops C hs k (wpLex P ops C hs Q (k + 1) l) a w := by
  unfold lxOp
  simp only [h0]
  exact h

theorem lxAny_lexP {Q : Act → World → Prop} (hsel : Region.noSelect ops = true) {s : Nat} {o1 o2 : Oper} {post : List Oper} (hp : ∀ j, (o1 :: o2 :: post)[j]? = ops[s + j]?) :
    ∀ (pre : List Oper) (k : Nat) (listed : Array Bool) (a : Act) (w : World), C w → (∀ j o, pre[j]? = some o → ops[k + j]? = some o) → lexFromP md ops hs s post.length pre.length k listed = true →
    wpLex P ops C hs (fun a1 w1 => wpLex P ops C hs Q s (o1 :: o2 :: post) a1 w1 ∧ wpLex P ops C hs (fun a2 w2 => wpLex P ops C hs (fun a3 w3 => wpLex P ops C hs Q (s + 2) post a3 w3) s [o1] a2 w2) (s + 1) [o2] a1 w1) k pre a w →
    lxAny P md ops C hs Q (pre.length + (post.length + 2)) listed a w
  | [], k, listed, a, w, hC, _, hB, h => by
    have h1 : ops[s]? = some o1 := by simpa using (hp 0).symm
    have h2 : ops[s + 1]? = some o2 := by simpa using (hp 1).symm
    simp only [List.length_nil, lexFromP, pairOk, Bool.and_eq_true] at hB
    obtain ⟨⟨_, ⟨⟨⟨⟨⟨⟨⟨r1, r2⟩, v1⟩, v2⟩, f1⟩, l1⟩, f2⟩, l2⟩⟩, hB'⟩ := hB
    rw [List.length_nil, Nat.zero_add]
    have go : ∀ a w, C w → wpLex P ops C hs Q (s + 2) post a w → lxAny P md ops C hs Q post.length ((listed.setIfInBounds s true).setIfInBounds (s + 1) true) a w := fun a w hC h =>
      lxAny_lex hsel post (s + 2) _ a w hC (fun j => by have := hp (j + 2); simpa [Nat.add_assoc, Nat.add_comm 2 j] using this) hB' h
    refine lxAny_pair h1 h2 (by omega) v1 v2 (Region.noSelect_spec hsel) post.length listed a w hC (clearOf_of h1 f1 l1) (clearOf_of h2 f2 l2) (by simpa using r1) (by simpa using r2) ?_ ?_
    · exact lxOp_mono hC (fun a' w' hC' h' => lxOp_mono hC' (fun a'' w'' hC'' h'' => go a'' w'' hC'' h'') (lxOp_of_wpLex h2 h')) (lxOp_of_wpLex h1 h.1)
    · exact lxOp_mono hC (fun a' w' hC' h' => lxOp_mono hC' (fun a'' w'' hC'' h'' => go a'' w'' hC'' h'') (lxOp_of_wpLex h1 h')) (lxOp_of_wpLex h2 h.2)
  | o :: pre, k, listed, a, w, hC, hl, hB, h => by
    have h0 : ops[k]? = some o := by simpa using hl 0 o rfl
    simp only [List.length_cons, lexFromP, Bool.and_eq_true] at hB
    obtain ⟨⟨⟨hr, hf⟩, ho⟩, hB'⟩ := hB
    have e : (o :: pre).length + (post.length + 2) = (pre.length + (post.length + 2)) + 1 := by simp; omega
    rw [e]
    refine lxAny_first h0 (Region.noSelect_spec hsel) _ listed a w hC (clearOf_of h0 hf ho) (by simpa using hr) ?_
    exact lxOp_mono hC (fun a' w' hC' h' => lxAny_lexP hsel hp pre (k + 1) _ a' w' hC' (fun j o hj => by have := hl (j + 1) o (by simpa using hj); simpa [Nat.add_assoc, Nat.add_comm 1 j] using this) hB' h') (lxOp_of_wpLex h0 h)

def lexOkP (md : Region.Mode) (ops : Array Oper) (hs : List Nat) (s : Nat) : Bool := Region.noSelect ops && lexFromP md ops hs s (ops.size - (s + 2)) s 0 (Array.replicate ops.size false)

theorem wp_region_lexP (hs : List Nat) (C : World → Prop) {id : Nat} {Q : Exit → Act → World → Prop} {a : Act} {w : World} {pre post : List Oper} {o1 o2 : Oper} {l : List Oper} (hl : l = pre ++ o1 :: o2 :: post) (hm : P.follows .mixedOrders = true)
    (hB : lexOkP .any l.toArray hs pre.length = true) (hC : C w.drew)
    (h : wpLex P l.toArray C hs (fun a1 w1 => wpLex P l.toArray C hs (fun a' w' => C w' → Q .normal a' w') pre.length (o1 :: o2 :: post) a1 w1 ∧
      wpLex P l.toArray C hs (fun a2 w2 => wpLex P l.toArray C hs (fun a3 w3 => wpLex P l.toArray C hs (fun a' w' => C w' → Q .normal a' w') (pre.length + 2) post a3 w3) pre.length [o1] a2 w2) (pre.length + 1) [o2] a1 w1) 0 pre a w.drew) : (Code.region id l.toArray true).wp P Q a w := by
  subst hl
  simp only [lexOkP, Bool.and_eq_true] at hB
  refine wp_region_any hm (wpAny_of_lxAny (C := C) (hs := hs) (Q := fun a' w' => C w' → Q .normal a' w') (fun _ _ hw h => h hw) _ _ _ _ hC ?_)
  have hlen : (pre ++ o1 :: o2 :: post).length = pre.length + (post.length + 2) := by simp
  have := lxAny_lexP (P := P) (C := C) (md := .any) (hs := hs) (Q := fun a' w' => C w' → Q .normal a' w') hB.1 (s := pre.length) (o1 := o1) (o2 := o2) (post := post) (fun j => by rw [List.getElem?_toArray, List.getElem?_append_right (by omega), Nat.add_sub_cancel_left]) pre 0 (Array.replicate (pre ++ o1 :: o2 :: post).length false) a w.drew hC
    (fun j o hj => by
      have hlt : j < pre.length := (List.getElem?_eq_some_iff.1 hj).1
      rw [Nat.zero_add, List.getElem?_toArray, List.getElem?_append_left hlt]; exact hj) (by have h2 := hB.2; simp only [List.size_toArray] at h2; rw [hlen, show pre.length + (post.length + 2) - (pre.length + 2) = post.length by omega, ← hlen] at h2; simpa using h2) h
  rw [← hlen] at this
  simpa using this

/-- The walk of a list cut at the pair. -/
def pairWalk (P : Program) (ops : Array Oper) (C : World → Prop) (hs : List Nat) (Q : Act → World → Prop) (s : Nat) (pre : List Oper) (a : Act) (w : World) : List Oper → Prop
  | o1 :: o2 :: post => wpLex P ops C hs (fun a1 w1 => wpLex P ops C hs Q s (o1 :: o2 :: post) a1 w1 ∧
      wpLex P ops C hs (fun a2 w2 => wpLex P ops C hs (fun a3 w3 => wpLex P ops C hs Q (s + 2) post a3 w3) s [o1] a2 w2) (s + 1) [o2] a1 w1) 0 pre a w
  | _ => False
theorem wp_region_lexS (s : Nat) (hs : List Nat) (C : World → Prop) {id : Nat} {Q : Exit → Act → World → Prop} {a : Act} {w : World} {l : List Oper} (hm : P.follows .mixedOrders = true)
    (hB : lexOkP .any l.toArray hs s = true) (hC : C w.drew) (h : pairWalk P l.toArray C hs (fun a' w' => C w' → Q .normal a' w') s (l.take s) a w.drew (l.drop s)) : (Code.region id l.toArray true).wp P Q a w := by
  have hl : l = l.take s ++ l.drop s := (List.take_append_drop s l).symm
  match hd : l.drop s, h with
  | o1 :: o2 :: post, h =>
    have hlen : (l.take s).length = s := by
      have h1 := congrArg List.length hd
      rw [List.length_drop, List.length_cons, List.length_cons] at h1
      rw [List.length_take]; omega
    refine wp_region_lexP (pre := l.take s) (o1 := o1) (o2 := o2) (post := post) hs C (by rw [← hd]; exact hl) hm (by rw [hlen]; exact hB) hC ?_
    rw [hlen]
    exact h
  | [], h => exact h.elim
  | [_], h => exact h.elim
end
end Go.Proofs.Ytbbdbgfenidhgaa
