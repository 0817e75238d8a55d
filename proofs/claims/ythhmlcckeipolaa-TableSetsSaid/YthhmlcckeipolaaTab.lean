/-
  The plain law of tables: what is added, removed, set; an order by ends.
-/
import Derived.Test.YthhmlcckeipolaaFind0
import Derived.Test.YthhmlcckeipolaaInN
import Derived.Test.YthhmlcckeipolaaRight
namespace Go.Proofs.Ythhmlcckeipolaa
open Go Go.RowKit

theorem ltE_iff {x y : E3} : ltE x y = true ↔ x.1 < y.1 ∨ (x.1 = y.1 ∧ x.2.1 < y.2.1) := by
  unfold ltE
  simp only [Bool.or_eq_true, Bool.and_eq_true, decide_eq_true_eq, beq_iff_eq]
theorem ltE_trans {x y z : E3} (h1 : ltE x y = true) (h2 : ltE y z = true) : ltE x z = true := by
  rw [ltE_iff] at *; omega
theorem ltE_false {x y : E3} : ltE x y = false ↔ (y.1 < x.1 ∨ (y.1 = x.1 ∧ y.2.1 ≤ x.2.1)) := by
  rw [← Bool.not_eq_true, ltE_iff]; omega
theorem chainE_iff {n : Int} : ∀ {l : List E3} {p : Option E3}, chainE n p l = true ↔ (∀ e ∈ l, okE n e = true) ∧ (∀ q, p = some q → ∀ e ∈ l, ltE q e = true) ∧ l.Pairwise (fun a b => ltE a b = true)
  | [], p => by simp [chainE]
  | x :: l, p => by
    have ih := chainE_iff (n := n) (l := l) (p := some x)
    simp only [chainE, Bool.and_eq_true, ih, List.pairwise_cons, List.forall_mem_cons]
    constructor
    · rintro ⟨⟨h1, h2⟩, h3, h4, h5⟩
      refine ⟨⟨h1, h3⟩, ?_, h4 x rfl, h5⟩
      intro q hq
      subst hq
      simp only [] at h2
      exact ⟨h2, fun e he => ltE_trans h2 (h4 x rfl e he)⟩
    · rintro ⟨⟨h1, h3⟩, h2, h4, h5⟩
      refine ⟨⟨h1, ?_⟩, h3, ?_, h5⟩
      · cases p with
        | none => rfl
        | some q => exact (h2 q rfl).1
      · intro q hq e he
        injection hq with hq
        subst hq
        exact h4 e he
theorem rightE_iff {n : Int} {l : List E3} : rightE n l = true ↔ (0 ≤ n ∧ n ≤ 1024) ∧ (∀ e ∈ l, okE n e = true) ∧ l.Pairwise (fun a b => ltE a b = true) := by
  constructor
  · intro h
    have hn : 0 ≤ n ∧ n ≤ 1024 := by
      by_cases h0 : 0 ≤ n ∧ n ≤ 1024
      · exact h0
      · rw [rightE_out h0] at h; cases h
    rw [rightE_in hn.1 hn.2, chainE_iff] at h
    exact ⟨hn, h.1, h.2.2⟩
  · rintro ⟨hn, h1, h2⟩
    rw [rightE_in hn.1 hn.2, chainE_iff]
    exact ⟨h1, by simp, h2⟩
theorem okE_iff {n : Int} {e : E3} : okE n e = true ↔ 0 ≤ e.1 ∧ e.1 < e.2.1 ∧ e.2.1 < n ∧ 0 ≤ e.2.2 ∧ e.2.2 ≤ 16 := by
  simp only [okE, Bool.and_eq_true, Bool.not_eq_true', decide_eq_false_iff_not]
  omega

/-- How many stand ahead of x from the beginning on. -/
def headN (l : List E3) (x : E3) : Nat := (l.takeWhile fun y => ltE y x).length
def insE (l : List E3) (x : E3) : List E3 := l.takeWhile (fun y => ltE y x) ++ x :: l.dropWhile (fun y => ltE y x)
theorem insE_len (l : List E3) (x : E3) : (insE l x).length = l.length + 1 := by
  have := congrArg List.length (List.takeWhile_append_dropWhile (p := fun y => ltE y x) (l := l))
  rw [List.length_append] at this
  unfold insE
  rw [List.length_append, List.length_cons]; omega
theorem insE_nil (x : E3) : insE [] x = [x] := rfl
theorem insE_cons (y : E3) (l : List E3) (x : E3) : insE (y :: l) x = if ltE y x = true then y :: insE l x else x :: y :: l := by
  unfold insE
  rw [List.takeWhile_cons, List.dropWhile_cons]
  split <;> simp
theorem insE_mem {l : List E3} {x e : E3} : e ∈ insE l x ↔ e = x ∨ e ∈ l := by
  induction l with
  | nil => simp [insE_nil]
  | cons y l ih =>
    rw [insE_cons]
    split
    · rw [List.mem_cons, ih, List.mem_cons]; constructor <;> (rintro (h | h | h) <;> simp [h])
    · simp
/-- The edge of two vertices. -/
def edgeE (u v t : Int) : E3 := if u < v then (u, v, t) else (v, u, t)
theorem edgeE_hit {u v t : Int} (u' v' : Int) : hitE u' v' (edgeE u v t) = true ↔ (u' = u ∧ v' = v) ∨ (u' = v ∧ v' = u) := by
  unfold edgeE hitE
  split <;> simp only [Bool.or_eq_true, Bool.and_eq_true, beq_iff_eq] <;> omega
theorem insE_sorted {l : List E3} {x : E3} (h : l.Pairwise fun a b => ltE a b = true) (hx : ∀ e ∈ l, ¬ (e.1 = x.1 ∧ e.2.1 = x.2.1)) : (insE l x).Pairwise fun a b => ltE a b = true := by
  induction l with
  | nil => simp [insE_nil]
  | cons y l ih =>
    rw [List.pairwise_cons] at h
    have ihh := ih h.2 (fun e he => hx e (List.mem_cons_of_mem _ he))
    rw [insE_cons]
    by_cases hy : ltE y x = true
    · rw [if_pos hy, List.pairwise_cons]
      refine ⟨fun e he => ?_, ihh⟩
      rcases insE_mem.1 he with rfl | he
      · exact hy
      · exact h.1 e he
    · rw [if_neg hy, List.pairwise_cons, List.pairwise_cons]
      have hxy : ltE x y = true := by
        have h1 := hx y List.mem_cons_self
        have h2 := ltE_false.1 (by simpa using hy)
        rw [ltE_iff]; omega
      refine ⟨fun e he => ?_, h⟩
      rcases List.mem_cons.1 he with rfl | he
      · exact hxy
      · exact ltE_trans hxy (h.1 e he)
/-- Without the place of an edge. -/
def delE : List E3 → Int → Int → List E3
  | [], _, _ => []
  | x :: l, u, v => if hitE u v x = true then l else x :: delE l u v
theorem delE_ins {l : List E3} {u v t : Int} (h : ∀ e ∈ l, hitE u v e = false) : delE (insE l (edgeE u v t)) v u = l := by
  induction l with
  | nil => rw [insE_nil, delE, if_pos ((edgeE_hit _ _).2 (.inr ⟨rfl, rfl⟩))]
  | cons y l ih =>
    rw [insE_cons]
    split
    · have hy : hitE v u y = false := by
        have := h y List.mem_cons_self
        unfold hitE at this ⊢
        simp only [Bool.or_eq_false_iff, Bool.and_eq_false_iff, beq_eq_false_iff_ne] at this ⊢
        omega
      rw [delE, if_neg (by rw [hy]; decide), ih (fun e he => h e (List.mem_cons_of_mem _ he))]
    · rw [delE, if_pos ((edgeE_hit _ _).2 (.inr ⟨rfl, rfl⟩))]
/-- With the tier of an edge set. -/
def setE : List E3 → Int → Int → Int → List E3
  | [], _, _, _ => []
  | x :: l, u, v, t => if hitE u v x = true then (x.1, x.2.1, t) :: l else x :: setE l u v t

/-- What Add, Remove and Set answer. -/
def addE (n : Int) (l : List E3) (u v : Int) : List E3 × Int :=
  if (rightE n l && inN n u && inN n v) = true then (if u = v then (l, 8) else if 0 ≤ findI l u v 0 then (l, 4) else (insE l (edgeE u v 0), 0)) else (l, 1)
def remE (n : Int) (l : List E3) (u v : Int) : List E3 × Int :=
  if (rightE n l && inN n u && inN n v) = true then (if 0 ≤ findI l u v 0 then (delE l u v, 0) else (l, 9)) else (l, 1)
def putE (n : Int) (l : List E3) (u v t : Int) : List E3 × Int :=
  if (rightE n l && inN n u && inN n v && (decide (0 ≤ t) && decide (t ≤ 16))) = true then (if 0 ≤ findI l u v 0 then (setE l u v t, 0) else (l, 9)) else (l, 1)

/-- Where it is found. -/
theorem find_spec (l : List E3) (u v k : Int) (hk : 0 ≤ k) (h : 0 ≤ findI l u v k) : ∃ i : Nat, findI l u v k = k + i ∧ ∃ hi : i < l.length, hitE u v l[i] = true ∧ delE l u v = l.take i ++ l.drop (i + 1) ∧ ∀ t, setE l u v t = l.set i (l[i].1, l[i].2.1, t) := by
  induction l generalizing k with
  | nil => simp [findI] at h
  | cons x l ih =>
    unfold findI at h ⊢
    by_cases hx : hitE u v x = true
    · rw [if_pos hx]
      refine ⟨0, by simp, by simp, by simpa using hx, by simp [delE, hx], fun t => by simp [setE, hx]⟩
    · rw [if_neg hx] at h ⊢
      obtain ⟨i, e, hi, h1, h2, h3⟩ := ih (k + 1) (by omega) h
      refine ⟨i + 1, by rw [e]; omega, by simpa using hi, by simpa using h1, by simp [delE, hx, h2], fun t => by simp [setE, hx, h3 t]⟩
theorem takeWhile_step (p : E3 → Bool) (l : List E3) : ∀ {k : Nat}, (∀ (i : Nat) (h : i < l.length), i < k → p l[i] = true) → k ≤ l.length → (k = l.length ∨ ∃ h : k < l.length, p l[k] = false) → l.takeWhile p = l.take k ∧ l.dropWhile p = l.drop k := by
  induction l with
  | nil => intro k _ hk _; simp at hk; subst hk; simp
  | cons x l ih =>
    intro k h1 hk h2
    cases k with
    | zero =>
      rcases h2 with h2 | ⟨_, h2⟩
      · simp at h2
      · simp only [List.getElem_cons_zero] at h2
        simp [List.takeWhile_cons, List.dropWhile_cons, h2]
    | succ k =>
      have hx : p x = true := h1 0 (by simp) (by omega)
      have := ih (k := k) (fun i h hi => h1 (i + 1) (by simpa using h) (by omega)) (by simpa using hk) (by
        rcases h2 with h2 | ⟨h2, h3⟩
        · left; simpa using h2
        · right; exact ⟨by simpa using h2, by simpa using h3⟩)
      simp [List.takeWhile_cons, List.dropWhile_cons, hx, this.1, this.2]
end Go.Proofs.Ythhmlcckeipolaa
