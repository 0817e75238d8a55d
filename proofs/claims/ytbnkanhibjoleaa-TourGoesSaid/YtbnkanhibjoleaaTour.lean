/-
  Tours, plain: a walk on a stack.
-/
import Derived.Test.YtbnkanhibjoleaaEdge
namespace Go.Proofs.Ytbnkanhibjoleaa
open Go Go.RowKit

/-- Back to the one below the top. -/
def popTo (st : List Int) (v : Int) : Option (List Int) :=
  match st with
  | _ :: b :: q => if b = v then some (b :: q) else none
  | _ => none
def step1 (P st : List Int) (v : Int) : Option (List Int) := if v ∈ P then popTo st v else some (v :: st)
/-- The stack (its top first) behind some places, P seen ahead of them; none: it is no tour. -/
def run : List Int → List Int → List Int → Option (List Int)
  | _, st, [] => some st
  | P, st, v :: s => (step1 P st v).bind fun st' => run (v :: P) st' s
theorem run_nil (P st : List Int) : run P st [] = some st := rfl
theorem run_cons (P st s : List Int) (v : Int) : run P st (v :: s) = (step1 P st v).bind fun st' => run (v :: P) st' s := rfl
theorem run_new {P st s : List Int} {v : Int} (h : v ∉ P) : run P st (v :: s) = run (v :: P) (v :: st) s := by rw [run_cons, step1, if_neg h]; rfl
theorem run_back {P q s : List Int} {a v : Int} (h : v ∈ P) : run P (a :: v :: q) (v :: s) = run (v :: P) (v :: q) s := by rw [run_cons, step1, if_pos h]; simp [popTo]
theorem run_some {P st s fin : List Int} {v : Int} (h : run P st (v :: s) = some fin) : (v ∉ P ∧ run (v :: P) (v :: st) s = some fin) ∨ (v ∈ P ∧ ∃ a q, st = a :: v :: q ∧ run (v :: P) (v :: q) s = some fin) := by
  by_cases hv : v ∈ P
  · right
    refine ⟨hv, ?_⟩
    rw [run_cons, step1, if_pos hv] at h
    match st, h with
    | [], h => cases h
    | [_], h => cases h
    | a :: b :: q, h =>
      by_cases hb : b = v
      · subst hb; simp [popTo] at h; exact ⟨a, q, rfl, h⟩
      · simp [popTo, hb] at h
  · left
    exact ⟨hv, by rw [run_new hv] at h; exact h⟩
theorem run_congr {s : List Int} : ∀ {P P' st : List Int}, (∀ v ∈ s, v ∈ P ↔ v ∈ P') → run P st s = run P' st s := by
  induction s with
  | nil => intros; rfl
  | cons v s ih =>
    intro P P' st h
    have hv := h v List.mem_cons_self
    have h' : ∀ x ∈ s, x ∈ v :: P ↔ x ∈ v :: P' := fun x hx => by rw [List.mem_cons, List.mem_cons, h x (List.mem_cons_of_mem _ hx)]
    have e : step1 P st v = step1 P' st v := by
      unfold step1
      by_cases hp : v ∈ P
      · rw [if_pos hp, if_pos (hv.1 hp)]
      · rw [if_neg hp, if_neg (fun x => hp (hv.2 x))]
    rw [run_cons, run_cons, e]
    cases step1 P' st v with
    | none => rfl
    | some st' => exact ih h'
theorem run_app {X : List Int} : ∀ {P st Y : List Int}, run P st (X ++ Y) = (run P st X).bind fun st' => run (X.reverse ++ P) st' Y := by
  induction X with
  | nil => intro P st Y; rfl
  | cons v X ih =>
    intro P st Y
    have e : ∀ Z : List Int, (v :: X).reverse ++ Z = X.reverse ++ v :: Z := fun Z => by simp
    rw [List.cons_append, run_cons, run_cons]
    cases step1 P st v with
    | none => rfl
    | some st' => simp only [Option.bind_some, e]; exact ih
theorem run_app_some {X Y P st st' fin : List Int} (h1 : run P st X = some st') (h2 : run (X.reverse ++ P) st' Y = some fin) : run P st (X ++ Y) = some fin := by
  rw [run_app, h1]; exact h2
/-- What is seen and is not on the stack comes no more. -/
theorem run_dead {s : List Int} : ∀ {P st fin : List Int} {x : Int}, x ∈ P → x ∉ st → run P st s = some fin → x ∉ s ∧ x ∉ fin := by
  induction s with
  | nil => intro P st fin x _ h2 h; rw [run_nil] at h; injection h with h; subst h; exact ⟨by simp, h2⟩
  | cons v s ih =>
    intro P st fin x h1 h2 h
    rcases run_some h with ⟨hv, h'⟩ | ⟨hv, a, q, rfl, h'⟩
    · have hne : x ≠ v := fun e => hv (e ▸ h1)
      have := ih (List.mem_cons_of_mem v h1) (by simp [hne, h2]) h'
      exact ⟨by simp [hne, this.1], this.2⟩
    · have hne : x ≠ v := fun e => h2 (by simp [e])
      have := ih (List.mem_cons_of_mem v h1) (fun hm => h2 (List.mem_cons_of_mem _ hm)) h'
      exact ⟨by simp [hne, this.1], this.2⟩
/-- More below the stack changes nothing, if none of it comes. -/
theorem run_frame {s : List Int} : ∀ {P st q fin : List Int}, run P st s = some fin → run P (st ++ q) s = some (fin ++ q) := by
  induction s with
  | nil => intro P st q fin h; rw [run_nil] at h ⊢; injection h with h; rw [h]
  | cons v s ih =>
    intro P st q fin h
    rcases run_some h with ⟨hv, h'⟩ | ⟨hv, a, r, rfl, h'⟩
    · rw [run_new hv]; exact ih h'
    · rw [List.cons_append, List.cons_append, run_back hv]; exact ih h'
/-- Where the stack comes down to what lay below. -/
theorem run_split {s : List Int} : ∀ {P st fin : List Int} {r : Int} {q : List Int}, st ≠ [] → run P (st ++ r :: q) s = some fin → fin.length ≤ q.length + 1 →
    ∃ X Q c, s = X ++ r :: Q ∧ run P st X = some [c] ∧ st.getLast? = some c ∧ run (r :: (X.reverse ++ P)) (r :: q) Q = some fin := by
  induction s with
  | nil =>
    intro P st fin r q hst h hl
    rw [run_nil] at h
    injection h with h
    subst h
    rw [List.length_append, List.length_cons] at hl
    exact absurd (List.length_eq_zero_iff.1 (show st.length = 0 by omega)) hst
  | cons v s ih =>
    intro P st fin r q hst h hl
    have e : ∀ X Z : List Int, (v :: X).reverse ++ Z = X.reverse ++ v :: Z := fun X Z => by simp
    rcases run_some h with ⟨hv, h⟩ | ⟨hv, a, p, hp, h⟩
    · obtain ⟨X, Q, c, rfl, h1, h2, h3⟩ := ih (st := v :: st) (by simp) h hl
      refine ⟨v :: X, Q, c, rfl, by rw [run_new hv]; exact h1, ?_, by rw [e]; exact h3⟩
      cases st with
      | nil => exact absurd rfl hst
      | cons y st => rw [List.getLast?_cons_cons] at h2; exact h2
    · match st, hst, hp with
      | [y], _, hp =>
        simp only [List.cons_append, List.nil_append, List.cons.injEq] at hp
        obtain ⟨rfl, rfl, rfl⟩ := hp
        exact ⟨[], s, y, rfl, run_nil _ _, rfl, h⟩
      | y :: z :: st, _, hp =>
        simp only [List.cons_append, List.cons.injEq] at hp
        obtain ⟨rfl, rfl, rfl⟩ := hp
        obtain ⟨X, Q, c, rfl, h1, h2, h3⟩ := ih (st := z :: st) (by simp) h hl
        exact ⟨z :: X, Q, c, rfl, by rw [run_back hv]; exact h1, by rw [List.getLast?_cons_cons]; exact h2, by rw [e]; exact h3⟩

/-- Is but one left on the stack? -/
def endOne : Option (List Int) → Bool
  | some st => st.length == 1
  | none => false
/-- Is it a tour? -/
def isT : List Int → Bool
  | [] => false
  | r :: s => endOne (run [r] [r] s)
theorem isT_cons (r : Int) (s : List Int) : isT (r :: s) = endOne (run [r] [r] s) := rfl
/-- The bottom of the stack stays. -/
theorem run_bottom {s : List Int} : ∀ {P st fin : List Int} {r : Int}, st.getLast? = some r → run P st s = some fin → fin.getLast? = some r := by
  induction s with
  | nil => intro P st fin r h1 h; rw [run_nil] at h; injection h with h; subst h; exact h1
  | cons v s ih =>
    intro P st fin r h1 h
    rcases run_some h with ⟨_, h'⟩ | ⟨_, a, q, rfl, h'⟩
    · refine ih ?_ h'
      cases st with
      | nil => cases h1
      | cons y st => rw [List.getLast?_cons_cons]; exact h1
    · rw [List.getLast?_cons_cons] at h1
      exact ih h1 h'
theorem isT_iff {r : Int} {s : List Int} : isT (r :: s) = true ↔ run [r] [r] s = some [r] := by
  rw [isT_cons]
  cases hr : run [r] [r] s with
  | none => exact ⟨fun h => (by cases h), fun h => (by cases h)⟩
  | some st =>
    have hb := run_bottom (r := r) rfl hr
    constructor
    · intro h
      match st, h, hb with
      | [x], _, hb => simpa using hb
      | [], h, _ => simp [endOne] at h
      | _ :: _ :: _, h, _ => simp [endOne] at h
    · intro h; rw [h]; rfl
/-- The top of the stack is the place it stands at. -/
theorem run_top {s : List Int} : ∀ {P st fin : List Int} {v : Int}, run P st (s ++ [v]) = some fin → ∃ q, fin = v :: q := by
  intro P st fin v h
  rw [run_app] at h
  cases hr : run P st s with
  | none => rw [hr] at h; cases h
  | some st' =>
    rw [hr] at h
    simp only [Option.bind_some] at h
    rcases run_some h with ⟨_, h⟩ | ⟨_, a, q, _, h⟩
    · rw [run_nil] at h; injection h with h; exact ⟨_, h.symm⟩
    · rw [run_nil] at h; injection h with h; exact ⟨_, h.symm⟩
/-- A tour of more than one place: its first child's tour, and the rest. -/
theorem tour_parts {r c : Int} {s : List Int} (h : isT (r :: c :: s) = true) : ∃ X Q, s = X ++ r :: Q ∧ c ≠ r ∧ run [c] [c] X = some [c] ∧ r ∉ X ∧ run (r :: (X.reverse ++ [c, r])) [r] Q = some [r] ∧ c ∉ Q := by
  rw [isT_iff] at h
  rcases run_some h with ⟨hc, h⟩ | ⟨_, a, q, hq, _⟩
  · have hcr : c ≠ r := by simpa using hc
    obtain ⟨X, Q, c', rfl, h1, h2, h3⟩ := run_split (st := [c]) (r := r) (q := []) (by simp) h (by simp)
    simp only [List.getLast?_singleton, Option.some.injEq] at h2
    subst h2
    have hrX : r ∉ X := (run_dead (x := r) (by simp) (by simpa using hcr.symm) h1).1
    refine ⟨X, Q, rfl, hcr, ?_, hrX, h3, (run_dead (x := c) (by simp) (by simpa using hcr) h3).1⟩
    rw [← h1]
    exact run_congr fun v hv => by
      have hvr : v ≠ r := fun e => hrX (e ▸ hv)
      simp [hvr]
  · simp at hq
/-- A tour that begins one place on. -/
theorem tour_rot1 {r c : Int} {s : List Int} (h : isT (r :: c :: s) = true) : isT (c :: s ++ [c]) = true := by
  obtain ⟨X, Q, rfl, hcr, h1, hrX, h3, hcQ⟩ := tour_parts h
  show isT (c :: (X ++ r :: Q ++ [c])) = true
  rw [isT_iff, List.append_assoc]
  refine run_app_some h1 ?_
  rw [List.cons_append, run_new (by simp [hrX, hcr.symm])]
  have h4 : run (r :: (X.reverse ++ [c])) ([r] ++ [c]) Q = some ([r] ++ [c]) := by
    refine run_frame ?_
    rw [← h3]
    refine run_congr fun v hv => ?_
    simp
    constructor
    · rintro (h | h | h) <;> simp [h]
    · rintro (h | h | h | h) <;> simp [h]
  refine run_app_some h4 ?_
  have hm : c ∈ Q.reverse ++ (r :: (X.reverse ++ [c])) := by simp
  show run _ (r :: c :: []) [c] = some [c]
  rw [run_back hm, run_nil]
end Go.Proofs.Ytbnkanhibjoleaa
