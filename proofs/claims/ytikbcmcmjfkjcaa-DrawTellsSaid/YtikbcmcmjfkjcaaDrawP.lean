/-
  Plain: what the draws of package draw compute, on lists of numbers.
-/
import Derived.WalkKit
namespace Go.Proofs.Ytikbcmcmjfkjcaa
open Go

/-- The lowest 61 bits. -/
def low (x : Int) : Int := bits .and .u64 x 2305843009213693951
theorem low_eq (x : Int) : bits .and .u64 x 2305843009213693951 = low x := rfl

theorem low_mod {x : Int} (h0 : 0 ≤ x) (h1 : x < 18446744073709551616) : low x = x % 2305843009213693952 := by
  obtain ⟨n, rfl⟩ := Int.eq_ofNat_of_zero_le h0
  have hn : n < 18446744073709551616 := by omega
  have h : low (n : Int) = ((n &&& 2305843009213693951 : Nat) : Int) := by
    unfold low
    exact u64_and_nat n 2305843009213693951 hn (by decide)
  rw [h, show (2305843009213693951 : Nat) = 2 ^ 61 - 1 from rfl, Nat.and_two_pow_sub_one_eq_mod]
  omega

/-- Is it a number below P? -/
def isLow (x : Int) : Bool := decide (low x < 2305843009213693951)
theorem isLow_lt {x : Int} (h : isLow x = true) : low x < 2305843009213693951 := of_decide_eq_true h
theorem isLow_not {x : Int} (h : isLow x = false) : ¬ low x < 2305843009213693951 := of_decide_eq_false h

theorem low_bounds {x : Int} (h0 : 0 ≤ x) (h1 : x < 18446744073709551616) : 0 ≤ low x ∧ low x < 2305843009213693952 := by
  rw [low_mod h0 h1]
  omega
theorem ref_yes {x : Int} (h0 : 0 ≤ x) (h1 : x < 18446744073709551616) (h : isLow x = true) : (x % 2305843009213693952 != 2305843009213693951) = true := by
  have h2 := isLow_lt h
  rw [low_mod h0 h1] at h2
  rw [bne_iff_ne]
  omega
theorem ref_no {x : Int} (h0 : 0 ≤ x) (h1 : x < 18446744073709551616) (h : isLow x = false) : (x % 2305843009213693952 != 2305843009213693951) = false := by
  have h2 := isLow_not h
  rw [low_mod h0 h1] at h2
  rw [bne_eq_false_iff_eq]
  omega

theorem low_or {n : Int} (h0 : 0 ≤ n) (h1 : n < 18446744073709551616) {j : Nat} (hj : j < 8) : low (bits .or .u64 (low n) ((j : Int) * 2305843009213693952)) = low n := by
  have hb := low_bounds h0 h1
  generalize low n = a at *
  obtain ⟨a, rfl⟩ := Int.eq_ofNat_of_zero_le hb.1
  have ha : a < 2305843009213693952 := by omega
  have e : bits .or .u64 (a : Int) ((j : Int) * 2305843009213693952) = ((a ||| j * 2305843009213693952 : Nat) : Int) := by
    have := u64_or_nat a (j * 2305843009213693952) (by omega) (by omega)
    rw [← this]
    congr 1
  rw [e, low_mod (by omega) (by
    have : a ||| j * 2305843009213693952 < 2 ^ 64 := Nat.or_lt_two_pow (by omega) (by omega)
    omega)]
  have e2 : (a ||| j * 2305843009213693952) % 2 ^ 61 = a := by
    rw [Nat.or_mod_two_pow, show j * 2305843009213693952 = j * 2 ^ 61 from rfl, Nat.mul_mod_left, Nat.or_zero]
    exact Nat.mod_eq_of_lt ha
  have e3 : (2 : Nat) ^ 61 = 2305843009213693952 := rfl
  rw [e3] at e2
  omega
theorem isLow_congr {x y : Int} (h : low x = low y) : isLow x = isLow y := by unfold isLow; rw [h]
theorem isLow_top {x : Int} (h0 : 0 ≤ x) (h1 : x < 18446744073709551616) (h : isLow x = false) : (low x == 2305843009213693951) = true := by
  have h2 := isLow_not h
  have h3 := low_bounds h0 h1
  rw [beq_iff_eq]
  omega
theorem isLow_ne {x : Int} (h : isLow x = true) : (low x == 2305843009213693951) = false := by
  have h2 := isLow_lt h
  rw [beq_eq_false_iff_ne]
  omega
theorem three : isLow 3 = true ∧ low 3 = 3 := by
  unfold isLow
  rw [low_mod (by decide) (by decide)]
  exact ⟨rfl, rfl⟩

/-- The first number from the front whose lowest bits are below P, and the place behind it. -/
def scan : List Int → Nat → Option (Int × Nat)
  | [], _ => none
  | x :: l, k => if isLow x then some (low x, k + 1) else scan l (k + 1)
theorem scan_yes {x : Int} (h : isLow x = true) (l : List Int) (k : Nat) : scan (x :: l) k = some (low x, k + 1) := by rw [scan, if_pos h]
theorem scan_no {x : Int} (h : isLow x = false) (l : List Int) (k : Nat) : scan (x :: l) k = scan l (k + 1) := by rw [scan, if_neg (by rw [h]; decide)]

/-- What Below answers: the number, the new place, the error. -/
def drawB (xs : List Int) (at_ : Nat) : Int × Int × Int :=
  match scan (xs.drop at_) at_ with
  | some (v, k) => (v, k, 0)
  | none => (0, at_, 5)
theorem drawB_some {xs : List Int} {at_ k : Nat} {v : Int} (h : scan (xs.drop at_) at_ = some (v, k)) : drawB xs at_ = (v, (k : Int), 0) := by unfold drawB; rw [h]
theorem drawB_none {xs : List Int} {at_ : Nat} (h : scan (xs.drop at_) at_ = none) : drawB xs at_ = (0, (at_ : Int), 5) := by unfold drawB; rw [h]

/-- m hashes from a place on, and the place behind them. -/
def drawH (xs : List Int) : Nat → Nat → Option (List (Int × Int) × Nat)
  | 0, k => some ([], k)
  | m + 1, k => match scan (xs.drop k) k with
    | none => none
    | some (a, k1) => match scan (xs.drop k1) k1 with
      | none => none
      | some (b, k2) => match drawH xs m k2 with
        | none => none
        | some (l, k3) => some ((a, b) :: l, k3)

theorem scan_le : ∀ {l : List Int} {k : Nat} {v : Int} {k' : Nat}, scan l k = some (v, k') → k < k' ∧ k' ≤ k + l.length := by
  intro l
  induction l with
  | nil => intro k v k' h; simp [scan] at h
  | cons x l ih =>
    intro k v k' h
    cases hx : isLow x
    · rw [scan_no hx] at h
      have := ih h
      simp only [List.length_cons]
      omega
    · rw [scan_yes hx] at h
      injection h with h
      injection h with h1 h2
      simp only [List.length_cons]
      omega
theorem scan_lt : ∀ {l : List Int} {k : Nat} {v : Int} {k' : Nat}, scan l k = some (v, k') → v < 2305843009213693951 := by
  intro l
  induction l with
  | nil => intro k v k' h; simp [scan] at h
  | cons x l ih =>
    intro k v k' h
    cases hx : isLow x
    · rw [scan_no hx] at h; exact ih h
    · rw [scan_yes hx] at h
      injection h with h
      injection h with h1 h2
      rw [← h1]
      exact isLow_lt hx
theorem scan_drop_le {xs : List Int} {k : Nat} {v : Int} {k' : Nat} (hk : k ≤ xs.length) (h : scan (xs.drop k) k = some (v, k')) : k < k' ∧ k' ≤ xs.length := by
  have := scan_le h
  rw [List.length_drop] at this
  omega

theorem drawH_dry1 {xs : List Int} {m k : Nat} (h : scan (xs.drop k) k = none) : drawH xs (m + 1) k = none := by rw [drawH, h]
theorem drawH_dry2 {xs : List Int} {m k k1 : Nat} {a : Int} (h : scan (xs.drop k) k = some (a, k1)) (h2 : scan (xs.drop k1) k1 = none) : drawH xs (m + 1) k = none := by rw [drawH, h]; simp only [h2]
theorem scan_all {xs : List Int} (h : ∀ x ∈ xs, isLow x = true) {k : Nat} (hk : k < xs.length) : scan (xs.drop k) k = some (low xs[k], k + 1) := by
  rw [List.drop_eq_getElem_cons hk, scan_yes (h _ (List.getElem_mem hk))]
theorem scan_out {xs : List Int} {k : Nat} (hk : xs.length ≤ k) : scan (xs.drop k) k = none := by
  rw [List.drop_eq_nil_of_le hk]; rfl
theorem drawH_all {xs : List Int} (h : ∀ x ∈ xs, isLow x = true) : ∀ (m k : Nat), k + 2 * m ≤ xs.length →
    ∃ hs, drawH xs m k = some (hs, k + 2 * m) ∧ hs.length = m ∧ ∀ i, i < m → hs[i]? = some (low (xs.getD (k + 2 * i) 0), low (xs.getD (k + 2 * i + 1) 0)) := by
  intro m
  induction m with
  | zero => intro k hk; exact ⟨[], rfl, rfl, fun i hi => absurd hi (by omega)⟩
  | succ m ih =>
    intro k hk
    obtain ⟨hs, h1, h2, h3⟩ := ih (k + 1 + 1) (by omega)
    refine ⟨(low (xs.getD k 0), low (xs.getD (k + 1) 0)) :: hs, ?_, by simp [h2], ?_⟩
    · rw [drawH, scan_all h (k := k) (by omega)]
      simp only []
      rw [scan_all h (k := k + 1) (by omega)]
      simp only []
      rw [h1]
      have e0 : xs.getD k 0 = xs[k]'(by omega) := by simp [List.getD, List.getElem?_eq_getElem (show k < xs.length by omega)]
      have e1 : xs.getD (k + 1) 0 = xs[k + 1]'(by omega) := by simp [List.getD, List.getElem?_eq_getElem (show k + 1 < xs.length by omega)]
      rw [e0, e1, show k + 1 + 1 + 2 * m = k + 2 * (m + 1) by omega]
    · intro i hi
      cases i with
      | zero => rfl
      | succ i =>
        rw [List.getElem?_cons_succ, h3 i (by omega), show k + 1 + 1 + 2 * i = k + 2 * (i + 1) by omega]
theorem drawH_dry {xs : List Int} (h : ∀ x ∈ xs, isLow x = true) : ∀ (m k : Nat), k ≤ xs.length → xs.length < k + 2 * m → drawH xs m k = none := by
  intro m
  induction m with
  | zero => intro k h1 h2; omega
  | succ m ih =>
    intro k h1 h2
    rcases Nat.lt_or_ge k xs.length with hk | hk
    · rcases Nat.lt_or_ge (k + 1) xs.length with hk1 | hk1
      · rw [drawH, scan_all h hk]
        simp only []
        rw [scan_all h hk1]
        simp only []
        rw [ih _ (by omega) (by omega)]
      · exact drawH_dry2 (scan_all h hk) (scan_out hk1)
    · exact drawH_dry1 (scan_out hk)

/-- What is still to be drawn, behind what is drawn. -/
def joined (d : List (Int × Int)) : Option (List (Int × Int) × Nat) → Option (List (Int × Int) × Nat)
  | none => none
  | some (l, k) => some (d ++ l, k)
theorem joined_nil (r : Option (List (Int × Int) × Nat)) : joined [] r = r := by cases r <;> rfl
theorem joined_none (d : List (Int × Int)) : joined d none = none := rfl
theorem drawH_step {xs : List Int} {m k k1 k2 : Nat} {a b : Int} (h : scan (xs.drop k) k = some (a, k1)) (h2 : scan (xs.drop k1) k1 = some (b, k2)) (d : List (Int × Int)) :
    joined d (drawH xs (m + 1) k) = joined (d ++ [(a, b)]) (drawH xs m k2) := by
  rw [drawH, h]; simp only [h2]
  cases drawH xs m k2 with
  | none => rfl
  | some p => simp [joined]

theorem drawH_add {xs : List Int} : ∀ (m m' k : Nat), drawH xs (m + m') k = match drawH xs m k with
    | none => none
    | some (l, k1) => joined l (drawH xs m' k1) := by
  intro m
  induction m with
  | zero => intro m' k; simp [drawH, joined_nil]
  | succ m ih =>
    intro m' k
    rw [show m + 1 + m' = (m + m') + 1 by omega]
    cases h1 : scan (xs.drop k) k with
    | none => rw [drawH_dry1 h1, drawH_dry1 h1]
    | some p =>
      obtain ⟨a, k1⟩ := p
      cases h2 : scan (xs.drop k1) k1 with
      | none => rw [drawH_dry2 h1 h2, drawH_dry2 h1 h2]
      | some q =>
        obtain ⟨b, k2⟩ := q
        have e1 := drawH_step (m := m + m') h1 h2 []
        have e2 := drawH_step (m := m) h1 h2 []
        rw [joined_nil] at e1 e2
        rw [e1, e2, ih m' k2]
        cases drawH xs m k2 with
        | none => rfl
        | some r =>
          obtain ⟨l, k3⟩ := r
          simp only [joined]
          cases drawH xs m' k3 with
          | none => rfl
          | some r => simp
theorem drawH_le {xs : List Int} : ∀ {m k : Nat} {l : List (Int × Int)} {k' : Nat}, k ≤ xs.length → drawH xs m k = some (l, k') → k ≤ k' ∧ k' ≤ xs.length ∧ l.length = m := by
  intro m
  induction m with
  | zero => intro k l k' hk h; rw [drawH] at h; injection h with h; injection h with h1 h2; subst h1; subst h2; exact ⟨Nat.le_refl _, hk, rfl⟩
  | succ m ih =>
    intro k l k' hk h
    cases h1 : scan (xs.drop k) k with
    | none => rw [drawH_dry1 h1] at h; cases h
    | some p =>
      obtain ⟨a, k1⟩ := p
      have b1 := scan_drop_le hk h1
      cases h2 : scan (xs.drop k1) k1 with
      | none => rw [drawH_dry2 h1 h2] at h; cases h
      | some q =>
        obtain ⟨b, k2⟩ := q
        have b2 := scan_drop_le b1.2 h2
        rw [drawH, h1] at h
        simp only [h2] at h
        cases h3 : drawH xs m k2 with
        | none => rw [h3] at h; cases h
        | some r =>
          obtain ⟨l', k3⟩ := r
          rw [h3] at h
          simp only [Option.some.injEq, Prod.mk.injEq] at h
          obtain ⟨e1, e2⟩ := h
          have := ih b2.2 h3
          subst e1; subst e2
          simp only [List.length_cons]
          omega
theorem scan_more : ∀ {l : List Int} {k : Nat} {v : Int} {k' : Nat} (ys : List Int), scan l k = some (v, k') → scan (l ++ ys) k = some (v, k') := by
  intro l
  induction l with
  | nil => intro k v k' ys h; simp [scan] at h
  | cons x l ih =>
    intro k v k' ys h
    cases hx : isLow x
    · rw [scan_no hx] at h
      rw [List.cons_append, scan_no hx]
      exact ih ys h
    · rw [scan_yes hx] at h
      rw [List.cons_append, scan_yes hx]
      exact h
theorem drawH_more {xs : List Int} (ys : List Int) : ∀ {m k : Nat} {l : List (Int × Int)} {k' : Nat}, k ≤ xs.length → drawH xs m k = some (l, k') → drawH (xs ++ ys) m k = some (l, k') := by
  intro m
  induction m with
  | zero => intro k l k' hk h; exact h
  | succ m ih =>
    intro k l k' hk h
    cases h1 : scan (xs.drop k) k with
    | none => rw [drawH_dry1 h1] at h; cases h
    | some p =>
      obtain ⟨a, k1⟩ := p
      have b1 := scan_drop_le hk h1
      cases h2 : scan (xs.drop k1) k1 with
      | none => rw [drawH_dry2 h1 h2] at h; cases h
      | some q =>
        obtain ⟨b, k2⟩ := q
        have b2 := scan_drop_le b1.2 h2
        rw [drawH, h1] at h
        simp only [h2] at h
        cases h3 : drawH xs m k2 with
        | none => rw [h3] at h; cases h
        | some r =>
          obtain ⟨l', k3⟩ := r
          rw [h3] at h
          have g1 : scan ((xs ++ ys).drop k) k = some (a, k1) := by rw [List.drop_append_of_le_length hk]; exact scan_more ys h1
          have g2 : scan ((xs ++ ys).drop k1) k1 = some (b, k2) := by rw [List.drop_append_of_le_length b1.2]; exact scan_more ys h2
          rw [drawH, g1]
          simp only [g2, ih b2.2 h3]
          exact h

/-- c numbers, one by one. -/
def drawN (xs : List Int) : Nat → Nat → Option (List Int × Nat)
  | 0, k => some ([], k)
  | c + 1, k => match scan (xs.drop k) k with
    | none => none
    | some (a, k1) => match drawN xs c k1 with
      | none => none
      | some (l, k2) => some (a :: l, k2)
def joinN (d : List Int) : Option (List Int × Nat) → Option (List Int × Nat)
  | none => none
  | some (l, k) => some (d ++ l, k)
theorem joinN_nil (r : Option (List Int × Nat)) : joinN [] r = r := by cases r <;> rfl
theorem drawN_dry {xs : List Int} {c k : Nat} (h : scan (xs.drop k) k = none) : drawN xs (c + 1) k = none := by rw [drawN, h]
theorem drawN_step {xs : List Int} {c k k1 : Nat} {a : Int} (h : scan (xs.drop k) k = some (a, k1)) (d : List Int) : joinN d (drawN xs (c + 1) k) = joinN (d ++ [a]) (drawN xs c k1) := by
  rw [drawN, h]; simp only []
  cases drawN xs c k1 with
  | none => rfl
  | some p => simp [joinN]
def pairUp : List Int → List (Int × Int)
  | a :: b :: l => (a, b) :: pairUp l
  | _ => []
theorem drawH_pairs {xs : List Int} : ∀ (m k : Nat), drawH xs m k = match drawN xs (2 * m) k with
    | none => none
    | some (l, k') => some (pairUp l, k') := by
  intro m
  induction m with
  | zero => intro k; rfl
  | succ m ih =>
    intro k
    rw [show 2 * (m + 1) = (2 * m + 1) + 1 by omega]
    cases h1 : scan (xs.drop k) k with
    | none => rw [drawH_dry1 h1, drawN_dry h1]
    | some p =>
      obtain ⟨a, k1⟩ := p
      rw [drawN, h1]
      simp only []
      cases h2 : scan (xs.drop k1) k1 with
      | none => rw [drawH_dry2 h1 h2, drawN_dry h2]
      | some q =>
        obtain ⟨b, k2⟩ := q
        rw [drawN, h2, drawH, h1]
        simp only [h2, ih k2]
        cases drawN xs (2 * m) k2 with
        | none => rfl
        | some r => rfl
theorem pairUp_get : ∀ {l : List Int} {j : Nat} (h : 2 * j + 1 < l.length), (pairUp l)[j]? = some (l[2 * j]'(by omega), l[2 * j + 1]) := by
  intro l
  induction l using pairUp.induct with
  | case1 a b l ih =>
    intro j h
    cases j with
    | zero => rfl
    | succ j =>
      rw [pairUp, List.getElem?_cons_succ, ih (j := j) (by simp at h; omega)]
      simp only [show 2 * (j + 1) = 2 * j + 1 + 1 from by omega, List.getElem_cons_succ]
  | case2 l hl =>
    intro j h
    match l, hl, h with
    | [], _, h => simp at h
    | [a], _, h => simp at h
    | a :: b :: l, hl, _ => exact absurd rfl (hl a b l)
theorem pairUp_len : ∀ {l : List Int} {m : Nat}, l.length = 2 * m → (pairUp l).length = m := by
  intro l
  induction l using pairUp.induct with
  | case1 a b l ih =>
    intro m h
    simp only [List.length_cons] at h
    rw [pairUp, List.length_cons, ih (m := m - 1) (by omega)]
    omega
  | case2 l hl =>
    intro m h
    match l, hl, h with
    | [], _, h =>
      have h0 : m = 0 := by simp at h; omega
      subst h0
      rfl
    | [a], _, h => simp at h; omega
    | a :: b :: l, hl, _ => exact absurd rfl (hl a b l)
end Go.Proofs.Ytikbcmcmjfkjcaa
