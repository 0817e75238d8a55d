/-
  Lists of edges: how they lie in memory, and how two edges are held against each other.
-/
import Derived.Test.YtbnkanhibjoleaaProg
import Derived.Test.YtbnkanhibjoleaaMem
import Derived.BigQuiet
namespace Go.Proofs.Ytbnkanhibjoleaa
open Go Go.RowKit

/-- An edge: U, V, Tier. -/
abbrev E3 : Type := Int × Int × Int

theorem flat_len {α : Type} (f : α → List Value) {sz : Nat} (hf : ∀ x, (f x).length = sz) (l : List α) : (l.flatMap f).length = l.length * sz := by
  induction l with
  | nil => simp
  | cons x l ih => simp [ih, hf, Nat.add_mul, Nat.add_comm]
theorem flat_get {α : Type} (f : α → List Value) {sz : Nat} (hf : ∀ x, (f x).length = sz) (l : List α) (i j : Nat) (hi : i < l.length) (hj : j < sz) : (l.flatMap f)[i * sz + j]? = (f l[i])[j]? := by
  induction l generalizing i with
  | nil => simp at hi
  | cons x l ih =>
    cases i with
    | zero => simp [List.getElem?_append, hf, hj]
    | succ i =>
      have hi' : i < l.length := by simpa using hi
      simp only [List.flatMap_cons, List.getElem_cons_succ]
      rw [List.getElem?_append_right (by rw [hf, Nat.add_mul]; omega), hf, ← ih i hi']
      congr 1
      rw [Nat.add_mul]; omega

/-- An edge's cells. -/
def ecell (e : E3) : List Value := [.int .i64 e.1, .int .i64 e.2.1, .int .i64 e.2.2]
def ecells (l : List E3) : List Value := l.flatMap ecell
theorem ecell_len (x : E3) : (ecell x).length = 3 := rfl
theorem ecells_len (l : List E3) : (ecells l).length = l.length * 3 := flat_len ecell ecell_len l
theorem ecells_get0 (l : List E3) (i : Nat) (hi : i < l.length) : (ecells l)[i * 3]? = some (.int .i64 l[i].1) := by
  have := flat_get ecell ecell_len l i 0 hi (by decide); simpa [ecell, ecells] using this
theorem ecells_get1 (l : List E3) (i : Nat) (hi : i < l.length) : (ecells l)[i * 3 + 1]? = some (.int .i64 l[i].2.1) := by
  have := flat_get ecell ecell_len l i 1 hi (by decide); simpa [ecell, ecells] using this
theorem ecells_get2 (l : List E3) (i : Nat) (hi : i < l.length) : (ecells l)[i * 3 + 2]? = some (.int .i64 l[i].2.2) := by
  have := flat_get ecell ecell_len l i 2 hi (by decide); simpa [ecell, ecells] using this
theorem ecells_append (a b : List E3) : ecells (a ++ b) = ecells a ++ ecells b := by simp [ecells]
theorem ecells_one {l : List E3} : ∀ u ∈ ecells l, u.oneCell' = true := by
  intro u hu
  simp only [ecells, List.mem_flatMap, ecell, List.mem_cons, List.not_mem_nil, or_false] at hu
  obtain ⟨x, _, rfl | rfl | rfl⟩ := hu <;> rfl
theorem ecells_take (l : List E3) (k : Nat) : (ecells l).take (k * 3) = ecells (l.take k) := by
  rcases Nat.lt_or_ge k l.length with h | h
  · have e : ecells l = ecells (l.take k) ++ ecells (l.drop k) := by rw [← ecells_append, List.take_append_drop]
    rw [e, List.take_append_of_le_length (by rw [ecells_len, List.length_take]; omega), List.take_of_length_le (by rw [ecells_len, List.length_take]; omega)]
  · rw [List.take_of_length_le (by rw [ecells_len]; omega), List.take_of_length_le h]
theorem ecells_drop (l : List E3) (k : Nat) : (ecells l).drop (k * 3) = ecells (l.drop k) := by
  rcases Nat.lt_or_ge k l.length with h | h
  · have e : ecells l = ecells (l.take k) ++ ecells (l.drop k) := by rw [← ecells_append, List.take_append_drop]
    rw [e, List.drop_append_of_le_length (by rw [ecells_len, List.length_take]; omega), List.drop_eq_nil_of_le (by rw [ecells_len, List.length_take]; omega), List.nil_append]
  · rw [List.drop_eq_nil_of_le (by rw [ecells_len]; omega), List.drop_eq_nil_of_le h]; rfl

/-- A slice of edges in memory. -/
def ESl (w : World) (M : List Nat) (A : Option Addr) (n c : Nat) (l : List E3) : Prop := Sl w M 3 A n c (ecells l)
theorem ESl.length {w : World} {M : List Nat} {A : Option Addr} {n c : Nat} {l : List E3} (h : ESl w M A n c l) : l.length = n := by
  have := h.len; rw [ecells_len] at this; omega
/-- The three cells of one of its edges, as the walk spells them. -/
theorem ESl.get {w : World} {M : List Nat} {A : Option Addr} {n c : Nat} {l : List E3} (h : ESl w M A n c l) {k : Nat} (hk : k < l.length) :
    ∃ ad, A = some ad ∧ ad.block < w.heap.size ∧ ad.block ∉ M ∧ w.cell? (ad.add (k * 3)) = some (.int .i64 l[k].1) ∧
      w.cell? ⟨(ad.add (k * 3)).block, (ad.add (k * 3)).off + 1, none⟩ = some (.int .i64 l[k].2.1) ∧
      w.cell? ⟨(ad.add (k * 3)).block, (ad.add (k * 3)).off + 2, none⟩ = some (.int .i64 l[k].2.2) := by
  have hl := h.length
  obtain ⟨ad, e, hb, hm, hc⟩ := h.at_ (by omega)
  exact ⟨ad, e, hb, hm, hc _ _ (ecells_get0 l k hk), cell_off (hc _ _ (ecells_get1 l k hk)) (by decide), cell_off (hc _ _ (ecells_get2 l k hk)) (by decide)⟩

def ene (a b c d e f : Int) : Bool := !(a == d && (b == e && c == f))
theorem ene_eq {x y : E3} (h : x = y) : ene x.1 x.2.1 x.2.2 y.1 y.2.1 y.2.2 = false := by subst h; simp [ene]
theorem ene_ne {x y : E3} (h : x ≠ y) : ene x.1 x.2.1 x.2.2 y.1 y.2.1 y.2.2 = true := by
  unfold ene
  simp only [Bool.not_eq_true', Bool.and_eq_false_iff, beq_eq_false_iff_ne]
  by_cases h1 : x.1 = y.1
  · by_cases h2 : x.2.1 = y.2.1
    · exact .inr (.inr fun h3 => h (Prod.ext h1 (Prod.ext h2 h3)))
    · exact .inr (.inl h2)
  · exact .inl h1
theorem edge_neq (a b c d e f : Int) (w : World) : (binOp .neq 38 (.agg #[.int .i64 a, .int .i64 b, .int .i64 c]) (.agg #[.int .i64 d, .int .i64 e, .int .i64 f])).run Try.prog w = .ok (.bool (ene a b c d e f)) w := by
  unfold ene
  go_simp
  by_cases h1 : a = d <;> by_cases h2 : b = e <;> by_cases h3 : c = f <;> simp [h1, h2, h3]
theorem edge_eql (a b c d e f : Int) (w : World) : (binOp .eql 38 (.agg #[.int .i64 a, .int .i64 b, .int .i64 c]) (.agg #[.int .i64 d, .int .i64 e, .int .i64 f])).run Try.prog w = .ok (.bool (!(ene a b c d e f))) w := by
  unfold ene
  go_simp
  by_cases h1 : a = d <;> by_cases h2 : b = e <;> by_cases h3 : c = f <;> simp [h1, h2, h3]

/-- Does one edge stand ahead of another? -/
def ltE (x y : E3) : Bool := decide (x.1 < y.1) || (x.1 == y.1 && decide (x.2.1 < y.2.1))
theorem edge_info : (Try.prog.info? 38).map (fun i => (i.zero, i.size, i.bytes)) = some (some (.agg #[.int .i64 0, .int .i64 0, .int .i64 0]), 3, 24) := by kernel_rfl
end Go.Proofs.Ytbnkanhibjoleaa
