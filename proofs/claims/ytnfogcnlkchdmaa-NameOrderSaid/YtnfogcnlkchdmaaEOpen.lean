/-
  Arguments opened: slices of edges as 'ESl'.
-/
import Derived.Test.YtnfogcnlkchdmaaOpen
import Derived.Test.YtnfogcnlkchdmaaEdge
import Derived.Deep.Slices
import Derived.Deep.Fields
import Derived.ChangeSame
namespace Go.Proofs.Ytnfogcnlkchdmaa
open Go Go.RowKit Go.ChangeShapes Go.WideShapes Go.Deep

def wfE (e : E3) : Prop := (Lit.int .i64 e.1).wf = true ∧ (Lit.int .i64 e.2.1).wf = true ∧ (Lit.int .i64 e.2.2).wf = true
/-- A slice of edges that came in. -/
def ERow (w : World) (a : Option Addr) (len cap : Nat) (z : List E3) : Prop := ESl w [] a len cap z ∧ ∀ e ∈ z, wfE e

theorem erow_some {w : World} {x : Addr} {len cap : Nat} (hl : len ≤ cap) (hc : cap ≤ maxLen) (f : Nat → E3)
    (h : ∀ i, i < len → w.cell? (x.add (i * 3)) = some (.int .i64 (f i).1) ∧ w.cell? (x.add (i * 3 + 1)) = some (.int .i64 (f i).2.1) ∧ w.cell? (x.add (i * 3 + 2)) = some (.int .i64 (f i).2.2) ∧ wfE (f i)) :
    ERow w (some x) len cap ((List.range len).map f) := by
  have hlen : ((List.range len).map f).length = len := by simp
  refine ⟨⟨by rw [ecells_len, hlen], hl, hc, fun hn => ⟨x, rfl, ?_, by simp, fun j u hu => ?_⟩⟩, fun e he => ?_⟩
  · have := World.block_lt_of_cell? w _ (h 0 hn).1
    rwa [block_of_add] at this
  · have hj : j < len * 3 := by
      rcases Nat.lt_or_ge j (len * 3) with h' | h'
      · exact h'
      · rw [List.getElem?_eq_none (by rw [ecells_len, hlen]; exact h')] at hu; cases hu
    have hi : j / 3 < len := by omega
    have hi' : j / 3 < ((List.range len).map f).length := by rw [hlen]; exact hi
    obtain ⟨c0, c1, c2, _⟩ := h _ hi
    have hg : ((List.range len).map f)[j / 3] = f (j / 3) := by simp
    have hr : j % 3 = 0 ∨ j % 3 = 1 ∨ j % 3 = 2 := by omega
    rcases hr with hr | hr | hr
    · have e : j = j / 3 * 3 := by omega
      rw [e, ecells_get0 _ _ hi', hg] at hu
      rw [e, ← hu]; exact c0
    · have e : j = j / 3 * 3 + 1 := by omega
      rw [e, ecells_get1 _ _ hi', hg] at hu
      rw [e, ← hu]; exact c1
    · have e : j = j / 3 * 3 + 2 := by omega
      rw [e, ecells_get2 _ _ hi', hg] at hu
      rw [e, ← hu]; exact c2
  · simp only [List.mem_map, List.mem_range] at he
    obtain ⟨i, hi, rfl⟩ := he
    exact (h i hi).2.2.2

section
variable {H : Type} {enc : TypeId × Value → H} {P : Program} {w : World} {base : Nat} {spare : Nat → Bool} {held : Bool}
theorem open_erow {t e : TypeId} {f0 f1 f2 : Field} {a : Option Addr} {len cap : Nat} {d : DataW H} {p : List MemPlace} (ht : P.underlying t = some (.slice e)) (he : P.underlying e = some (.struct #[f0, f1, f2])) (hC : P.cellsOf e = 3)
    (o0 : f0.offset = 0 ∧ P.cellsOf f0.type = 1) (o1 : f1.offset = 1 ∧ P.cellsOf f1.type = 1) (o2 : f2.offset = 2 ∧ P.cellsOf f2.type = 1)
    (t0 : P.underlying f0.type = some (.int .i64)) (t1 : P.underlying f1.type = some (.int .i64)) (t2 : P.underlying f2.type = some (.int .i64))
    (h : DataW.Trod enc P w base spare held t (.slice a len cap) d p) : ∃ z, ERow w a len cap z := by
  obtain ⟨fuel, hf⟩ := h
  rcases open_slice ht hf with ⟨hcs, _⟩ | ⟨x, l, c, m, n, D, Pl, hcs, _, hl, hm, hmm, _, hi⟩
  · simp [Value.cells] at hcs
    obtain ⟨rfl, rfl, rfl⟩ := hcs
    exact ⟨[], Sl.nil_ _ _ _, fun e he => by cases he⟩
  · simp [Value.cells] at hcs
    obtain ⟨rfl, rfl, rfl⟩ := hcs
    have hex : ∀ i, ∃ q : E3, i < len → w.cell? (x.add (i * 3)) = some (.int .i64 q.1) ∧ w.cell? (x.add (i * 3 + 1)) = some (.int .i64 q.2.1) ∧ w.cell? (x.add (i * 3 + 2)) = some (.int .i64 q.2.2) ∧ wfE q := by
      intro i
      by_cases hlt : i < len
      · obtain ⟨cs', hc, ht'⟩ := hi i (by rw [hmm]; split <;> omega)
        rw [hC] at hc
        obtain ⟨ys, n', _, _, _, hyl, hf⟩ := DataW.trod_struct he ht'
        obtain ⟨_, hcl, hat⟩ := World.cells?_some hc
        have hg : ∀ (j : Nat) (f : Field) (hj : j < 3), #[f0, f1, f2][j]? = some f → f.offset = j ∧ P.cellsOf f.type = 1 → P.underlying f.type = some (.int .i64) →
            ∃ k, w.cell? (x.add (i * 3 + j)) = some (.int .i64 k) ∧ (Lit.int .i64 k).wf = true := by
          intro j f hj hfj ho hty
          have h1 := hf j f hfj
          rw [ho.1, ho.2] at h1
          have hjc : j < cs'.length := by omega
          rw [List.drop_eq_getElem_cons hjc, List.take_succ_cons, List.take_zero] at h1
          have hjy : j < ys.length := by rw [hyl]; exact hj
          rw [List.getElem?_eq_getElem hjy] at h1
          obtain ⟨k, hk, _, hw⟩ := DataW.trod_int hty h1
          refine ⟨k, ?_, hw⟩
          have h2 := hat j hj
          rw [List.getElem?_eq_getElem hjc] at h2
          injection hk with hk
          rw [hk] at h2
          rw [← add_of_add]
          exact h2
        obtain ⟨k0, a0, b0⟩ := hg 0 f0 (by decide) rfl o0 t0
        obtain ⟨k1, a1, b1⟩ := hg 1 f1 (by decide) rfl o1 t1
        obtain ⟨k2, a2, b2⟩ := hg 2 f2 (by decide) rfl o2 t2
        exact ⟨(k0, k1, k2), fun _ => ⟨a0, a1, a2, b0, b1, b2⟩⟩
      · exact ⟨(0, 0, 0), fun h => absurd h hlt⟩
    obtain ⟨f, hf⟩ := Classical.axiomOfChoice hex
    exact ⟨_, erow_some hl hm f hf⟩
end
end Go.Proofs.Ytnfogcnlkchdmaa
