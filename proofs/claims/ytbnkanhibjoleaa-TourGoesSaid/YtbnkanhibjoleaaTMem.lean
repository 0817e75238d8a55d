/-
  Trees in memory: a row of one's own of lists, and a row of one's own of edges.
-/
import Derived.Test.YtbnkanhibjoleaaApp
import Derived.Test.YtbnkanhibjoleaaEdge
import Derived.Laws.OwnMore
namespace Go.Proofs.Ytbnkanhibjoleaa
open Go Go.RowKit

abbrev P3 : Type := Option Addr × Nat × Nat
def tcell (p : P3) : Value := .slice p.1 p.2.1 p.2.2
theorem tcells_get (ps : List P3) (k : Nat) (h : k < ps.length) : (ps.map tcell)[k]? = some (tcell ps[k]) := by simp [h]
theorem tcells_one {ps : List P3} : ∀ u ∈ ps.map tcell, u.oneCell' = true := by
  intro u hu
  obtain ⟨p, _, rfl⟩ := List.mem_map.1 hu
  rfl
/-- A list of ints, as the pair p tells it, off the blocks M. -/
def TP (w : World) (M : List Nat) (p : P3) (t : List Int) : Prop := Sl w M 1 p.1 p.2.1 p.2.2 (ints .i64 t)
theorem TP.len {w : World} {M : List Nat} {p : P3} {t : List Int} (h : TP w M p t) : t.length = p.2.1 := by have := Sl.len h; simpa using this
theorem own_keep {w w' : World} {base : Nat} {e : TypeId} {size : Nat} {v : Value} {n : Nat} {xs : List Value} (h : w.ownsRow base e size v n xs) (hb : Below w.heap.size w w') : w'.ownsRow base e size v n xs := by
  refine h.kept (row := none) ⟨hb.os, hb.tape, hb.output, hb.size, fun k hk _ => hb.block k hk⟩ ?_
  cases v.ownBlock <;> simp
/-- The trees ts, as the slice of block g; the edges es, as the row V. -/
structure TMem (w : World) (base g c : Nat) (ps : List P3) (ts : List (List Int)) (V : Value) (es : List E3) : Prop where
  own : w.ownsRow base 22 1 (.slice (some ⟨g, 0, none⟩) ts.length c) ts.length (ps.map tcell)
  owE : w.ownsRow base 38 3 V es.length (ecells es)
  ne : V.ownBlock ≠ some g
  each : ∀ (k : Nat) (p : P3) (t : List Int), ps[k]? = some p → ts[k]? = some t → TP w (g :: V.ownBlock.toList) p t
namespace TMem
variable {w w' : World} {base g c : Nat} {ps : List P3} {ts : List (List Int)} {V : Value} {es : List E3}
theorem plen (h : TMem w base g c ps ts V es) : ps.length = ts.length := by have := h.own.1; simpa using this
theorem glt (h : TMem w base g c ps ts V es) : base ≤ g ∧ g < w.heap.size := h.own.lt g rfl
theorem below (h : TMem w base g c ps ts V es) (hb : Below w.heap.size w w') : TMem w' base g c ps ts V es :=
  ⟨own_keep h.own hb, own_keep h.owE hb, h.ne, fun k p t hp ht => Sl.below (h.each k p t hp ht) hb⟩
theorem capB (h : TMem w base g c ps ts V es) : ts.length ≤ c ∧ c ≤ maxLen := by
  rcases h.own.2 with ⟨hv, _⟩ | ⟨g', cap, cur, hv, _, _, h1, h2, _⟩
  · simp at hv
  · injection hv with _ _ e3; subst e3; exact ⟨h1, h2⟩
/-- One of the trees. -/
theorem get (h : TMem w base g c ps ts V es) {k : Nat} (hk : k < ts.length) : ∃ (B : Option Addr) (d : Nat), w.cell? ⟨g, k, none⟩ = some (.slice B ts[k].length d) ∧ w.frozen? ⟨g, k, none⟩ = false ∧ Sl w (g :: V.ownBlock.toList) 1 B ts[k].length d (ints .i64 ts[k]) := by
  have hkp : k < ps.length := by rw [h.plen]; exact hk
  have h2 := h.each k ps[k] ts[k] (List.getElem?_eq_getElem hkp) (List.getElem?_eq_getElem hk)
  have hc := h.own.cellAt k (by omega)
  rw [tcells_get ps k hkp] at hc
  have hl := h2.len
  refine ⟨ps[k].1, ps[k].2.2, by rw [hc, hl]; rfl, h.own.frozenAt k, ?_⟩
  rw [hl]
  exact h2
theorem esl {AV : Option Addr} {nV cV : Nat} (h : TMem w base g c ps ts (.slice AV nV cV) es) (hn : es.length = nV) : ESl w [] AV nV cV es := by
  have := h.owE
  rw [hn] at this
  exact Sl.of_own this (by simp)
/-- Another tree at k. -/
theorem set (h : TMem w base g c ps ts V es) {k : Nat} (hk : k < ts.length) {B : Option Addr} {d : Nat} {x : List Int} (hx : Sl w (g :: V.ownBlock.toList) 1 B x.length d (ints .i64 x)) :
    TMem (w.setCell ⟨g, k, none⟩ (.slice B x.length d)) base g c (ps.set k (B, x.length, d)) (ts.set k x) V es := by
  obtain ⟨h1, h2⟩ := h.own.stored k (.slice B x.length d)
  refine ⟨?_, h.owE.kept h2 (.inr h.ne), h.ne, fun j p t hp ht => ?_⟩
  · rw [List.length_set, List.map_set]; exact h1
  · rw [List.getElem?_set] at hp ht
    by_cases hj : k = j
    · rw [if_pos hj, if_pos (by rw [h.plen]; omega)] at hp
      rw [if_pos hj, if_pos (by omega)] at ht
      injection hp with hp
      injection ht with ht
      subst hp ht
      exact Sl.setCell hx (by simp) _
    · rw [if_neg hj] at hp ht
      exact Sl.setCell (h.each j p t hp ht) (by simp) _
/-- One tree more. -/
theorem push (h : TMem w base g c ps ts V es) {B : Option Addr} {d m : Nat} {x : List Int} (hx : Sl w (g :: V.ownBlock.toList) 1 B m d (ints .i64 x)) {A' : Option Addr} {c' : Nat}
    (ho : w'.ownsRow base 22 1 (.slice A' (ts.length + 1) c') (ts.length + 1) (ps.map tcell ++ [.slice B m d])) (hg : w.grownBy w' (some g))
    (hb : Value.ownBlock (.slice A' (ts.length + 1) c') = some g ∨ Value.ownBlock (.slice A' (ts.length + 1) c') = some w.heap.size) :
    ∃ g', A' = some ⟨g', 0, none⟩ ∧ (g' = g ∨ g' = w.heap.size) ∧ TMem w' base g' c' (ps ++ [(B, m, d)]) (ts ++ [x]) V es := by
  obtain ⟨g', cap, hv, hb1, hlt⟩ := ho.form (by omega)
  have hA : A' = some ⟨g', 0, none⟩ := by injection hv
  subst hA
  have hg' : g' = g ∨ g' = w.heap.size := by
    rcases hb with hb | hb <;> simp [Value.ownBlock] at hb
    · exact .inl hb
    · exact .inr hb
  have key : ∀ p t, TP w (g :: V.ownBlock.toList) p t → TP w' (g' :: V.ownBlock.toList) p t := fun p t hp => by
    have h1 : TP w (g' :: g :: V.ownBlock.toList) p t := Sl.more hp (fun b hb => by
      rcases List.mem_cons.1 hb with rfl | hb
      · rcases hg' with rfl | rfl
        · exact .inl (by simp)
        · exact .inr (Nat.le_refl _)
      · exact .inl hb)
    exact Sl.less (Sl.grown h1 hg (fun b hb => by cases hb; simp)) (fun b hb => by
      rcases List.mem_cons.1 hb with rfl | hb
      · simp
      · simp [hb])
  refine ⟨g', rfl, hg', ⟨?_, h.owE.kept hg (.inr h.ne), ?_, fun k p t hp ht => ?_⟩⟩
  · rw [List.length_append, List.length_singleton, List.map_append]; exact ho
  · rcases hg' with rfl | rfl
    · exact h.ne
    · intro he
      have := h.owE.lt _ he
      omega
  · have hpl := h.plen
    rcases Nat.lt_or_ge k ts.length with hk | hk
    · rw [List.getElem?_append_left (by omega)] at hp ht
      exact key p t (h.each k p t hp ht)
    · rw [List.getElem?_append_right (by omega), hpl] at hp
      rw [List.getElem?_append_right (by omega)] at ht
      have hk0 : k - ts.length = 0 := by
        rcases Nat.eq_zero_or_pos (k - ts.length) with h0 | h0
        · exact h0
        · rw [List.getElem?_eq_none (by simp; omega)] at ht; cases ht
      rw [hk0] at hp ht
      simp only [List.getElem?_cons_zero, Option.some.injEq] at hp ht
      subst hp ht
      exact key _ _ hx
/-- The last tree off. -/
theorem pop (h : TMem w base g c ps ts V es) {n : Nat} (hn : n ≤ ts.length) : TMem w base g c (ps.take n) (ts.take n) V es := by
  have hl : (ts.take n).length = n := by rw [List.length_take]; omega
  refine ⟨?_, h.owE, h.ne, fun k p t hp ht => ?_⟩
  · rw [hl]
    obtain ⟨h1, h2⟩ := h.own
    rcases h2 with ⟨hv, _⟩ | ⟨g', cap, cur, hv, hb, hg, hnc, hcm, hcs, htake⟩
    · simp at hv
    · injection hv with e1 e2 e3
      subst e3
      refine ⟨by rw [List.length_map, List.length_take, h.plen]; omega, .inr ⟨g', c, cur, by rw [e1], hb, hg, by omega, hcm, hcs, ?_⟩⟩
      rw [Nat.mul_one] at htake ⊢
      rw [List.map_take, ← htake, List.take_take]
      congr 1
      omega
  · rw [List.getElem?_take] at hp ht
    split at hp
    · rename_i hk
      rw [if_pos hk] at ht
      exact h.each k p t hp ht
    · cases hp
/-- One edge more. -/
theorem pushE (h : TMem w base g c ps ts V es) {e : E3} {A' : Option Addr} {c' : Nat} (ho : w'.ownsRow base 38 3 (.slice A' (es.length + 1) c') (es.length + 1) (ecells (es ++ [e]))) (hg : w.grownBy w' V.ownBlock)
    (hb : Value.ownBlock (.slice A' (es.length + 1) c') = V.ownBlock ∨ Value.ownBlock (.slice A' (es.length + 1) c') = some w.heap.size) : TMem w' base g c ps ts (.slice A' (es.length + 1) c') (es ++ [e]) := by
  have hg1 := h.glt
  refine ⟨h.own.kept hg (.inr (fun he => h.ne he.symm)), by rw [List.length_append, List.length_singleton]; exact ho, ?_, fun k p t hp ht => ?_⟩
  · rcases hb with hb | hb
    · rw [hb]; exact h.ne
    · rw [hb]; intro he; injection he with he; omega
  · have h1 := h.each k p t hp ht
    have h2 : TP w (g :: (Value.ownBlock (.slice A' (es.length + 1) c')).toList ++ V.ownBlock.toList) p t := Sl.more h1 (fun b hb' => by
      rcases List.mem_append.1 hb' with hb' | hb'
      · rcases List.mem_cons.1 hb' with rfl | hb'
        · exact .inl (by simp)
        · rcases hb with hb | hb
          · rw [hb] at hb'; exact .inl (List.mem_cons_of_mem _ hb')
          · rw [hb] at hb'
            simp only [Option.toList_some, List.mem_singleton] at hb'
            exact .inr (by omega)
      · exact .inl (List.mem_cons_of_mem _ hb'))
    exact Sl.less (Sl.grown h2 hg (fun b hb => by rw [hb]; simp)) (fun b hb => List.mem_append_left _ hb)
theorem offE (h : TMem w base g c ps ts V es) {A' : Option Addr} {c' : Nat} (hg : w.grownBy w' V.ownBlock)
    (hb : Value.ownBlock (.slice A' (es.length + 1) c') = V.ownBlock ∨ Value.ownBlock (.slice A' (es.length + 1) c') = some w.heap.size) {p : P3} {t : List Int} (h1 : TP w (g :: V.ownBlock.toList) p t) :
    TP w' (g :: (Value.ownBlock (.slice A' (es.length + 1) c')).toList) p t := by
  have h2 : TP w (g :: (Value.ownBlock (.slice A' (es.length + 1) c')).toList ++ V.ownBlock.toList) p t := Sl.more h1 (fun b hb' => by
    rcases List.mem_append.1 hb' with hb' | hb'
    · rcases List.mem_cons.1 hb' with rfl | hb'
      · exact .inl (by simp)
      · rcases hb with hb | hb
        · rw [hb] at hb'; exact .inl (List.mem_cons_of_mem _ hb')
        · rw [hb] at hb'
          simp only [Option.toList_some, List.mem_singleton] at hb'
          exact .inr (by omega)
    · exact .inl (List.mem_cons_of_mem _ hb'))
  exact Sl.less (Sl.grown h2 hg (fun b hb => by rw [hb]; simp)) (fun b hb => List.mem_append_left _ hb)
/-- Other edges, in a new row. -/
theorem newE (h : TMem w base g c ps ts V es) (hbl : Below w.heap.size w w') {es' : List E3} {V' : Value} (ho : w'.ownsRow base 38 3 V' es'.length (ecells es')) (hb : ∀ b, V'.ownBlock = some b → w.heap.size ≤ b) :
    TMem w' base g c ps ts V' es' := by
  have hg1 := h.glt
  refine ⟨own_keep h.own hbl, ho, fun he => by have := hb g he; omega, fun k p t hp ht => ?_⟩
  have h1 := h.each k p t hp ht
  have h2 : TP w (g :: V'.ownBlock.toList) p t := Sl.more h1 (fun b hb' => by
    rcases List.mem_cons.1 hb' with rfl | hb'
    · exact .inl (by simp)
    · cases hv : V'.ownBlock with
      | none => rw [hv] at hb'; simp at hb'
      | some q =>
        rw [hv] at hb'
        simp only [Option.toList_some, List.mem_singleton] at hb'
        exact .inr (by rw [hb']; exact hb q hv))
  exact Sl.below h2 hbl
end TMem
end Go.Proofs.Ytbnkanhibjoleaa
