/-
  The trees of the beginning; how the walk of TourGoes meets memory.
-/
import Derived.Test.YtbnkanhibjoleaaTAt
import Derived.Test.YtbnkanhibjoleaaTGo1
import Derived.Test.YtbnkanhibjoleaaTourTurns
namespace Go.Proofs.Ytbnkanhibjoleaa
open Go Go.RowKit

/-- Trees as a row of one's own, empty or not. -/
structure TRow (w : World) (base : Nat) (VT : Value) (ps : List P3) (ts : List (List Int)) : Prop where
  own : w.ownsRow base 22 1 VT ts.length (ps.map tcell)
  each : ∀ (k : Nat) (p : P3) (t : List Int), ps[k]? = some p → ts[k]? = some t → TP w VT.ownBlock.toList p t
namespace TRow
variable {w w' : World} {base c : Nat} {ps : List P3} {ts : List (List Int)} {VT : Value}
theorem nil (w : World) (base : Nat) : TRow w base (.slice none 0 0) [] [] := ⟨World.ownsRow_nil _ _ _ _, fun k p t hp _ => by simp at hp⟩
theorem plen (h : TRow w base VT ps ts) : ps.length = ts.length := by have := h.own.1; simpa using this
theorem below (h : TRow w base VT ps ts) (hb : Below w.heap.size w w') : TRow w' base VT ps ts :=
  ⟨own_keep h.own hb, fun k p t hp ht => Sl.below (h.each k p t hp ht) hb⟩
theorem push (h : TRow w base VT ps ts) {B : Option Addr} {d m : Nat} {x : List Int} (hx : Sl w VT.ownBlock.toList 1 B m d (ints .i64 x)) {V' : Value} {n : Nat} (hn : n = ts.length + 1)
    (ho : w'.ownsRow base 22 1 V' n (ps.map tcell ++ [.slice B m d])) (hg : w.grownBy w' VT.ownBlock)
    (hb : V'.ownBlock = VT.ownBlock ∨ V'.ownBlock = some w.heap.size) : TRow w' base V' (ps ++ [(B, m, d)]) (ts ++ [x]) := by
  subst hn
  have key : ∀ p t, TP w VT.ownBlock.toList p t → TP w' V'.ownBlock.toList p t := fun p t hp => by
    have h1 : TP w (V'.ownBlock.toList ++ VT.ownBlock.toList) p t := Sl.more hp (fun b hb' => by
      rcases List.mem_append.1 hb' with hb' | hb'
      · rcases hb with hb | hb
        · rw [hb] at hb'; exact .inl hb'
        · rw [hb] at hb'
          simp only [Option.toList_some, List.mem_singleton] at hb'
          exact .inr (by omega)
      · exact .inl hb')
    exact Sl.less (Sl.grown h1 hg (fun b hb => by rw [hb]; simp)) (fun b hb => List.mem_append_left _ hb)
  refine ⟨by rw [List.length_append, List.length_singleton, List.map_append]; exact ho, fun k p t hp ht => ?_⟩
  have hpl := h.plen
  rcases Nat.lt_or_ge k ts.length with hk | hk
  · rw [List.getElem?_append_left (by omega)] at hp ht
    exact key p t (h.each k p t hp ht)
  · rw [List.getElem?_append_right (by omega), hpl] at hp
    rw [List.getElem?_append_right (by omega)] at ht
    have hk0 : k - ts.length = 0 := by
      rcases Nat.eq_zero_or_pos (k - ts.length) with h0 | h0
      · exact h0
      · rw [List.getElem?_eq_none (by simp; omega)] at ht; cases ht
    rw [hk0] at hp ht
    simp only [List.getElem?_cons_zero, Option.some.injEq] at hp ht
    subst hp ht
    exact key _ _ hx
theorem mem {A : Option Addr} {n : Nat} (h : TRow w base (.slice A n c) ps ts) (hn : ts.length = n) (h0 : 0 < n) : ∃ g, A = some ⟨g, 0, none⟩ ∧ TMem w base g c ps ts (.slice none 0 0) [] := by
  subst hn
  obtain ⟨g, cap, hv, hb1, hlt⟩ := h.own.form h0
  have hA : A = some ⟨g, 0, none⟩ := by injection hv
  subst hA
  refine ⟨g, rfl, h.own, World.ownsRow_nil _ _ _ _, by simp [Value.ownBlock], fun k p t hp ht => Sl.less (h.each k p t hp ht) (by simp [Value.ownBlock])⟩
end TRow

def ts0 (k : Nat) : List (List Int) := (List.range k).map fun (i : Nat) => [(i : Int)]
theorem ts0_len (k : Nat) : (ts0 k).length = k := by simp [ts0]
theorem ts0_step (k : Nat) : ts0 (k + 1) = ts0 k ++ [[(k : Int)]] := by simp [ts0, List.range_succ]
theorem edgesT_one (x : Int) : edgesT [x] = [] := by rw [edgesT_edF]; rfl
theorem frst0 : Frst (ts0 8) [] := by
  have e : ts0 8 = [[0], [1], [2], [3], [4], [5], [6], [7]] := by decide
  rw [e]
  refine ⟨fun t ht => ?_, fun x h0 h1 => ?_, fun t ht x hx => ?_, ?_, ?_, rfl⟩
  · simp only [List.mem_cons, List.not_mem_nil, or_false] at ht
    rcases ht with rfl | rfl | rfl | rfl | rfl | rfl | rfl | rfl <;> rfl
  · exact ⟨[x], by simp only [List.mem_cons, List.cons.injEq, and_true, List.not_mem_nil, or_false]; omega, by simp⟩
  · simp only [List.mem_cons, List.not_mem_nil, or_false] at ht
    rcases ht with rfl | rfl | rfl | rfl | rfl | rfl | rfl | rfl <;> (rw [List.mem_singleton.1 hx]; decide)
  · decide
  · simp [List.flatMap_cons, edgesT_one]

theorem i1_off (w : World) (x : Int) {M : List Nat} (hM : ∀ b ∈ M, b < w.heap.size) : Sl (w.alloc (.cells #[.int .i64 x] 3)) M 1 (some ⟨w.heap.size, 0, none⟩) 1 1 (ints .i64 [x]) :=
  Sl.of_blk (Blk.new w _ _) rfl (fun j hj => by match j, hj with | 0, _ => rfl) (fun h => by have := hM _ h; omega) (by unfold maxLen; omega)
theorem own_lt {w : World} {base : Nat} {e : TypeId} {size : Nat} {v : Value} {n : Nat} {xs : List Value} (h : w.ownsRow base e size v n xs) : ∀ b ∈ v.ownBlock.toList, b < w.heap.size := fun b hb => by
  cases hv : v.ownBlock with
  | none => rw [hv] at hb; simp at hb
  | some q => rw [hv] at hb; simp only [Option.toList_some, List.mem_singleton] at hb; subst hb; exact (h.lt _ hv).2
theorem slice_one {B : Option Addr} {m d : Nat} : ∀ u ∈ [Value.slice B m d], u.oneCell' = true := by
  intro u hu
  rw [List.mem_singleton.1 hu]; rfl
/-- A new list of one list. -/
theorem p1_new (w : World) (B : Option Addr) (m d : Nat) : Sl (w.alloc (.cells #[.slice B m d] 22)) [] 1 (some ⟨w.heap.size, 0, none⟩) 1 1 [.slice B m d] :=
  Sl.of_blk (Blk.new w _ _) rfl (fun x hx => by match x, hx with | 0, _ => rfl) (by simp) (by unfold maxLen; omega)
theorem slice_info : (Try.prog.info? 22).map (fun i => (i.zero, i.size, i.bytes)) = some (some (.slice none 0 0), 1, 24) := by kernel_rfl

/-- The last place of an edge among the first k; -1: there is none. -/
def thereI (l : List E3) (e : E3) : Nat → Int
  | 0 => -1
  | k + 1 => if l.getD k (0, 0, 0) = e then (k : Int) else thereI l e k
theorem thereI_spec (l : List E3) (e : E3) : ∀ k, k ≤ l.length → (thereI l e k = -1 ∧ e ∉ l.take k) ∨ ∃ (h : Nat) (hh : h < l.length), thereI l e k = h ∧ h < k ∧ l[h] = e
  | 0, _ => .inl ⟨rfl, by simp⟩
  | k + 1, hk => by
    have hkl : k < l.length := by omega
    have hg : l.getD k (0, 0, 0) = l[k] := by simp [List.getD, List.getElem?_eq_getElem hkl]
    unfold thereI
    rw [hg]
    by_cases h : l[k] = e
    · rw [if_pos h]; exact .inr ⟨k, hkl, rfl, by omega, h⟩
    · rw [if_neg h]
      rcases thereI_spec l e k (by omega) with ⟨h1, h2⟩ | ⟨i, hi, h1, h2, h3⟩
      · refine .inl ⟨h1, fun hm => ?_⟩
        rw [List.take_succ_eq_append_getElem hkl, List.mem_append, List.mem_singleton] at hm
        rcases hm with hm | hm
        · exact h2 hm
        · exact h hm.symm
      · exact .inr ⟨i, hi, h1, by omega, h3⟩
theorem eraseIdx_perm {l : List E3} {e : E3} {h : Nat} (hh : h < l.length) (he : l[h] = e) : l.Perm (e :: (l.take h ++ l.drop (h + 1))) := by
  have : l = l.take h ++ l[h] :: l.drop (h + 1) := by rw [List.getElem_cons_drop, List.take_append_drop]
  conv => lhs; rw [this]
  rw [he]
  exact List.perm_middle
/-- What is told of the first x trees. -/
def gotE (ts : List (List Int)) (x : Nat) : List E3 := (ts.take x).flatMap edgesT
def manyV (ts : List (List Int)) (x : Nat) : Nat := ((ts.take x).map fun t => (vertsT t).length).sum
theorem gotE_step {ts : List (List Int)} {x : Nat} (h : x < ts.length) : gotE ts (x + 1) = gotE ts x ++ edgesT ts[x] := by
  unfold gotE; rw [List.take_succ_eq_append_getElem h, List.flatMap_append]; simp
theorem manyV_step {ts : List (List Int)} {x : Nat} (h : x < ts.length) : manyV ts (x + 1) = manyV ts x + (vertsT ts[x]).length := by
  unfold manyV; rw [List.take_succ_eq_append_getElem h, List.map_append, List.sum_append]; rfl
theorem gotE_le (ts : List (List Int)) (x : Nat) : (gotE ts x).length ≤ (ts.flatMap edgesT).length := by
  unfold gotE
  have : ts.flatMap edgesT = (ts.take x).flatMap edgesT ++ (ts.drop x).flatMap edgesT := by rw [← List.flatMap_append, List.take_append_drop]
  rw [this, List.length_append]; omega
theorem many_sum : ∀ (ts : List (List Int)), (∀ t ∈ ts, isT t = true) → (ts.map fun t => (vertsT t).length).sum = (ts.flatMap edgesT).length + ts.length
  | [], _ => rfl
  | t :: ts, h => by
    have h1 := many_sum ts (fun x hx => h x (List.mem_cons_of_mem _ hx))
    have h2 := verts_len t (isT_ne (h t List.mem_cons_self))
    rw [List.map_cons, List.sum_cons, h1, h2, List.flatMap_cons, List.length_append, List.length_cons]; omega
theorem manyV_eq {ts : List (List Int)} (h : ∀ t ∈ ts, isT t = true) (x : Nat) : manyV ts x = (gotE ts x).length + (ts.take x).length :=
  many_sum _ (fun t ht => h t (List.mem_of_mem_take ht))
theorem wf_small {y : Int} (h : 0 ≤ y ∧ y ≤ 7) : (Lit.int .i64 y).wf = true := by
  have : y = 0 ∨ y = 1 ∨ y = 2 ∨ y = 3 ∨ y = 4 ∨ y = 5 ∨ y = 6 ∨ y = 7 := by omega
  rcases this with rfl | rfl | rfl | rfl | rfl | rfl | rfl | rfl <;> decide
theorem Frst.len {ts : List (List Int)} {es : List E3} (h : Frst ts es) {t : List Int} (ht : t ∈ ts) : t.length ≤ 15 ∧ (edgesT t).length ≤ 7 := by
  have h1 := tour_len (h.tour t ht)
  have h2 : (edgesT t).length ≤ (ts.flatMap edgesT).length := by
    obtain ⟨A, B, rfl⟩ := List.append_of_mem ht
    simp only [List.flatMap_append, List.flatMap_cons, List.length_append]; omega
  have h3 := h.edges.length_eq
  have h4 := h.many
  have h5 : 0 < ts.length := List.length_pos_of_mem ht
  omega
theorem Frst.wf {ts : List (List Int)} {es : List E3} (h : Frst ts es) {t : List Int} (ht : t ∈ ts) : ∀ x ∈ t, (Lit.int .i64 x).wf = true := fun x hx => wf_small (h.only t ht x hx)
end Go.Proofs.Ytbnkanhibjoleaa
