/-
  A map from ints to ints as the set of what was seen.
-/
import Derived.Test.YtbnkanhibjoleaaApp
import Derived.Test.YtbnkanhibjoleaaProg
import Derived.Maps.OwnOps
import Derived.Maps.Views
namespace Go.Proofs.Ytbnkanhibjoleaa
open Go Go.RowKit Go.Maps

theorem int_law : Keyed Try.prog 3 := int_keyed Try.underlying3
theorem int_zero (w : World) : (zeroValue 3).run Try.prog w = .ok (.int .i64 0) w := by kernel_rfl
/-- Block b is a map that gives 1 for what is in S, 0 for all else. -/
def Seen (w : World) (b n : Nat) (S : List Int) : Prop :=
  ∃ D : DataW Unit, IsMap D ∧ w.ownsMap Try.prog 3 (plainElem Try.prog 3) b n D ∧ ∀ x : Int, D.atKey (.int .i64 x) (.lit (.int .i64 0)) = .lit (.int .i64 (if x ∈ S then 1 else 0))
theorem Seen.made (w : World) : Seen (w.alloc (.map #[] 0)) w.heap.size 0 [] :=
  ⟨.map [], isMap_empty, World.ownsMap_made _ _ _ _, fun _ => rfl⟩
theorem Seen.keep {w w' : World} {b n : Nat} {S : List Int} (h : Seen w b n S) (hk : w'.heap[b]? = w.heap[b]?) : Seen w' b n S := by
  obtain ⟨D, h1, ⟨es, clock, h2, h3⟩, h4⟩ := h
  exact ⟨D, h1, ⟨es, clock, hk.trans h2, h3⟩, h4⟩
theorem Seen.lt {w : World} {b n : Nat} {S : List Int} (h : Seen w b n S) : b < w.heap.size := by
  obtain ⟨D, h1, ⟨es, clock, h2, h3⟩, h4⟩ := h
  rcases Nat.lt_or_ge b w.heap.size with h | h
  · exact h
  · rw [Array.getElem?_eq_none h] at h2; cases h2
theorem Seen.alloc {w : World} {b n : Nat} {S : List Int} (h : Seen w b n S) (o : Obj) : Seen (w.alloc o) b n S := h.keep (Below.heap_alloc w o b h.lt)
theorem Seen.drew {w : World} {b n : Nat} {S : List Int} (h : Seen w b n S) : Seen w.drew b n S := h.keep rfl
theorem Seen.below {w w' : World} {B b n : Nat} {S : List Int} (h : Seen w b n S) (hb : Below B w w') (hB : b < B) : Seen w' b n S := h.keep (hb.block b hB)
theorem Seen.grown {w w' : World} {b n : Nat} {S : List Int} {row : Option Nat} (h : Seen w b n S) (hg : w.grownBy w' row) (hr : some b ≠ row) : Seen w' b n S := h.keep (hg.block b h.lt hr)
theorem Seen.congr {w : World} {b n : Nat} {S S' : List Int} (h : Seen w b n S) (hs : ∀ x, x ∈ S ↔ x ∈ S') : Seen w b n S' := by
  obtain ⟨D, h1, h2, h3⟩ := h
  refine ⟨D, h1, h2, fun x => ?_⟩
  rw [h3 x]
  by_cases hx : x ∈ S
  · rw [if_pos hx, if_pos ((hs x).1 hx)]
  · rw [if_neg hx, if_neg (fun h => hx ((hs x).2 h))]
section
variable {w : World} {ops : Array Oper} {rest : List Oper} {o : Oper} {a : Act} {Q : Exit → Act → World → Prop}
theorem wpList_seen_look (hg : o.guard = none) (m x : Operand) (hop : o.op = Op.lookup 48 m x false) (b n : Nat) (S : List Int) (hm : a.eval m = .map (some b)) (hs : Seen w b n S) (v : Int) (hx : a.eval x = .int .i64 v) (hw : (Lit.int .i64 v).wf = true)
    (hK : wpList Try.prog ops Q rest (a.put o.dst (.int .i64 (if v ∈ S then 1 else 0))) w) : wpList Try.prog ops Q (o :: rest) a w := by
  obtain ⟨D, h1, h2, h3⟩ := hs
  refine wpList_lookup_own_int w hg m x 48 hop 3 3 .i64 int_law Try.underlying48 Try.underlying3 (int_zero w) b n D hm h2 _ _ hx (keyOf_int_mk Try.underlying3 hw) ?_
  intro c hat _
  have e := h3 v
  rw [hat] at e
  injection e with e
  injection e with _ e
  rw [e]; exact hK
theorem seen_put {w' : World} {b n : Nat} {S : List Int} {v : Int} {D : DataW Unit} (h1 : IsMap D) (h3 : ∀ x : Int, D.atKey (.int .i64 x) (.lit (.int .i64 0)) = .lit (.int .i64 (if x ∈ S then 1 else 0)))
    (h : w'.ownsMap Try.prog 3 (plainElem Try.prog 3) b (n + 1) (D.put (.int .i64 v) (.lit (.int .i64 1)))) : Seen w' b (n + 1) (v :: S) := by
  refine ⟨_, h1.put _ _, h, fun x => ?_⟩
  by_cases hx : x = v
  · subst hx
    rw [atKey_put_same h1 (by simp [WideAt.IsKeyLit]), if_pos List.mem_cons_self]
  · rw [atKey_put_other (by intro e; injection e with _ e; exact hx e), h3 x]
    by_cases hS : x ∈ S
    · rw [if_pos hS, if_pos (List.mem_cons_of_mem _ hS)]
    · rw [if_neg hS, if_neg (by simp [hx, hS])]
theorem wpList_seen_put (hg : o.guard = none) (m x y : Operand) (hop : o.op = Op.mapUpdate 48 m x y) (b n : Nat) (S : List Int) (hm : a.eval m = .map (some b)) (hs : Seen w b n S) (hn : n < maxLen) (v : Int) (hx : a.eval x = .int .i64 v) (hy : a.eval y = .int .i64 1) (hw : (Lit.int .i64 v).wf = true)
    (hK : ∀ w', Seen w' b (n + 1) (v :: S) → w.grownBy w' (some b) → wpList Try.prog ops Q rest (a.put o.dst undef) w') : wpList Try.prog ops Q (o :: rest) a w := by
  obtain ⟨D, h1, h2, h3⟩ := hs
  refine wpList_mapUpdate_own w hg m x y 48 hop 3 3 int_law Try.underlying48 _ b n D hm h2 hn _ _ _ hx hy (keyOf_int_mk Try.underlying3 hw) _ [] (plainElem_int Try.underlying3 (by decide)) ?_
  intro w' hown hgr
  exact hK w' (seen_put h1 h3 hown) hgr
theorem wpList_seen_insert (hg : o.guard = none) (m x y : Operand) (hop : o.op = Op.insert 48 m x y) (b n : Nat) (S : List Int) (hm : a.eval m = .map (some b)) (hs : Seen w b n S) (hn : n < maxLen) (v : Int) (hx : a.eval x = .int .i64 v) (hy : a.eval y = .int .i64 1) (hw : (Lit.int .i64 v).wf = true)
    (hK : ∀ w', Seen w' b (n + 1) (v :: S) → w.grownBy w' (some b) → wpList Try.prog ops Q rest (a.put o.dst undef) w') : wpList Try.prog ops Q (o :: rest) a w := by
  obtain ⟨D, h1, h2, h3⟩ := hs
  refine wpList_plain hg fun K' hK' => ?_
  obtain ⟨w', hrun, r1, r2⟩ := h2.update int_law Try.underlying48 hn (keyOf_int_mk Try.underlying3 hw) (plainElem_int (H := Unit) (q := .i64) (a := 1) Try.underlying3 (by decide))
  unfold Oper.wp
  simp [execOp, hop, hm, hx, hy, hrun, Result.andThen]
  exact hK' _ _ (hK w' (seen_put h1 h3 r1) r2)
end
/-- Where the walk is to stand still. -/
theorem stopInsert {P : Program} {ops : Array Oper} {rest : List Oper} {a : Act} {w : World} {Q : Exit → Act → World → Prop} {d : Option Tmp} {ty t : TypeId} {m k v : Operand} {p : String} {af : Array Edge} (h : Stop (wpList P ops Q (⟨d, .insert ty m k v, t, p, af, none⟩ :: rest) a w)) :
    wpList P ops Q (⟨d, .insert ty m k v, t, p, af, none⟩ :: rest) a w := h
theorem stopLook {P : Program} {ops : Array Oper} {rest : List Oper} {a : Act} {w : World} {Q : Exit → Act → World → Prop} {d : Option Tmp} {ty t : TypeId} {m k : Operand} {b : Bool} {p : String} {af : Array Edge} (h : Stop (wpList P ops Q (⟨d, .lookup ty m k b, t, p, af, none⟩ :: rest) a w)) :
    wpList P ops Q (⟨d, .lookup ty m k b, t, p, af, none⟩ :: rest) a w := h
theorem stopPut {P : Program} {ops : Array Oper} {rest : List Oper} {a : Act} {w : World} {Q : Exit → Act → World → Prop} {d : Option Tmp} {ty t : TypeId} {m k v : Operand} {p : String} {af : Array Edge} (h : Stop (wpList P ops Q (⟨d, .mapUpdate ty m k v, t, p, af, none⟩ :: rest) a w)) :
    wpList P ops Q (⟨d, .mapUpdate ty m k v, t, p, af, none⟩ :: rest) a w := h
end Go.Proofs.Ytbnkanhibjoleaa
