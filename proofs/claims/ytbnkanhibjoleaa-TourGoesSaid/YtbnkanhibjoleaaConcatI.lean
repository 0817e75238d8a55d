/-
  slices.Grow of nil, slices.Concat and slices.Clone of ints walked.
-/
import Derived.Test.YtbnkanhibjoleaaApp
import Derived.Test.YtbnkanhibjoleaaEdge
import Derived.Lib.AppendZerosOnto
import Derived.Lib.SliceRun
namespace Go.Proofs.Ytbnkanhibjoleaa
open Go Go.RowKit
attribute [local go_sem] Heavy heavyUpon

theorem zeros_sz (z : Array Value) (n : Nat) : (Builtin.zeroCells z n).size = n * z.size := by simp [Builtin.zeroCells]

theorem int_info : (Try.prog.info? 3).map (fun i => (i.zero, i.size, i.bytes)) = some (some (.int .i64 0), 1, 8) := by kernel_rfl

set_option maxHeartbeats 1600000 in
theorem growI_ok (n : Nat) (hn : n ≤ 100000) (w : World) :
    Calls Try.prog 32 #[.slice none 0 0, .int .i64 n] w fun e w' => ∃ A c, e = .returned (.slice A 0 c) ∧ w'.ownsRow w.heap.size 3 1 (.slice A 0 c) 0 [] ∧ Below w.heap.size w w' := by
  obtain ⟨ie, hie, hze, he1, he2⟩ := info_parts int_info
  by_cases h0 : n = 0
  · subst h0
    go_enter Try.func32, Try.ntmps32
    go_wp2_with (fail)
    go_ret
    exact ⟨none, 0, rfl, World.ownsRow_nil _ _ _ _, Below.refl _ _⟩
  · have hp : 0 < n := by omega
    clear h0
    have hrz : ∀ ty, (Builtin.append_ #[22, 3] ty #[.slice none 0 0, .int .i64 (n : Int)]).run Try.prog w =
        .ok (.slice (some ⟨w.heap.size, 0, none⟩) n (grownCap w n 0 3)) (w.drew.alloc (.cells (([] : List Value).toArray ++ Builtin.zeroCells (Value.int .i64 0).cells n ++ Builtin.zeroCells (Value.int .i64 0).cells (grownCap w n 0 3 - n)) 3)) := fun ty => by
      have h := Lib.run_append_grow_zeros (P := Try.prog) w 22 3 ty 3 ie _ .i64 .i64 Try.underlying22 Try.underlying3 hie hze none 0 0 []
        (run_firstCells_none w.drew ie.size 0 0 0) n hp (by omega) (by omega) (by omega) (by rw [he2]; omega)
        (by rw [he2, Nat.zero_add]; exact growslice_fits hp (by omega))
      simpa only [Nat.zero_add] using h
    have hG := grownCap_ge w n 0 3
    have hG63 := grownCap_le_maxLen w n 0 3 (by unfold maxLen; omega)
    generalize grownCap w n 0 3 = G at *
    have HOW : ((w.drew.alloc (.cells (([] : List Value).toArray ++ Builtin.zeroCells (Value.int .i64 0).cells n ++ Builtin.zeroCells (Value.int .i64 0).cells (G - n)) 3)).ownsRow w.heap.size 3 1 (.slice (some ⟨w.heap.size, 0, none⟩) 0 G) 0 []) := by
      have hc : (Value.int .i64 0).cells.size = 1 := rfl
      have := World.ownsRow_made (base := w.heap.size) (e := 3) (size := 1) w.drew (([] : List Value).toArray ++ Builtin.zeroCells (Value.int .i64 0).cells n ++ Builtin.zeroCells (Value.int .i64 0).cells (G - n)) G (Nat.le_refl _) hG63
        (by rw [Array.size_append, Array.size_append, zeros_sz, zeros_sz, hc]; simp; omega)
      exact this
    have HO := hide HOW
    have HB := hide ((Below.refl w.heap.size w).drew.alloc (Nat.le_refl _) (.cells (([] : List Value).toArray ++ Builtin.zeroCells (Value.int .i64 0).cells n ++ Builtin.zeroCells (Value.int .i64 0).cells (G - n)) 3))
    clear HOW hie hze he1 he2
    generalize (World.alloc w.drew (.cells (([] : List Value).toArray ++ Builtin.zeroCells (Value.int .i64 0).cells n ++ Builtin.zeroCells (Value.int .i64 0).cells (G - n)) 3)) = W at *
    unfold maxLen at hG63
    have HZ := hide hrz
    clear hrz
    go_enter Try.func32, Try.ntmps32
    go_wp2_with (at_builtin; refine Lib.wpList_append_run _ rfl _ _ _ _ rfl _ _ rfl rfl _ _ (HZ.out _) ?_)
    go_ret
    exact ⟨_, G, rfl, HO.out, HB.out⟩

/-- A slice that is a part: where it lies, its length and capacity, its cells. -/
abbrev Part : Type := Option Addr × Nat × Nat × List Value
def pcell (p : Part) : Value := .slice p.1 p.2.1 p.2.2.1
def ptot (ps : List Part) : Nat := (ps.map fun p => p.2.1).sum
def pcat (ps : List Part) : List Value := ps.flatMap fun p => p.2.2.2
theorem ptot_step (ps : List Part) {k : Nat} (h : k < ps.length) : ptot (ps.take (k + 1)) = ptot (ps.take k) + ps[k].2.1 := by
  unfold ptot
  rw [List.take_succ_eq_append_getElem h, List.map_append, List.sum_append]; simp
theorem pcat_step (ps : List Part) {k : Nat} (h : k < ps.length) : pcat (ps.take (k + 1)) = pcat (ps.take k) ++ ps[k].2.2.2 := by
  unfold pcat
  rw [List.take_succ_eq_append_getElem h, List.flatMap_append]; simp
theorem ptot_le (ps : List Part) (k : Nat) : ptot (ps.take k) ≤ ptot ps := by
  induction ps generalizing k with
  | nil => simp
  | cons p ps ih =>
    cases k with
    | zero => simp [ptot]
    | succ k => have := ih k; simp only [ptot, List.take_succ_cons, List.map_cons, List.sum_cons] at *; omega
def pcells (ps : List Part) : List Value := ps.map pcell

set_option maxHeartbeats 1600000 in
theorem concatI_ok (ps : List Part) (M : List Nat) (A : Option Addr) (m c : Nat) (w : World) (hS : Sl w M 1 A m c (pcells ps)) (hx : ∀ p ∈ ps, Sl w [] 1 p.1 p.2.1 p.2.2.1 p.2.2.2 ∧ ∀ u ∈ p.2.2.2, u.oneCell' = true) (hm : m ≤ 16) (ht : ptot ps ≤ 10000) :
    Calls Try.prog 20 #[.slice A m c] w fun e w' => ∃ R d, e = .returned (.slice R (ptot ps) d) ∧ Sl w' [] 1 R (ptot ps) d (pcat ps) ∧ Below w.heap.size w w' := by
  obtain ⟨ie, hie, hze, he1, he2⟩ := info_parts int_info
  have HL := hide (show ps.length = m by have := hS.len; simpa [pcells] using this)
  have HX := hide hx
  have HT := hide (fun k => ptot_le ps k)
  clear hx
  go_enter Try.func20, Try.ntmps20
  go_wp2_with (fail)
  go_loop [3, 11] (fun s i => ∃ k : Nat, k ≤ m ∧ i = .int .i64 k ∧ s = .int .i64 (ptot (ps.take k) : Nat)) (fun _ i => m - (intOf i).toNat)
  case atStart => exact ⟨0, Nat.zero_le _, rfl, rfl⟩
  case round =>
    obtain ⟨k, hk, rfl, rfl⟩ := hrel
    have htk := HT.out k
    by_cases hlt : k < m
    · obtain ⟨ad, rfl, had, _, hc⟩ := hS.at_ (by omega)
      have hp : k < ps.length := by have := HL.out; omega
      have c0 := hc k (pcell ps[k]) (by simp [pcells, hp])
      have HST := hide (ptot_step ps hp)
      have htk2 := HT.out (k + 1)
      rw [HST.out] at htk2
      clear hc
      generalize ps[k] = p at *
      obtain ⟨pa, pn, pc, px⟩ := p
      simp only [pcell] at c0 htk2 HST
      generalize ptot (ps.take k) = tk at *
      go_wp2_with (fail)
      exact ⟨⟨k + 1, by omega, by go_num, by rw [HST.out]; go_num⟩, by simp [intOf]; omega⟩
    · have HF := hide (show ps.take k = ps from List.take_of_length_le (by have := HL.out; omega))
      rw [HF.out]
      clear htk
      generalize hq : ptot ps = tt at *
      have HQ := hide hq
      clear hq
      go_wp2_with (fail)
      refine (growI_ok tt (by omega) w).mono ?_
      rintro e w1 ⟨A1, c1, rfl, own1, b1⟩
      go_wp2_with (fail)
      go_loopw [6, 27] (fun a i wr => ∃ (k : Nat) (Ao : Option Addr) (co : Nat), k ≤ m ∧ i = .int .i64 k ∧ a = .slice Ao (ptot (ps.take k)) co ∧ Below w.heap.size w wr ∧
        wr.ownsRow w.heap.size 3 1 (.slice Ao (ptot (ps.take k)) co) (ptot (ps.take k)) (pcat (ps.take k))) (fun _ i _ => m - (intOf i).toNat)
      case atStart => exact ⟨0, A1, c1, Nat.zero_le _, rfl, rfl, b1, own1⟩
      case round =>
        obtain ⟨k, Ao, co, hk, rfl, rfl, hbr, hown⟩ := hrel
        have hSr := hS.below hbr
        by_cases hlt : k < m
        · obtain ⟨ad, rfl, had, _, hc⟩ := hSr.at_ (by omega)
          have hp : k < ps.length := by have := HL.out; omega
          have c0 := hc k (pcell ps[k]) (by simp [pcells, hp])
          have HST := hide (ptot_step ps hp)
          have HCT := hide (pcat_step ps hp)
          have htk2 := HT.out (k + 1)
          rw [HST.out] at htk2
          have HP := hide (HX.out _ (List.getElem_mem hp))
          clear hc
          generalize ps[k] = p at *
          obtain ⟨pa, pn, pc, px⟩ := p
          simp only [pcell] at c0 htk2 HST HP HCT
          have HOW := hide hown
          clear hown
          generalize hv : ptot (ps.take k) = tk at *
          clear hv
          generalize Value.slice Ao tk co = RV at *
          (go_wp2_with (at_builtin; refine stopAt ?_); refine stopGo ?_)
          refine wpList_append_sl _ rfl (.tmp 31) (.tmp 32) _ rfl w.heap.size 3 ie _ 1 8 Try.underlying22 hie hze he1 he2 rfl (by omega) RV _ _ rfl HOW.out [] _ pn pc px rfl (HP.out.1.below hbr) HP.out.2 (by simp only [maxLen]; omega) (by omega) (by have := hbr.size; omega) ?_
          intro A5 c5 w5 own5 g5 _
          rw [← HCT.out, ← HST.out] at own5
          rw [← HST.out]
          have hg5 := below_grown HOW.out g5 (Nat.le_refl _) hbr.size
          have hb5 := hbr.trans hg5
          have OW5 := hide own5
          clear own5 g5 hg5
          go_wp2_with (fail)
          exact ⟨⟨k + 1, A5, c5, by omega, by go_num, rfl, hb5, OW5.out⟩, by simp [intOf]; omega⟩
        · have HF := hide (show ps.take k = ps from List.take_of_length_le (by have := HL.out; omega))
          rw [HF.out, HQ.out] at hown
          rw [HF.out, HQ.out]
          go_wp2_with (fail)
          go_ret
          refine ⟨Ao, co, ?_, ?_, hbr⟩
          · rw [HQ.out]; rfl
          · rw [HQ.out]; exact own_sl hown [] (by simp)

set_option maxHeartbeats 800000 in
theorem cloneI_ok (l : List Value) (M : List Nat) (A : Option Addr) (m c : Nat) (w : World) (hS : Sl w M 1 A m c l) (h1 : ∀ u ∈ l, u.oneCell' = true) (hm : m ≤ 10000) :
    Calls Try.prog 28 #[.slice A m c] w fun e w' => ∃ R d, e = .returned (.slice R m d) ∧ w'.ownsRow w.heap.size 3 1 (.slice R m d) m l ∧ Below w.heap.size w w' := by
  obtain ⟨ie, hie, hze, he1, he2⟩ := info_parts int_info
  have q22 : ∀ (w : World) (a : Option Addr) (n c n' c' : Nat), (binOp .eql 22 (.slice a n c) (.slice none n' c')).run Try.prog w = .ok (.bool a.isNone) w := fun w a n c n' c' => Lib.run_eql_slice_nil w _ _ a n c n' c' Try.underlying22
  cases A with
  | none =>
    obtain rfl : m = 0 := by
      rcases Nat.eq_zero_or_pos m with h0 | h0
      · exact h0
      · obtain ⟨ad, h, _⟩ := hS.at_ h0
        cases h
    obtain rfl : l = [] := List.eq_nil_of_length_eq_zero (by simpa using hS.len)
    go_enter Try.func28, Try.ntmps28
    go_wp2_with (fail)
    go_ret
    exact ⟨none, 0, rfl, World.ownsRow_nil _ _ _ _, Below.refl _ _⟩
  | some ad =>
    have O2 := own_empty w 3 1
    have S2 := hS.alloc (.cells #[] 3)
    have HO := hide O2
    have hb2 := (Below.refl w.heap.size w).alloc (Nat.le_refl _) (.cells #[] 3)
    clear O2
    go_enter Try.func28, Try.ntmps28
    (go_wp2_with (at_builtin; refine stopAt ?_); refine stopGo ?_)
    refine wpList_append_sl _ rfl (.tmp 5) (.tmp 6) _ rfl w.heap.size 3 ie _ 1 8 Try.underlying22 hie hze he1 he2 rfl (by omega) _ _ _ rfl HO.out M _ m c l rfl S2 h1 (by simp only [maxLen]; omega) (by omega) (by simp) ?_
    intro A5 c5 w5 own5 g5 _
    have hg5 := below_grown HO.out g5 (Nat.le_refl _) hb2.size
    have hb5 := hb2.trans hg5
    simp only [Nat.zero_add, List.nil_append] at own5 ⊢
    have OW5 := hide own5
    clear own5 g5 hg5
    go_wp2_with (fail)
    go_ret
    exact ⟨A5, c5, rfl, OW5.out, hb5⟩
end Go.Proofs.Ytbnkanhibjoleaa
