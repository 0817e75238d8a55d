/-
  raftsmanlaw08.at walked; the rows of steps.
-/
import Derived.Test.YtbnkanhibjoleaaTMem
import Derived.Test.YtbnkanhibjoleaaTRefW
namespace Go.Proofs.Ytbnkanhibjoleaa
open Go Go.RowKit
attribute [local go_sem] Heavy heavyUpon

/-- The first tree with a vertex, counted from k; -1: there is none. -/
def findT : List (List Int) → Int → Int → Int
  | [], _, _ => -1
  | t :: ts, u, k => if u ∈ t then k else findT ts u (k + 1)
theorem findT_step (l : List (List Int)) (u : Int) {k : Nat} (h : k < l.length) : findT (l.drop k) u k = if u ∈ l[k] then (k : Int) else findT (l.drop (k + 1)) u ((k + 1 : Nat) : Int) := by
  rw [List.drop_eq_getElem_cons h, findT]; rfl
theorem findT_spec {u : Int} : ∀ {ts : List (List Int)} {k : Int}, (∃ t ∈ ts, u ∈ t) → ∃ (i : Nat) (hi : i < ts.length), findT ts u k = k + i ∧ u ∈ ts[i]
  | [], _, h => by obtain ⟨t, ht, _⟩ := h; cases ht
  | t :: ts, k, h => by
    unfold findT
    by_cases hu : u ∈ t
    · rw [if_pos hu]; exact ⟨0, by simp, by simp, hu⟩
    · rw [if_neg hu]
      obtain ⟨t', ht', hu'⟩ := h
      rcases List.mem_cons.1 ht' with rfl | ht'
      · exact absurd hu' hu
      · obtain ⟨i, hi, e, h2⟩ := findT_spec (u := u) (ts := ts) (k := k + 1) ⟨t', ht', hu'⟩
        exact ⟨i + 1, by simpa using hi, by rw [e]; omega, by simpa using h2⟩

set_option maxHeartbeats 1600000 in
theorem at_any (base g c n : Nat) (ps : List P3) (ts : List (List Int)) (V : Value) (es : List E3) (u : Int) (w : World) (h : TMem w base g c ps ts V es) (hn : ts.length = n) :
    Calls Try.prog 12 #[.slice (some ⟨g, 0, none⟩) n c, .int .i64 u] w (Ret (.int .i64 (findT ts u 0)) w) := by
  have HN := hide hn
  have hcap : n ≤ maxLen := by have := h.capB; omega
  unfold maxLen at hcap
  go_enter Try.func12, Try.ntmps12
  go_wp2_with (fail)
  go_loopw [9] (fun i wr => ∃ k : Nat, k ≤ n ∧ i = .int .i64 k ∧ Below w.heap.size w wr ∧ Hid (findT (ts.drop k) u k = findT ts u 0)) (fun i _ => n - (intOf i).toNat)
  case atStart => exact ⟨0, Nat.zero_le _, rfl, Below.refl _ _, hide rfl⟩
  case round =>
    obtain ⟨k, hk, rfl, hbr, HR⟩ := hrel
    have hr := h.below hbr
    by_cases hlt : k < n
    · have hx : k < ts.length := by have := HN.out; omega
      obtain ⟨B, d, c0, _, hS⟩ := hr.get hx
      have HS := hide ((findT_step ts u hx).symm.trans HR.out)
      have hq := hide (first_any ts[k] u _ B ts[k].length d wr hS)
      have HM : Hid ((0 ≤ firstI ts[k] u 0) = (u ∈ ts[k])) := propext (firstI_mem ts[k] u 0 (Int.le_refl _))
      generalize hf : firstI ts[k] u 0 = f at *
      generalize ts[k] = t at *
      clear hS hf
      by_cases hut : 0 ≤ f
      · have HF := hide (show (k : Int) = findT ts u 0 by rw [← HS.out, if_pos (by rw [← HM.out]; exact hut)])
        go_wp2_with (fail)
        refine hq.out.mono ?_
        rintro e w1 ⟨rfl, b1⟩
        have hb1 := hbr.trans (b1.mono hbr.size)
        go_wp2_with (fail)
        go_ret
        exact ⟨congrArg (fun x => Ending.returned (.int .i64 x)) HF.out, hb1⟩
      · have HF := hide (show findT (ts.drop (k + 1)) u ((k + 1 : Nat) : Int) = findT ts u 0 by rw [← HS.out, if_neg (by rw [← HM.out]; exact hut)])
        have hut2 : f < 0 := by omega
        clear hut
        go_wp2_with (fail)
        refine hq.out.mono ?_
        rintro e w1 ⟨rfl, b1⟩
        have hb1 := hbr.trans (b1.mono hbr.size)
        go_wp2_with (fail)
        exact ⟨⟨k + 1, by omega, by go_num, hb1, HF⟩, by simp [intOf]; omega⟩
    · have HF := hide (show (-1 : Int) = findT ts u 0 by
        rw [← HR.out, List.drop_eq_nil_of_le (by have := HN.out; omega)]; rfl)
      go_wp2_with (fail)
      go_ret
      exact ⟨congrArg (fun x => Ending.returned (.int .i64 x)) HF.out, hbr⟩

/-- A step: is it a cut, is it a root, its two vertices. -/
abbrev Stp : Type := Bool × Bool × Int × Int
def scell (e : Stp) : List Value := [.bool e.1, .bool e.2.1, .int .i64 e.2.2.1, .int .i64 e.2.2.2]
def scells (l : List Stp) : List Value := l.flatMap scell
theorem scell_len (x : Stp) : (scell x).length = 4 := rfl
theorem scells_len (l : List Stp) : (scells l).length = l.length * 4 := flat_len scell scell_len l
theorem scells_get0 (l : List Stp) (i : Nat) (hi : i < l.length) : (scells l)[i * 4]? = some (.bool l[i].1) := by
  have := flat_get scell scell_len l i 0 hi (by decide); simpa [scell, scells] using this
theorem scells_get1 (l : List Stp) (i : Nat) (hi : i < l.length) : (scells l)[i * 4 + 1]? = some (.bool l[i].2.1) := by
  have := flat_get scell scell_len l i 1 hi (by decide); simpa [scell, scells] using this
theorem scells_get2 (l : List Stp) (i : Nat) (hi : i < l.length) : (scells l)[i * 4 + 2]? = some (.int .i64 l[i].2.2.1) := by
  have := flat_get scell scell_len l i 2 hi (by decide); simpa [scell, scells] using this
theorem scells_get3 (l : List Stp) (i : Nat) (hi : i < l.length) : (scells l)[i * 4 + 3]? = some (.int .i64 l[i].2.2.2) := by
  have := flat_get scell scell_len l i 3 hi (by decide); simpa [scell, scells] using this
def SSl (w : World) (A : Option Addr) (n c : Nat) (l : List Stp) : Prop := Sl w [] 4 A n c (scells l)
theorem SSl.length {w : World} {A : Option Addr} {n c : Nat} {l : List Stp} (h : SSl w A n c l) : l.length = n := by
  have := h.len; rw [scells_len] at this; omega
theorem SSl.get {w : World} {A : Option Addr} {n c : Nat} {l : List Stp} (h : SSl w A n c l) {k : Nat} (hk : k < l.length) :
    ∃ ad, A = some ad ∧ ad.block < w.heap.size ∧ w.cell? (ad.add (k * 4)) = some (.bool l[k].1) ∧
      w.cell? ⟨(ad.add (k * 4)).block, (ad.add (k * 4)).off + 1, none⟩ = some (.bool l[k].2.1) ∧
      w.cell? ⟨(ad.add (k * 4)).block, (ad.add (k * 4)).off + 2, none⟩ = some (.int .i64 l[k].2.2.1) ∧
      w.cell? ⟨(ad.add (k * 4)).block, (ad.add (k * 4)).off + 3, none⟩ = some (.int .i64 l[k].2.2.2) := by
  have hl := h.length
  obtain ⟨ad, e, hb, hm, hc⟩ := h.at_ (by omega)
  exact ⟨ad, e, hb, hc _ _ (scells_get0 l k hk), cell_off (hc _ _ (scells_get1 l k hk)) (by decide), cell_off (hc _ _ (scells_get2 l k hk)) (by decide), cell_off (hc _ _ (scells_get3 l k hk)) (by decide)⟩
end Go.Proofs.Ytbnkanhibjoleaa
