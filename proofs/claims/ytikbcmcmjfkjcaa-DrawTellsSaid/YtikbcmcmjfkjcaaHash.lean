/-
  Lists of hashes: how they lie in memory, and when two of them are equal.
-/
import Derived.Test.YtikbcmcmjfkjcaaProg
import Derived.Test.YtikbcmcmjfkjcaaMem
import Derived.BigQuiet
namespace Go.Proofs.Ytikbcmcmjfkjcaa
open Go Go.RowKit

theorem flat_len {α : Type} (f : α → List Value) {sz : Nat} (hf : ∀ x, (f x).length = sz) (l : List α) : (l.flatMap f).length = l.length * sz := by
  induction l with
  | nil => simp
  | cons x l ih => simp [ih, hf, Nat.add_mul, Nat.add_comm]
theorem flat_get {α : Type} (f : α → List Value) {sz : Nat} (hf : ∀ x, (f x).length = sz) (l : List α) (i j : Nat) (hi : i < l.length) (hj : j < sz) : (l.flatMap f)[i * sz + j]? = (f l[i])[j]? := by
  induction l generalizing i with
  | nil => simp at hi
  | cons x l ih =>
    cases i with
    | zero => simp [List.getElem?_append, hf, hj]
    | succ i =>
      have hi' : i < l.length := by simpa using hi
      simp only [List.flatMap_cons, List.getElem_cons_succ]
      rw [List.getElem?_append_right (by rw [hf, Nat.add_mul]; omega), hf, ← ih i hi']
      congr 1
      rw [Nat.add_mul]; omega

/-- A hash's cells. -/
def hcell (h : Int × Int) : List Value := [.int .u64 h.1, .int .u64 h.2]
def hcells (l : List (Int × Int)) : List Value := l.flatMap hcell
theorem hcell_len (x : Int × Int) : (hcell x).length = 2 := rfl
theorem hcells_len (l : List (Int × Int)) : (hcells l).length = l.length * 2 := flat_len hcell hcell_len l
theorem hcells_get0 (l : List (Int × Int)) (i : Nat) (hi : i < l.length) : (hcells l)[i * 2]? = some (.int .u64 l[i].1) := by
  have := flat_get hcell hcell_len l i 0 hi (by decide); simpa [hcell, hcells] using this
theorem hcells_get1 (l : List (Int × Int)) (i : Nat) (hi : i < l.length) : (hcells l)[i * 2 + 1]? = some (.int .u64 l[i].2) := by
  have := flat_get hcell hcell_len l i 1 hi (by decide); simpa [hcell, hcells] using this
theorem hcells_append (a b : List (Int × Int)) : hcells (a ++ b) = hcells a ++ hcells b := by simp [hcells]

/-- One hash more is written behind those that are. -/
theorem hcells_set {cs : Array Value} {dn : List (Int × Int)} {a b : Int} (hs : dn.length * 2 + 1 < cs.size) (h : ∀ x, x < dn.length * 2 → cs[x]? = (hcells dn)[x]?) :
    ∀ x, x < (dn.length + 1) * 2 → ((cs.setIfInBounds (dn.length * 2) (.int .u64 a)).setIfInBounds (dn.length * 2 + 1) (.int .u64 b))[x]? = (hcells (dn ++ [(a, b)]))[x]? := by
  intro x hx
  rw [hcells_append, Array.getElem?_setIfInBounds, Array.getElem?_setIfInBounds]
  rcases Nat.lt_trichotomy x (dn.length * 2) with h1 | h1 | h1
  · rw [if_neg (by omega), if_neg (by omega), h x h1, List.getElem?_append_left (by rw [hcells_len]; exact h1)]
  · subst h1
    rw [if_neg (by omega), if_pos rfl, if_pos (by omega), List.getElem?_append_right (by rw [hcells_len]; omega), hcells_len, Nat.sub_self]
    rfl
  · have e : x = dn.length * 2 + 1 := by omega
    subst e
    rw [if_pos rfl, if_pos (by simp; omega), List.getElem?_append_right (by rw [hcells_len]; omega), hcells_len, show dn.length * 2 + 1 - dn.length * 2 = 1 by omega]
    rfl

def hne (a b c d : Int) : Bool := !(a == c && b == d)
theorem hne_eq {x y : Int × Int} (h : x = y) : hne x.1 x.2 y.1 y.2 = false := by subst h; simp [hne]
theorem hne_ne {x y : Int × Int} (h : x ≠ y) : hne x.1 x.2 y.1 y.2 = true := by
  unfold hne
  simp only [Bool.not_eq_true', Bool.and_eq_false_iff, beq_eq_false_iff_ne]
  by_cases h1 : x.1 = y.1
  · exact .inr fun h2 => h (Prod.ext h1 h2)
  · exact .inl h1
theorem hash_neq (a b c d : Int) (w : World) : (binOp .neq 46 (.agg #[.int .u64 a, .int .u64 b]) (.agg #[.int .u64 c, .int .u64 d])).run Try.prog w = .ok (.bool (hne a b c d)) w := by
  unfold hne
  go_simp
  by_cases h1 : a = c <;> by_cases h2 : b = d <;> simp [h1, h2]
attribute [local go_sem] Heavy heavyUpon
attribute [local go_sem ↓] hash_neq

set_option maxHeartbeats 400000 in
theorem hsame_any (xs ys : List (Int × Int)) (M N : List Nat) (A B : Option Addr) (n c m d : Nat) (w : World) (ha : Sl w M 2 A n c (hcells xs)) (hb : Sl w N 2 B m d (hcells ys)) :
    Calls Try.prog 13 #[.slice A n c, .slice B m d] w fun e w' => e = .returned (.bool (decide (xs = ys))) ∧ Below w.heap.size w w' := by
  have hx : xs.length = n := by have := ha.len; rw [hcells_len] at this; omega
  have hy : ys.length = m := by have := hb.len; rw [hcells_len] at this; omega
  have hlA := ha.le
  have hcA := ha.cap
  unfold maxLen at hcA
  have HX := hide hx
  have HY := hide hy
  clear hx hy
  by_cases hnm : n = m
  · subst hnm
    go_enter Try.func13, Try.ntmps13
    go_wp2
    go_loopw [5] (fun i wr => ∃ k : Nat, k ≤ n ∧ i = .int .i64 k ∧ xs.take k = ys.take k ∧ Below w.heap.size w wr) (fun i _ => n - (intOf i).toNat)
    case atStart => exact ⟨0, Nat.zero_le _, rfl, by simp, Below.refl _ _⟩
    case round =>
      obtain ⟨k, hk, rfl, ht, hbel⟩ := hrel
      have HT := hide ht
      clear ht
      by_cases hlt : k < n
      · have ha1 := ha.below hbel
        have hb1 := hb.below hbel
        have hkx : k < xs.length := by have := HX.out; omega
        have hky : k < ys.length := by have := HY.out; omega
        obtain ⟨ad, rfl, had, _, hc⟩ := ha1.at_ (by omega)
        obtain ⟨bd, rfl, hbd, _, hc'⟩ := hb1.at_ (by omega)
        have c0 := hc _ _ (hcells_get0 xs k hkx)
        have c1 := cell_off (hc _ _ (hcells_get1 xs k hkx)) (by decide)
        have d0 := hc' _ _ (hcells_get0 ys k hky)
        have d1 := cell_off (hc' _ _ (hcells_get1 ys k hky)) (by decide)
        clear hc hc'
        have HE := hide (show xs.take (k + 1) = ys.take (k + 1) ↔ xs[k] = ys[k] by
          rw [List.take_succ_eq_append_getElem hkx, List.take_succ_eq_append_getElem hky, HT.out, List.append_cancel_left_eq, List.cons.injEq]; exact and_iff_left rfl)
        have HN := hide (show xs[k] ≠ ys[k] → xs ≠ ys from fun h e => h (by subst e; rfl))
        by_cases hxy : xs[k] = ys[k]
        · have hn := hne_eq hxy
          have HE1 := hide (HE.out.2 hxy)
          clear hxy HE HN
          generalize xs[k] = x at *
          generalize ys[k] = y at *
          go_wp2
          refine wp_region_lex [] (fun w' => ∀ p, w'.cell? p = wr.cell? p) (by kernel_rfl) (by kernel_rfl) (fun _ => rfl) ?_
          (repeat (refine wpLex_step (fun K hK => ?_); go_simp; apply Exists.intro; refine ⟨fun w' hw' => ?_, hK _ _ ?_⟩; (· (apply valEq; (· (go_simp; first | done | rfl)); (· ((try go_bits); rfl)))); clear hK K))
          refine wpLex_nil (fun hw => ?_)
          go_wp2
          go_roundw
          case rel => exact ⟨k + 1, by omega, by go_num, HE1.out, hbel.drew⟩
          case measure => simp [intOf]; omega
        · have hn := hne_ne hxy
          have HE1 := hide (HN.out hxy)
          clear hxy HE HN
          generalize xs[k] = x at *
          generalize ys[k] = y at *
          go_wp2
          refine wp_region_lex [] (fun w' => ∀ p, w'.cell? p = wr.cell? p) (by kernel_rfl) (by kernel_rfl) (fun _ => rfl) ?_
          (repeat (refine wpLex_step (fun K hK => ?_); go_simp; apply Exists.intro; refine ⟨fun w' hw' => ?_, hK _ _ ?_⟩; (· (apply valEq; (· (go_simp; first | done | rfl)); (· ((try go_bits); rfl)))); clear hK K))
          refine wpLex_nil (fun hw => ?_)
          go_wp2
          go_ret
          exact ⟨by simp [HE1.out], hbel.drew⟩
      · have hkn : k = n := by omega
        have HE := hide (show xs = ys by
          have h1 := HT.out
          rw [List.take_of_length_le (by have := HX.out; omega), List.take_of_length_le (by have := HY.out; omega)] at h1
          exact h1)
        clear hkn
        go_wp2
        go_ret
        exact ⟨by simp [HE.out], hbel⟩
  · have hq : ((n : Int) != (m : Int)) = true := by rw [bne_iff_ne]; omega
    have HE := hide (show xs ≠ ys from fun e => hnm (by rw [← HX.out, ← HY.out, e]))
    clear hnm
    go_enter Try.func13, Try.ntmps13
    go_wp2
    go_ret
    exact ⟨by simp [HE.out], Below.refl _ _⟩
end Go.Proofs.Ytikbcmcmjfkjcaa
