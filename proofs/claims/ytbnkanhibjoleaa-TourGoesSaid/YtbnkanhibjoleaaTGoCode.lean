/-
  TourGoes: the statements of its loop, taken out of the text.
-/
import Derived.Test.YtbnkanhibjoleaaTGo2
import Derived.Test.YtbnkanhibjoleaaTOff
namespace Go.Proofs.Ytbnkanhibjoleaa
open Go Go.RowKit

def cL : Code → Code
  | .seq a _ => a
  | _ => .skip
def cR : Code → Code
  | .seq _ b => b
  | _ => .skip
def cB : Code → Code
  | .block _ c => c
  | .loop c => c
  | _ => .skip
/-- Of the function's statements: a round's own; the switch, and what is asked behind it. -/
def roundOf (b : Option Code) : Code := cB (cL (cR (cR (cB (cB (cR (cL (cR (cR (cR (cR (cR (b.getD .skip)))))))))))))
def midOf (b : Option Code) : Code := cR (cR (cR (cR (cR (cR (cR (roundOf b)))))))
def switchOf (b : Option Code) : Code := cL (midOf b)
def tailOf (b : Option Code) : Code := cR (midOf b)
theorem tsl_size (w : World) : (sizeOf (Try.prog.elem 32)).run Try.prog w = .ok 1 w := by kernel_rfl
theorem tsl_hi (A : Option Addr) (n c : Nat) (i : Int) (h0 : 0 ≤ i) (h1 : i ≤ c) (w : World) :
    (Instr.slice 32 (.slice A n c) none (some (.int .i64 i)) none).run Try.prog w = .ok (.slice A i.toNat c) w := by
  rw [run_slice_h (P := Try.prog) (t := 32) (a := A) (len := n) (cap := c) w Try.underlying32 .i64 i h0 h1, tsl_size]
  simp [Result.andThen, sliced, map_zero_]
theorem come_self {t : List Int} {u : Int} (h : u ∈ t) : comeI t t = true := by
  unfold comeI
  rw [List.any_eq_true]
  exact ⟨u, h, by simpa using h⟩
theorem outL_same {t : List Int} {u v : Int} (h : isT t = true) (hu : u ∈ t) (hv : v ∈ t) : outL t t u v = ([], 4) := by
  unfold outL
  rw [h, decide_eq_true hu, decide_eq_true hv, come_self hu]
  rfl
theorem outL_two {a b : List Int} {u v : Int} (ha : isT a = true) (hb : isT b = true) (hu : u ∈ a) (hv : v ∈ b) (hd : ∀ x ∈ a, x ∉ b) : outL a b u v = (fromT a u ++ fromT b v ++ [u], 0) := by
  have hc : comeI a b = false := by
    unfold comeI
    rw [List.any_eq_false]
    intro x hx h
    exact hd x (by simpa using h) hx
  unfold outL
  rw [ha, hb, decide_eq_true hu, decide_eq_true hv, hc]
  rfl
theorem Frst.two {ts : List (List Int)} {es : List E3} (h : Frst ts es) {i j : Nat} (hi : i < ts.length) (hj : j < ts.length) (hne : i ≠ j) : ∀ x ∈ ts[i], x ∉ ts[j] := by
  rcases Nat.lt_or_gt_of_ne hne with hlt | hlt
  · exact (List.pairwise_iff_getElem.1 h.apart) i j hi hj hlt
  · intro x hx hy
    exact (List.pairwise_iff_getElem.1 h.apart) j i hj hi hlt x hy hx
theorem linkL_a {ts : List (List Int)} {i j : Nat} {t z : List Int} (h : j = ts.length - 1 ∨ i = ts.length - 1) : (((ts.set i t).set j z).set (min i j) t).take (ts.length - 1) = linkL ts i j t z := by unfold linkL; rw [if_pos h]
theorem linkL_b {ts : List (List Int)} {i j : Nat} {t z : List Int} (h : ¬ (j = ts.length - 1 ∨ i = ts.length - 1)) : ((ts.set i t).set j z).take (ts.length - 1) = linkL ts i j t z := by unfold linkL; rw [if_neg h]
theorem linkL_len {ts : List (List Int)} {i j : Nat} {t z : List Int} : (linkL ts i j t z).length = ts.length - 1 := by
  unfold linkL
  split <;> simp
theorem Frst.linkL {ts : List (List Int)} {es : List E3} (h : Frst ts es) {i j : Nat} (hi : i < ts.length) (hj : j < ts.length) (hne : i ≠ j) {u v : Int} (hu : u ∈ ts[i]) (hv : v ∈ ts[j]) :
    Frst (linkL ts i j (fromT ts[i] u ++ fromT ts[j] v ++ [u]) (ts[ts.length - 1]'(by omega))) (es ++ [mkE u v]) := by
  obtain ⟨R, p1, p2⟩ := linkL_perm hi hj hne (fromT ts[i] u ++ fromT ts[j] v ++ [u])
  exact ((h.perm p1.symm).link hu hv).perm p2
theorem own_weak {w : World} {b b' : Nat} {e : TypeId} {size : Nat} {v : Value} {n : Nat} {xs : List Value} (h : w.ownsRow b e size v n xs) (hb : b' ≤ b) : w.ownsRow b' e size v n xs := by
  obtain ⟨h1, h2⟩ := h
  refine ⟨h1, ?_⟩
  rcases h2 with h2 | ⟨g, cap, cur, q1, q2, q3⟩
  · exact .inl h2
  · exact .inr ⟨g, cap, cur, q1, Nat.le_trans hb q2, q3⟩
end Go.Proofs.Ytbnkanhibjoleaa
