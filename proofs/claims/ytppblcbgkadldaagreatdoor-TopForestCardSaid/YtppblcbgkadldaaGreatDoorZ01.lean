/-
  A part of the proof that the law TopForest returns true for every input and leaves its arguments as they were: DrawPQ.
-/
import Derived.WalkKit
set_option linter.all false
namespace Go.Proofs.YtppblcbgkadldaaGreatDoor
open Go
set_option maxRecDepth 100000
def low (x:Int):Int:=bits .and .u64 x 2305843009213693951
theorem low_eq (x:Int):bits .and .u64 x 2305843009213693951=low x:=rfl
theorem low_mod {x:Int} (h0:0 ≤ x) (h1:x < 18446744073709551616):low x=x % 2305843009213693952:=by
  obtain ⟨n,rfl⟩:=Int.eq_ofNat_of_zero_le h0
  have hn:n < 18446744073709551616:=by omega
  have h:low (n:Int)=((n &&& 2305843009213693951:Nat):Int):=by
    unfold low
    exact u64_and_nat n 2305843009213693951 hn (by decide)
  rw [h,show (2305843009213693951:Nat)=2 ^ 61 - 1 from rfl,Nat.and_two_pow_sub_one_eq_mod]
  omega
def isLow (x:Int):Bool:=decide (low x < 2305843009213693951)
theorem isLow_lt {x:Int} (h:isLow x=true):low x < 2305843009213693951:=of_decide_eq_true h
theorem isLow_not {x:Int} (h:isLow x=false):¬ low x < 2305843009213693951:=of_decide_eq_false h
theorem low_bounds {x:Int} (h0:0 ≤ x) (h1:x < 18446744073709551616):0 ≤ low x ∧ low x < 2305843009213693952:=by
  rw [low_mod h0 h1]
  omega
def scan:List Int → Nat → Option (Int × Nat)
  | [],_=>none
  | x :: l,k=>if isLow x then some (low x,k + 1) else scan l (k + 1)
theorem scan_yes {x:Int} (h:isLow x=true) (l:List Int) (k:Nat):scan (x :: l) k=some (low x,k + 1):=by rw [scan,if_pos h]
theorem scan_no {x:Int} (h:isLow x=false) (l:List Int) (k:Nat):scan (x :: l) k=scan l (k + 1):=by rw [scan,if_neg (by rw [h];decide)]
def drawB (xs:List Int) (at_:Nat):Int × Int × Int:=
  match scan (xs.drop at_) at_ with
  | some (v,k)=>(v,k,0)
  | none=>(0,at_,5)
theorem drawB_some {xs:List Int} {at_ k:Nat} {v:Int} (h:scan (xs.drop at_) at_=some (v,k)):drawB xs at_=(v,(k:Int),0):=by unfold drawB;rw [h]
theorem drawB_none {xs:List Int} {at_:Nat} (h:scan (xs.drop at_) at_=none):drawB xs at_=(0,(at_:Int),5):=by unfold drawB;rw [h]
def drawH (xs:List Int):Nat → Nat → Option (List (Int × Int) × Nat)
  | 0,k=>some ([],k)
  | m + 1,k=>match scan (xs.drop k) k with
    | none=>none
    | some (a,k1)=>match scan (xs.drop k1) k1 with
      | none=>none
      | some (b,k2)=>match drawH xs m k2 with
        | none=>none
        | some (l,k3)=>some ((a,b) :: l,k3)
theorem scan_le:∀ {l:List Int} {k:Nat} {v:Int} {k':Nat},scan l k=some (v,k') → k < k' ∧ k' ≤ k + l.length:=by
  intro l
  induction l with
  | nil=>intro k v k' h;simp [scan] at h
  | cons x l ih =>
    intro k v k' h
    cases hx:isLow x
    · rw [scan_no hx] at h
      have:=ih h
      simp only [List.length_cons]
      omega
    · rw [scan_yes hx] at h
      injection h with h
      injection h with h1 h2
      simp only [List.length_cons]
      omega
theorem scan_lt:∀ {l:List Int} {k:Nat} {v:Int} {k':Nat},scan l k=some (v,k') → v < 2305843009213693951:=by
  intro l
  induction l with
  | nil=>intro k v k' h;simp [scan] at h
  | cons x l ih =>
    intro k v k' h
    cases hx:isLow x
    · rw [scan_no hx] at h;exact ih h
    · rw [scan_yes hx] at h
      injection h with h
      injection h with h1 h2
      rw [← h1]
      exact isLow_lt hx
theorem scan_drop_le {xs:List Int} {k:Nat} {v:Int} {k':Nat} (hk:k ≤ xs.length) (h:scan (xs.drop k) k=some (v,k')):k < k' ∧ k' ≤ xs.length:=by
  have:=scan_le h
  rw [List.length_drop] at this
  omega
theorem drawH_dry1 {xs:List Int} {m k:Nat} (h:scan (xs.drop k) k=none):drawH xs (m + 1) k=none:=by rw [drawH,h]
theorem drawH_dry2 {xs:List Int} {m k k1:Nat} {a:Int} (h:scan (xs.drop k) k=some (a,k1)) (h2:scan (xs.drop k1) k1=none):drawH xs (m + 1) k=none:=by rw [drawH,h];simp only [h2]
def joined (d:List (Int × Int)):Option (List (Int × Int) × Nat) → Option (List (Int × Int) × Nat)
  | none=>none
  | some (l,k)=>some (d ++ l,k)
theorem joined_nil (r:Option (List (Int × Int) × Nat)):joined [] r=r:=by cases r <;> rfl
theorem drawH_step {xs:List Int} {m k k1 k2:Nat} {a b:Int} (h:scan (xs.drop k) k=some (a,k1)) (h2:scan (xs.drop k1) k1=some (b,k2)) (d:List (Int × Int)) :
    joined d (drawH xs (m + 1) k)=joined (d ++ [(a,b)]) (drawH xs m k2):=by
  rw [drawH,h];simp only [h2]
  cases drawH xs m k2 with
  | none=>rfl
  | some p=>simp [joined]
end Go.Proofs.YtppblcbgkadldaaGreatDoor
