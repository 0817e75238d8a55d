/-
  raftsmanref08.last, has and raftsmanref06.Both walked.
-/
import Derived.Test.YtbnkanhibjoleaaFirstW
import Derived.Test.YtbnkanhibjoleaaTRef0
namespace Go.Proofs.Ytbnkanhibjoleaa
open Go Go.RowKit
attribute [local go_sem] Heavy heavyUpon

theorem last_any (l : List Int) (v : Int) (M : List Nat) (A : Option Addr) (m c : Nat) (w : World) (hS : Sl w M 1 A m c (ints .i64 l)) :
    Calls Try.prog 33 #[.slice A m c, .int .i64 v] w (Ret (.int .i64 (lastK l v (-1) m)) w) := by
  have HL := hide (show l.length = m by have := hS.len; simpa using this)
  have hcap : m ≤ maxLen := Nat.le_trans hS.le hS.cap
  unfold maxLen at hcap
  go_enter Try.func33, Try.ntmps33
  go_wp2_with (fail)
  go_loopw [5, 6] (fun a i wr => ∃ k : Nat, k ≤ m ∧ i = .int .i64 k ∧ a = .int .i64 (lastK l v (-1) k) ∧ Below w.heap.size w wr) (fun _ i _ => m - (intOf i).toNat)
  case atStart => exact ⟨0, Nat.zero_le _, rfl, rfl, Below.refl _ _⟩
  case round =>
    obtain ⟨k, hk, rfl, rfl, hbr⟩ := hrel
    have hSr := hS.below hbr
    by_cases hlt : k < m
    · obtain ⟨ad, rfl, had, _, hc⟩ := hSr.at_ (by omega)
      have hx : k < l.length := by have := HL.out; omega
      have c0 := hc _ _ (ints_get hx)
      have HK := hide (show lastK l v (-1) (k + 1) = if l[k] = v then (k : Int) else lastK l v (-1) k by rw [lastK, atI_lt hx])
      clear hc
      generalize l[k] = x at *
      generalize lastK l v (-1) k = lk at *
      by_cases hxv : x = v
      · have HF := hide (show lastK l v (-1) (k + 1) = (k : Int) by rw [HK.out, if_pos hxv])
        have hd : (x == v) = true := by simp [hxv]
        clear hxv HK
        go_wp2_with (fail)
        exact ⟨⟨k + 1, by omega, by go_num, by rw [HF.out], hbr⟩, by simp [intOf]; omega⟩
      · have HF := hide (show lastK l v (-1) (k + 1) = lk by rw [HK.out, if_neg hxv])
        have hd : (x == v) = false := by simp [hxv]
        clear hxv HK
        go_wp2_with (fail)
        exact ⟨⟨k + 1, by omega, by go_num, by rw [HF.out], hbr⟩, by simp [intOf]; omega⟩
    · obtain rfl : k = m := by omega
      generalize lastK l v (-1) k = lk at *
      go_wp2_with (fail)
      go_ret
      exact ⟨rfl, hbr⟩

theorem rhas_any (l : List Int) (v : Int) (M : List Nat) (A : Option Addr) (m c : Nat) (w : World) (hS : Sl w M 1 A m c (ints .i64 l)) :
    Calls Try.prog 22 #[.slice A m c, .int .i64 v] w (Ret (.bool (decide (v ∈ l))) w) := by
  have q := fun W h => first_any l v M A m c W h
  have HD := hide (firstI_dec l v)
  generalize firstI l v 0 = f at *
  have Q := hide q
  clear q
  go_enter Try.func22, Try.ntmps22
  go_wp2_with (fail)
  refine (Q.out w hS).mono ?_
  rintro e w1 ⟨rfl, b1⟩
  go_wp2_with (fail)
  go_ret
  exact ⟨congrArg (fun x => Ending.returned (.bool x)) HD.out, b1⟩

theorem both_any (a b : List Int) (A B : Option Addr) (m c n d : Nat) (w : World) (hS : Sl w [] 1 A m c (ints .i64 a)) (hT : Sl w [] 1 B n d (ints .i64 b)) (hm : m ≤ 4096) (hn : n ≤ 4096) :
    Calls Try.prog 23 #[.slice A m c, .slice B n d] w fun e w' => ∃ R k, e = .returned (.slice R (m + n) k) ∧ Sl w' [] 1 R (m + n) k (ints .i64 (a ++ b)) ∧ Below w.heap.size w w' := by
  obtain ⟨ie, hie, hze, he1, he2⟩ := info_parts int_info
  have O2 := hide (World.ownsRow_nil w w.heap.size 3 1)
  have hb2 := Below.refl w.heap.size w
  go_enter Try.func23, Try.ntmps23
  (go_wp2_with (at_builtin; refine stopAt ?_); refine stopGo ?_)
  refine wpList_append_sl _ rfl (.tmp 6) (.tmp 7) _ rfl w.heap.size 3 ie _ 1 8 Try.underlying22 hie hze he1 he2 rfl (by omega) _ _ _ rfl O2.out [] _ m c (ints .i64 a) rfl hS ints_one (by simp only [maxLen]; omega) (by omega) (Nat.le_refl _) ?_
  intro A5 c5 w5 own5 g5 _
  have hb5 := below_grown O2.out g5 (Nat.le_refl _) (Nat.le_refl _)
  simp only [Nat.zero_add, List.nil_append] at own5 ⊢
  have OW5 := hide own5
  clear own5 g5 O2 hb2
  (go_wp2_with (at_builtin; refine stopAt ?_); refine stopGo ?_)
  refine wpList_append_sl _ rfl (.tmp 9) (.tmp 10) _ rfl w.heap.size 3 ie _ 1 8 Try.underlying22 hie hze he1 he2 rfl (by omega) _ _ _ rfl OW5.out [] _ n d (ints .i64 b) rfl (hT.below hb5) ints_one (by simp only [maxLen]; omega) (by omega) hb5.size ?_
  intro A6 c6 w6 own6 g6 _
  have hg6 := below_grown OW5.out g6 (Nat.le_refl _) hb5.size
  have hb6 := hb5.trans hg6
  rw [← ints_append] at own6
  have N6 := own_sl own6 [] (by simp)
  clear own6 g6 hg6 OW5 hb5 hie hze he1 he2 hS hT
  go_wp2_with (fail)
  refine bodyPost_ret (v := .slice A6 (m + n) c6) (by simp [results, Try.results23, go_sem]) rfl ⟨A6, c6, rfl, N6, hb6⟩
end Go.Proofs.Ytbnkanhibjoleaa
