/-
  The law TourLinks walked.
-/
import Derived.Test.YtbnkanhibjoleaaTRefL
import Derived.Test.YtbnkanhibjoleaaTourAwake
import Derived.Test.YtbnkanhibjoleaaISame
namespace Go.Proofs.Ytbnkanhibjoleaa
open Go Go.RowKit
attribute [local go_sem] Heavy heavyUpon

theorem outL_err (a b : List Int) (u v : Int) : (outL a b u v).2 = 0 ∨ (outL a b u v).2 = 1 ∨ (outL a b u v).2 = 3 ∨ (outL a b u v).2 = 4 := by
  unfold outL
  split
  · split
    · split
      · exact .inr (.inr (.inr rfl))
      · exact .inl rfl
    · exact .inr (.inr (.inl rfl))
  · exact .inr (.inl rfl)

set_option maxRecDepth 100000 in
set_option maxHeartbeats 3200000 in
theorem tlinks_ok (a b : List Int) (ha : ∀ x ∈ a, (Lit.int .i64 x).wf = true) (hb : ∀ x ∈ b, (Lit.int .i64 x).wf = true) (u v : Int) (A B : Option Addr) (m c n d : Nat) (w : World) (hS : Sl w [] 1 A m c (ints .i64 a)) (hT : Sl w [] 1 B n d (ints .i64 b)) :
    Calls Try.prog 3 #[.slice A m c, .slice B n d, .int .i64 u, .int .i64 v] w (Ret (.bool true) w) := by
  by_cases h1 : 60 < m
  · (go_enter Try.func3, Try.ntmps3)
    (go_wp2_with (fail); refine (wawake_ok _).mono ?_; rintro e x ⟨rfl, bx⟩; go_wp2_with (fail); go_ret; exact ⟨rfl, (Below.refl w.heap.size w).trans (bx.mono (Below.refl w.heap.size w).size)⟩)
  have hm : m ≤ 60 := by omega
  clear h1
  by_cases h1 : 60 < n
  · (go_enter Try.func3, Try.ntmps3)
    (go_wp2_with (fail); refine (wawake_ok _).mono ?_; rintro e x ⟨rfl, bx⟩; go_wp2_with (fail); go_ret; exact ⟨rfl, (Below.refl w.heap.size w).trans (bx.mono (Below.refl w.heap.size w).size)⟩)
  have hn : n ≤ 60 := by omega
  clear h1
  have ql := fun W h h' => link_any a b ha hb u v A B m c n d W h h' (by omega) (by omega)
  have qr := fun W h h' => rlink_any a b u v A B m c n d W h h' (by omega) (by omega)
  rw [outRL_eq] at qr
  have he := outL_err a b u v
  generalize outL a b u v = OUT at *
  obtain ⟨T, q⟩ := OUT
  simp only [] at ql qr he
  have QL := hide ql
  have QR := hide qr
  clear ql qr ha hb
  have QS := hide (fun W R d1 X d2 h h' => isame_any T T [] [] R X T.length d1 T.length d2 W h h')
  generalize T.length = tl at *
  have QE : Hid (∀ W R d1 X d2, Sl W [] 1 R tl d1 (ints .i64 T) → Sl W [] 1 X tl d2 (ints .i64 T) → Calls Try.prog 11 #[.slice R tl d1, .slice X tl d2] W (Ret (.bool true) W)) := by
    intro W R d1 X d2 h h'
    have := QS.out W R d1 X d2 h h'
    rwa [decide_eq_true rfl] at this
  clear QS
  rcases he with rfl | rfl | rfl | rfl
  all_goals
    (go_enter Try.func3, Try.ntmps3)
    go_wp2_with (fail)
    refine (QL.out w hS hT).mono ?_
    rintro e w1 ⟨R1, d1, rfl, N1, b1⟩
    have S1 := hS.below b1
    have T1 := hT.below b1
    go_wp2_with (fail)
    refine (QR.out w1 S1 T1).mono ?_
    rintro e w2 ⟨R2, d2, rfl, N2, b2⟩
    have N12 := N1.below b2
    have hb2 := b1.trans (b2.mono b1.size)
    clear N1 b1 b2 S1 T1
    go_wp2_with (fail)
    refine (QE.out w2 R1 d1 R2 d2 N12 N2).mono ?_
    rintro e w3 ⟨rfl, b3⟩
    have hb3 := hb2.trans (b3.mono hb2.size)
    clear b3 hb2 N12 N2
    (go_wp2_with (fail); refine (wawake_ok _).mono ?_; rintro e x ⟨rfl, bx⟩; go_wp2_with (fail); go_ret; exact ⟨rfl, (hb3).trans (bx.mono (hb3).size)⟩)
end Go.Proofs.Ytbnkanhibjoleaa
