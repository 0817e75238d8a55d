/-
  name.vertex, name.Of and raftsmanref03.Of walked.
-/
import Derived.Test.YtnfogcnlkchdmaaProg
import Derived.Test.YtnfogcnlkchdmaaMem
import Derived.BigQuiet
namespace Go.Proofs.Ytnfogcnlkchdmaa
open Go Go.RowKit
attribute [local go_sem] Heavy heavyUpon

def vtx (v : Int) : Bool := !(decide (v < 0)) && !(decide (16777215 < v))
theorem vtx_iff {v : Int} : vtx v = true ↔ 0 ≤ v ∧ v < 16777216 := by
  simp only [vtx, Bool.and_eq_true, Bool.not_eq_true', decide_eq_false_iff_not]
  omega
/-- The name of an edge, and the error's number. -/
def nameE (u v : Int) : Int × Int := if vtx u = true ∧ vtx v = true then (if u = v then (0, 8) else if u < v then (u * 16777216 + v, 0) else (v * 16777216 + u, 0)) else (0, 1)

theorem vertex_yes {v : Int} (w : World) (h : vtx v = true) : Calls Try.prog 16 #[.int .i64 v] w (Ret (.bool true) w) := by
  obtain ⟨h0, h1⟩ := vtx_iff.1 h
  clear h
  go_enter Try.func16, Try.ntmps16
  go_wp2_with (fail)
  go_ret
  exact ⟨rfl, Below.refl _ _⟩
theorem vertex_no {v : Int} (w : World) (h : vtx v = false) : Calls Try.prog 16 #[.int .i64 v] w (Ret (.bool false) w) := by
  by_cases h0 : 0 ≤ v
  · have h1 : 16777216 ≤ v := by
      rcases Int.lt_or_le v 16777216 with h1 | h1
      · rw [vtx_iff.2 ⟨h0, h1⟩] at h; cases h
      · exact h1
    have hd : decide (v < 16777216) = false := by simp; omega
    clear h
    go_enter Try.func16, Try.ntmps16
    go_wp2_with (fail)
    go_ret
    exact ⟨rfl, Below.refl _ _⟩
  · have h1 : v < 0 := by omega
    clear h h0
    go_enter Try.func16, Try.ntmps16
    go_wp2_with (fail)
    go_ret
    exact ⟨rfl, Below.refl _ _⟩

theorem of_any (u v : Int) (w : World) : Calls Try.prog 7 #[.int .i64 u, .int .i64 v] w (Ret (.tuple #[.int .u64 (nameE u v).1, .int .i64 (nameE u v).2]) w) := by
  unfold nameE
  cases hu : vtx u
  · rw [if_neg (by simp)]
    have Q := hide (fun W => vertex_no W hu)
    clear hu
    go_enter Try.func7, Try.ntmps7
    go_wp2_with (fail)
    refine (Q.out _).mono ?_
    rintro e w1 ⟨rfl, b1⟩
    go_wp2_with (fail)
    refine bodyPost_ret (v := .tuple #[.int .u64 0, .int .i64 1]) (by simp [results, Try.results7, go_sem]) rfl ⟨rfl, b1⟩
  · cases hv : vtx v
    · rw [if_neg (by simp)]
      have Q := hide (fun W => vertex_yes W hu)
      have R := hide (fun W => vertex_no W hv)
      clear hu hv
      go_enter Try.func7, Try.ntmps7
      go_wp2_with (fail)
      refine (Q.out _).mono ?_
      rintro e w1 ⟨rfl, b1⟩
      go_wp2_with (fail)
      refine (R.out _).mono ?_
      rintro e w2 ⟨rfl, b2⟩
      go_wp2_with (fail)
      refine bodyPost_ret (v := .tuple #[.int .u64 0, .int .i64 1]) (by simp [results, Try.results7, go_sem]) rfl ⟨rfl, b1.trans (b2.mono b1.size)⟩
    · rw [if_pos ⟨rfl, rfl⟩]
      have Q := hide (fun W => vertex_yes W hu)
      have R := hide (fun W => vertex_yes W hv)
      obtain ⟨u0, u1⟩ := vtx_iff.1 hu
      obtain ⟨v0, v1⟩ := vtx_iff.1 hv
      clear hu hv
      obtain ⟨u, rfl⟩ := Int.eq_ofNat_of_zero_le u0
      obtain ⟨v, rfl⟩ := Int.eq_ofNat_of_zero_le v0
      by_cases huv : (u : Int) = v
      · rw [if_pos huv]
        have hd : ((u : Int) == v) = true := by simp [huv]
        clear huv
        go_enter Try.func7, Try.ntmps7
        go_wp2_with (fail)
        refine (Q.out _).mono ?_
        rintro e w1 ⟨rfl, b1⟩
        go_wp2_with (fail)
        refine (R.out _).mono ?_
        rintro e w2 ⟨rfl, b2⟩
        go_wp2_with (fail)
        refine bodyPost_ret (v := .tuple #[.int .u64 0, .int .i64 8]) (by simp [results, Try.results7, go_sem]) rfl ⟨rfl, b1.trans (b2.mono b1.size)⟩
      · rw [if_neg huv]
        have hd : ((u : Int) == v) = false := by simp; omega
        have hd2 : (u == v) = false := by simp; omega
        by_cases hlt : u < v
        · rw [if_pos (by omega)]
          have hmin : min (u : Int) v = u := by omega
          have hmax : max (u : Int) v = v := by omega
          have hl : decide ((u : Int) < v) = true := by simp; omega
          have hl2 : decide ((v : Int) < u) = false := by simp; omega
          clear huv
          go_enter Try.func7, Try.ntmps7
          go_wp2_with (fail)
          refine (Q.out _).mono ?_
          rintro e w1 ⟨rfl, b1⟩
          go_wp2_with (fail)
          refine (R.out _).mono ?_
          rintro e w2 ⟨rfl, b2⟩
          go_wp2_with (fail)
          refine bodyPost_ret (v := .tuple #[.int .u64 ((u : Int) * 16777216 + v), .int .i64 0]) (by simp [results, Try.results7, go_sem]) rfl ⟨rfl, b1.trans (b2.mono b1.size)⟩
        · rw [if_neg (by omega)]
          have hmin : min (u : Int) v = v := by omega
          have hmax : max (u : Int) v = u := by omega
          have hgt : v < u := by omega
          have hl : decide ((u : Int) < v) = false := by simp; omega
          have hl2 : decide ((v : Int) < u) = true := by simp; omega
          clear huv hlt
          go_enter Try.func7, Try.ntmps7
          go_wp2_with (fail)
          refine (Q.out _).mono ?_
          rintro e w1 ⟨rfl, b1⟩
          go_wp2_with (fail)
          refine (R.out _).mono ?_
          rintro e w2 ⟨rfl, b2⟩
          go_wp2_with (fail)
          refine bodyPost_ret (v := .tuple #[.int .u64 ((v : Int) * 16777216 + u), .int .i64 0]) (by simp [results, Try.results7, go_sem]) rfl ⟨rfl, b1.trans (b2.mono b1.size)⟩

end Go.Proofs.Ytnfogcnlkchdmaa
