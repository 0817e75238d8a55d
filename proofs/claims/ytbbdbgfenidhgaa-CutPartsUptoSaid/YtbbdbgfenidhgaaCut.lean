/-
  cut.Cut and cut.Mixed walked.
-/
import Derived.Test.YtbbdbgfenidhgaaFits
namespace Go.Proofs.Ytbbdbgfenidhgaa
open Go Go.RowKit
attribute [local go_sem] Heavy heavyUpon

theorem chainE_mem {n : Int} : ∀ {l : List E3} {p : Option E3}, chainE n p l = true → ∀ e ∈ l, okE n e = true
  | [], _, _, e, he => by cases he
  | x :: l, p, h, e, he => by
    simp only [chainE, Bool.and_eq_true] at h
    rcases List.mem_cons.1 he with rfl | he
    · exact h.1.1
    · exact chainE_mem h.2 e he
theorem rightE_n {n : Int} {l : List E3} (h : rightE n l = true) : 0 ≤ n ∧ n ≤ 1024 := by
  by_cases h0 : 0 ≤ n ∧ n ≤ 1024
  · exact h0
  · rw [rightE_out h0] at h; cases h
theorem okE_facts {n : Int} {e : E3} (h : okE n e = true) : 0 ≤ e.1 ∧ e.1 < e.2.1 ∧ e.2.1 < n ∧ 0 ≤ e.2.2 ∧ e.2.2 ≤ 16 := by
  simp only [okE, Bool.and_eq_true, Bool.not_eq_true', decide_eq_false_iff_not] at h
  omega
theorem rightE_mem {n : Int} {l : List E3} (h : rightE n l = true) {e : E3} (he : e ∈ l) : 0 ≤ e.1 ∧ e.1 < e.2.1 ∧ e.2.1 < n ∧ 0 ≤ e.2.2 ∧ e.2.2 ≤ 16 := by
  rw [rightE_in (rightE_n h).1 (rightE_n h).2] at h
  exact okE_facts (chainE_mem h e he)
theorem fitsE_parts {n : Int} {l : List E3} {set : List Int} (h : fitsE n l set = true) : rightE n l = true ∧ ∀ v ∈ set, 0 ≤ v ∧ v < n := by
  unfold fitsE at h
  rw [Bool.and_eq_true] at h
  exact ⟨h.1, fun v hv => inN_iff.1 (List.all_eq_true.1 h.2 v hv)⟩

/-- One more vertex marked. -/
def markOn (b : List Bool) (v : Int) : List Bool := b.set v.toNat true
/-- The mark of one vertex turned. -/
def markTurn (b : List Bool) (v : Int) : List Bool := b.set v.toNat (!markB b v)
def marksB (f : List Bool → Int → List Bool) (n : Nat) (set : List Int) : List Bool := set.foldl f (List.replicate n false)
theorem marksB_len (f : List Bool → Int → List Bool) (hf : ∀ b v, (f b v).length = b.length) (n : Nat) (set : List Int) : (marksB f n set).length = n := by
  have H : ∀ (s : List Int) (b : List Bool), (s.foldl f b).length = b.length := by
    intro s
    induction s with
    | nil => intro b; rfl
    | cons v s ih => intro b; rw [List.foldl_cons, ih, hf]
  unfold marksB
  rw [H, List.length_replicate]
theorem markOn_len (b : List Bool) (v : Int) : (markOn b v).length = b.length := by simp [markOn]
theorem markTurn_len (b : List Bool) (v : Int) : (markTurn b v).length = b.length := by simp [markTurn]
theorem markOn_at (b : List Bool) (v : Nat) : markOn b (v : Int) = b.set v true := rfl
theorem markTurn_at (b : List Bool) (v : Nat) : markTurn b (v : Int) = b.set v (!markB b v) := rfl
theorem marksB_step (f : List Bool → Int → List Bool) (n : Nat) {set : List Int} {k : Nat} (h : k < set.length) : marksB f n (set.take (k + 1)) = f (marksB f n (set.take k)) set[k] := by
  unfold marksB
  rw [List.take_succ_eq_append_getElem h, List.foldl_append]
  rfl
theorem bools_set (b : List Bool) (i : Nat) (x : Bool) : (bools b).toArray.setIfInBounds i (.bool x) = (bools (b.set i x)).toArray := by
  simp [bools, List.map_set]
theorem bools_made (n : Nat) : madeCells (Value.bool false).cells n = (bools (List.replicate n false)).toArray := by
  apply Array.ext
  · simp [size_madeCells, bools]
  · intro i h1 h2
    have h3 : i < n := by simpa [size_madeCells] using h1
    simp [bools, madeCells, Value.cells, Nat.mod_one]
theorem bool_info : (Try.prog.info? 4).map (fun i => (i.zero, i.size, i.bytes)) = some (some (.bool false), 1, 1) := by kernel_rfl
theorem bools_one {b : List Bool} : ∀ u ∈ bools b, u.oneCell' = true := by
  intro u hu
  simp only [bools, List.mem_map] at hu
  obtain ⟨x, _, rfl⟩ := hu
  rfl

/-- What a cut answers. -/
def outE (f : List Bool → Int → List Bool) (n : Int) (l : List E3) (set : List Int) : List E3 := if fitsE n l set = true then unlikeE l (marksB f n.toNat set) else []
def outC (n : Int) (l : List E3) (set : List Int) : Int := if fitsE n l set = true then 0 else 1

set_option maxHeartbeats 1600000 in
theorem cut_ok (l : List E3) (set : List Int) (M N : List Nat) (A B : Option Addr) (n : Int) (m c ms cs : Nat) (w : World) (hS : ESl w M A m c l) (hT : Sl w N 1 B ms cs (ints .i64 set))
    (hm : m ≤ 4096) (K : List Nat) (hK : ∀ x ∈ K, x < w.heap.size) :
    Calls Try.prog 9 #[.int .i64 n, .slice A m c, .slice B ms cs] w fun e w' => ∃ R d, e = .returned (.tuple #[.slice R (outE markOn n l set).length d, .int .i64 (outC n l set)]) ∧ ESl w' K R (outE markOn n l set).length d (outE markOn n l set) ∧ Below w.heap.size w w' := by
  unfold outE outC
  cases hf : fitsE n l set
  case false =>
    have q : ∀ W, ESl W M A m c l → Sl W N 1 B ms cs (ints .i64 set) → Calls Try.prog 23 #[.int .i64 n, .slice A m c, .slice B ms cs] W (Ret (.bool false) W) := fun W h1 h2 => by have := fits_any l set M N A B n m c ms cs W h1 h2; rwa [hf] at this
    clear hf
    have Q := hide q
    clear q
    go_enter Try.func9, Try.ntmps9
    go_wp2_with (fail)
    refine (Q.out w hS hT).mono ?_
    rintro e w1 ⟨rfl, b1⟩
    go_wp2_with (fail)
    refine bodyPost_ret (v := .tuple #[.slice none 0 0, .int .i64 1]) (by simp [results, Try.results9, go_sem]) rfl ⟨none, 0, rfl, Sl.nil_ _ _ _, b1⟩
  case true =>
    have q : ∀ W, ESl W M A m c l → Sl W N 1 B ms cs (ints .i64 set) → Calls Try.prog 23 #[.int .i64 n, .slice A m c, .slice B ms cs] W (Ret (.bool true) W) := fun W h1 h2 => by have := fits_any l set M N A B n m c ms cs W h1 h2; rwa [hf] at this
    obtain ⟨hr, hset⟩ := fitsE_parts hf
    obtain ⟨hn0, hn1⟩ := rightE_n hr
    have HMEM := hide (fun e (he : e ∈ l) => rightE_mem hr he)
    have HSET := hide hset
    clear hf hr hset
    obtain ⟨n, rfl⟩ := Int.eq_ofNat_of_zero_le hn0
    have Q := hide q
    clear q
    obtain ⟨i0, hi0, hz0, hz1, hz2⟩ := info_parts bool_info
    have hmk := fun W => run_make_rowN (P := Try.prog) 45 4 i0 _ Try.underlying45 hi0 hz0 .i64 .i64 n n (Nat.le_refl _) (by rw [hz2]; omega) (by omega) W
    rw [hz1] at hmk
    simp only [Nat.mul_one] at hmk
    rw [bools_made] at hmk
    have HLS := hide (show set.length = ms by have := hT.len; simpa using this)
    have HK := hide hK
    clear hi0 hz0 hz1 hz2 hK
    have hcap : ms ≤ maxLen := Nat.le_trans hT.le hT.cap
    unfold maxLen at hcap
    rw [if_pos rfl, if_pos rfl]
    go_enter Try.func9, Try.ntmps9
    go_wp2_with (fail)
    refine (Q.out w hS hT).mono ?_
    rintro e w1 ⟨rfl, b1⟩
    go_wp2_with (fail)
    have hz := hide b1.size
    go_loopw [20] (fun i wr => ∃ k : Nat, k ≤ ms ∧ i = .int .i64 k ∧ Below w.heap.size w wr ∧ Blk wr w1.heap.size 4 (bools (marksB markOn n (set.take k))).toArray) (fun i _ => ms - (intOf i).toNat)
    case atStart => exact ⟨0, Nat.zero_le _, rfl, b1.alloc b1.size _, by simpa [marksB] using Blk.new w1 4 (bools (List.replicate n false)).toArray⟩
    case round =>
      obtain ⟨k, hk, rfl, hbr, R0⟩ := hrel
      have hTr := hT.below hbr
      by_cases hlt : k < ms
      · obtain ⟨ad, rfl, had, _, hc⟩ := hTr.at_ (by omega)
        have hx : k < set.length := by have := HLS.out; omega
        have c0 := hc _ _ (ints_get hx)
        have hv := HSET.out _ (List.getElem_mem hx)
        have HST := hide (marksB_step markOn n hx)
        clear hc
        generalize set[k] = v at *
        obtain ⟨hv0, hv1⟩ := hv
        obtain ⟨v, rfl⟩ := Int.eq_ofNat_of_zero_le hv0
        have hlb := marksB_len markOn markOn_len n (set.take k)
        have hvb : v < (marksB markOn n (set.take k)).length := by rw [hlb]; omega
        obtain ⟨r0, e0, s0⟩ := R0.facts
        have c1 : wr.cell? ⟨w1.heap.size, v, none⟩ = some (.bool (marksB markOn n (set.take k))[v]) := by rw [r0]; simpa using bools_get hvb
        generalize (marksB markOn n (set.take k))[v] = p at *
        clear r0
        have R1 := hide (show Blk (wr.setCell ⟨w1.heap.size, v, none⟩ (.bool true)) w1.heap.size 4 (bools (marksB markOn n (set.take (k + 1)))).toArray by
          rw [HST.out, markOn_at, ← bools_set]; exact R0.set_ _ _)
        clear R0
        go_wp2_with (fail)
        exact ⟨⟨k + 1, by omega, by go_num, hbr.setCell hz.out _, R1.out⟩, by simp [intOf]; omega⟩
      · have hlb := marksB_len markOn markOn_len n set
        have HF := hide (show set.take k = set from List.take_of_length_le (by have := HLS.out; omega))
        rw [HF.out] at R0
        have R1 := hide R0
        clear R0
        go_wp2_with (fail)
        refine (unlike_ok l (marksB markOn n set) M [] A _ m c n n wr (hS.below hbr) (Sl.of_blk R1.out (by rw [bools_len, hlb, Nat.mul_one]) (fun x hx => by simp [bools_get (show x < (marksB markOn n set).length by rw [hlb]; omega)]) (by simp) (by unfold maxLen; omega)) (fun e he => by have := HMEM.out e he; omega) hm K (fun x hx => Nat.lt_of_lt_of_le (HK.out x hx) hbr.size)).mono ?_
        rintro e w2 ⟨R, d, rfl, hR, b2⟩
        go_wp2_with (fail)
        refine bodyPost_ret (v := .tuple #[.slice R (unlikeE l (marksB markOn n set)).length d, .int .i64 0]) (by simp [results, Try.results9, go_sem]) rfl ⟨R, d, rfl, hR, hbr.trans (b2.mono hbr.size)⟩
set_option maxHeartbeats 1600000 in
theorem mix_ok (l : List E3) (set : List Int) (M N : List Nat) (A B : Option Addr) (n : Int) (m c ms cs : Nat) (w : World) (hS : ESl w M A m c l) (hT : Sl w N 1 B ms cs (ints .i64 set))
    (hm : m ≤ 4096) (K : List Nat) (hK : ∀ x ∈ K, x < w.heap.size) :
    Calls Try.prog 10 #[.int .i64 n, .slice A m c, .slice B ms cs] w fun e w' => ∃ R d, e = .returned (.tuple #[.slice R (outE markTurn n l set).length d, .int .i64 (outC n l set)]) ∧ ESl w' K R (outE markTurn n l set).length d (outE markTurn n l set) ∧ Below w.heap.size w w' := by
  unfold outE outC
  cases hf : fitsE n l set
  case false =>
    have q : ∀ W, ESl W M A m c l → Sl W N 1 B ms cs (ints .i64 set) → Calls Try.prog 23 #[.int .i64 n, .slice A m c, .slice B ms cs] W (Ret (.bool false) W) := fun W h1 h2 => by have := fits_any l set M N A B n m c ms cs W h1 h2; rwa [hf] at this
    clear hf
    have Q := hide q
    clear q
    go_enter Try.func10, Try.ntmps10
    go_wp2_with (fail)
    refine (Q.out w hS hT).mono ?_
    rintro e w1 ⟨rfl, b1⟩
    go_wp2_with (fail)
    refine bodyPost_ret (v := .tuple #[.slice none 0 0, .int .i64 1]) (by simp [results, Try.results10, go_sem]) rfl ⟨none, 0, rfl, Sl.nil_ _ _ _, b1⟩
  case true =>
    have q : ∀ W, ESl W M A m c l → Sl W N 1 B ms cs (ints .i64 set) → Calls Try.prog 23 #[.int .i64 n, .slice A m c, .slice B ms cs] W (Ret (.bool true) W) := fun W h1 h2 => by have := fits_any l set M N A B n m c ms cs W h1 h2; rwa [hf] at this
    obtain ⟨hr, hset⟩ := fitsE_parts hf
    obtain ⟨hn0, hn1⟩ := rightE_n hr
    have HMEM := hide (fun e (he : e ∈ l) => rightE_mem hr he)
    have HSET := hide hset
    clear hf hr hset
    obtain ⟨n, rfl⟩ := Int.eq_ofNat_of_zero_le hn0
    have Q := hide q
    clear q
    obtain ⟨i0, hi0, hz0, hz1, hz2⟩ := info_parts bool_info
    have hmk := fun W => run_make_rowN (P := Try.prog) 45 4 i0 _ Try.underlying45 hi0 hz0 .i64 .i64 n n (Nat.le_refl _) (by rw [hz2]; omega) (by omega) W
    rw [hz1] at hmk
    simp only [Nat.mul_one] at hmk
    rw [bools_made] at hmk
    have HLS := hide (show set.length = ms by have := hT.len; simpa using this)
    have HK := hide hK
    clear hi0 hz0 hz1 hz2 hK
    have hcap : ms ≤ maxLen := Nat.le_trans hT.le hT.cap
    unfold maxLen at hcap
    rw [if_pos rfl, if_pos rfl]
    go_enter Try.func10, Try.ntmps10
    go_wp2_with (fail)
    refine (Q.out w hS hT).mono ?_
    rintro e w1 ⟨rfl, b1⟩
    go_wp2_with (fail)
    have hz := hide b1.size
    go_loopw [20] (fun i wr => ∃ k : Nat, k ≤ ms ∧ i = .int .i64 k ∧ Below w.heap.size w wr ∧ Blk wr w1.heap.size 4 (bools (marksB markTurn n (set.take k))).toArray) (fun i _ => ms - (intOf i).toNat)
    case atStart => exact ⟨0, Nat.zero_le _, rfl, b1.alloc b1.size _, by simpa [marksB] using Blk.new w1 4 (bools (List.replicate n false)).toArray⟩
    case round =>
      obtain ⟨k, hk, rfl, hbr, R0⟩ := hrel
      have hTr := hT.below hbr
      by_cases hlt : k < ms
      · obtain ⟨ad, rfl, had, _, hc⟩ := hTr.at_ (by omega)
        have hx : k < set.length := by have := HLS.out; omega
        have c0 := hc _ _ (ints_get hx)
        have hv := HSET.out _ (List.getElem_mem hx)
        have HST := hide (marksB_step markTurn n hx)
        clear hc
        generalize set[k] = v at *
        obtain ⟨hv0, hv1⟩ := hv
        obtain ⟨v, rfl⟩ := Int.eq_ofNat_of_zero_le hv0
        have hlb := marksB_len markTurn markTurn_len n (set.take k)
        have hvb : v < (marksB markTurn n (set.take k)).length := by rw [hlb]; omega
        obtain ⟨r0, e0, s0⟩ := R0.facts
        have c1 : wr.cell? ⟨w1.heap.size, v, none⟩ = some (.bool (marksB markTurn n (set.take k))[v]) := by rw [r0]; simpa using bools_get hvb
        have HP := hide (show markB (marksB markTurn n (set.take k)) (v : Int) = (marksB markTurn n (set.take k))[v] by simp [markB, List.getD, List.getElem?_eq_getElem hvb])
        generalize (marksB markTurn n (set.take k))[v] = p at *
        clear r0
        have R1 := hide (show Blk (wr.setCell ⟨w1.heap.size, v, none⟩ (.bool (!p))) w1.heap.size 4 (bools (marksB markTurn n (set.take (k + 1)))).toArray by
          rw [HST.out, markTurn_at, HP.out, ← bools_set]; exact R0.set_ _ _)
        clear R0
        go_wp2_with (fail)
        exact ⟨⟨k + 1, by omega, by go_num, hbr.setCell hz.out _, R1.out⟩, by simp [intOf]; omega⟩
      · have hlb := marksB_len markTurn markTurn_len n set
        have HF := hide (show set.take k = set from List.take_of_length_le (by have := HLS.out; omega))
        rw [HF.out] at R0
        have R1 := hide R0
        clear R0
        go_wp2_with (fail)
        refine (unlike_ok l (marksB markTurn n set) M [] A _ m c n n wr (hS.below hbr) (Sl.of_blk R1.out (by rw [bools_len, hlb, Nat.mul_one]) (fun x hx => by simp [bools_get (show x < (marksB markTurn n set).length by rw [hlb]; omega)]) (by simp) (by unfold maxLen; omega)) (fun e he => by have := HMEM.out e he; omega) hm K (fun x hx => Nat.lt_of_lt_of_le (HK.out x hx) hbr.size)).mono ?_
        rintro e w2 ⟨R, d, rfl, hR, b2⟩
        go_wp2_with (fail)
        refine bodyPost_ret (v := .tuple #[.slice R (unlikeE l (marksB markTurn n set)).length d, .int .i64 0]) (by simp [results, Try.results10, go_sem]) rfl ⟨R, d, rfl, hR, hbr.trans (b2.mono hbr.size)⟩
end Go.Proofs.Ytbbdbgfenidhgaa
