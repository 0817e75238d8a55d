/-
  cut.fits and cut.unlike walked.
-/
import Derived.Test.YtbbdbgfenidhgaaRight
import Derived.Test.YtbbdbgfenidhgaaInN
namespace Go.Proofs.Ytbbdbgfenidhgaa
open Go Go.RowKit
attribute [local go_sem] Heavy heavyUpon

def fitsE (n : Int) (l : List E3) (set : List Int) : Bool := rightE n l && set.all (inN n)

set_option maxHeartbeats 800000 in
theorem fits_any (l : List E3) (set : List Int) (M N : List Nat) (A B : Option Addr) (n : Int) (m c ms cs : Nat) (w : World) (hS : ESl w M A m c l) (hT : Sl w N 1 B ms cs (ints .i64 set)) :
    Calls Try.prog 23 #[.int .i64 n, .slice A m c, .slice B ms cs] w (Ret (.bool (fitsE n l set)) w) := by
  have HL := hide (show set.length = ms by have := hT.len; simpa using this)
  have hcap : ms ≤ maxLen := Nat.le_trans hT.le hT.cap
  unfold maxLen at hcap
  unfold fitsE
  cases hr : rightE n l
  case false =>
    have q : ∀ W, ESl W M A m c l → Calls Try.prog 29 #[.int .i64 n, .slice A m c] W (Ret (.bool false) W) := fun W h => by have := tright_any l M A n m c W h; rwa [hr] at this
    clear hr
    rw [Bool.false_and]
    have Q := hide q
    clear q
    go_enter Try.func23, Try.ntmps23
    go_wp2_with (fail)
    refine (Q.out w hS).mono ?_
    rintro e w1 ⟨rfl, b1⟩
    go_wp2_with (fail)
    go_ret
    exact ⟨rfl, b1⟩
  case true =>
    have q : ∀ W, ESl W M A m c l → Calls Try.prog 29 #[.int .i64 n, .slice A m c] W (Ret (.bool true) W) := fun W h => by have := tright_any l M A n m c W h; rwa [hr] at this
    clear hr
    rw [Bool.true_and]
    have Q := hide q
    clear q
    go_enter Try.func23, Try.ntmps23
    go_wp2_with (fail)
    refine (Q.out w hS).mono ?_
    rintro e w1 ⟨rfl, b1⟩
    go_wp2_with (fail)
    go_loopw [15] (fun i wr => ∃ k : Nat, k ≤ ms ∧ i = .int .i64 k ∧ Below w.heap.size w wr ∧ Hid ((set.take k).all (inN n) = true)) (fun i _ => ms - (intOf i).toNat)
    case atStart => exact ⟨0, Nat.zero_le _, rfl, b1, hide (by simp)⟩
    case round =>
      obtain ⟨k, hk, rfl, hbr, HR⟩ := hrel
      have hTr := hT.below hbr
      by_cases hlt : k < ms
      · obtain ⟨ad, rfl, had, _, hc⟩ := hTr.at_ (by omega)
        have hx : k < set.length := by have := HL.out; omega
        have c0 := hc _ _ (ints_get hx)
        have HT1 := hide (show (set.take (k + 1)).all (inN n) = inN n set[k] by
          rw [List.take_succ_eq_append_getElem hx, List.all_append, HR.out]; simp)
        have HT2 := hide (show inN n set[k] = false → set.all (inN n) = false by
          intro h
          cases h2 : set.all (inN n)
          · rfl
          · rw [List.all_eq_true.1 h2 _ (List.getElem_mem hx)] at h; cases h)
        clear hc
        generalize set[k] = v at *
        by_cases hv : 0 ≤ v ∧ v < n
        · have HF := hide (show (set.take (k + 1)).all (inN n) = true by rw [HT1.out, inN_yes hv])
          obtain ⟨hv0, hv1⟩ := hv
          go_wp2_with (fail)
          exact ⟨⟨k + 1, by omega, by go_num, hbr, HF⟩, by simp [intOf]; omega⟩
        · have HF := hide (HT2.out (inN_no hv))
          by_cases hv0 : v < 0
          · clear hv
            go_wp2_with (fail)
            go_ret
            exact ⟨congrArg (fun x => Ending.returned (.bool x)) HF.out.symm, hbr⟩
          · have hv1 : n ≤ v := by omega
            clear hv
            go_wp2_with (fail)
            go_ret
            exact ⟨congrArg (fun x => Ending.returned (.bool x)) HF.out.symm, hbr⟩
      · have HF := hide (show set.all (inN n) = true by
          have := HR.out
          rwa [List.take_of_length_le (by have := HL.out; omega)] at this)
        go_wp2_with (fail)
        go_ret
        exact ⟨congrArg (fun x => Ending.returned (.bool x)) HF.out.symm, hbr⟩

/-- A mark: what stands at a place of a list of truths. -/
def markB (b : List Bool) (v : Int) : Bool := b.getD v.toNat false
/-- The edges with just one end marked. -/
def unlikeE (l : List E3) (b : List Bool) : List E3 := l.filter fun e => markB b e.1 != markB b e.2.1
def bools (b : List Bool) : List Value := b.map .bool
theorem bools_len (b : List Bool) : (bools b).length = b.length := by simp [bools]
theorem bools_get {b : List Bool} {i : Nat} (h : i < b.length) : (bools b)[i]? = some (.bool b[i]) := by simp [bools, h]

set_option maxHeartbeats 1600000 in
theorem unlike_ok (l : List E3) (b : List Bool) (M N : List Nat) (A B : Option Addr) (m c mb cb : Nat) (w : World) (hS : ESl w M A m c l) (hT : Sl w N 1 B mb cb (bools b))
    (hin : ∀ e ∈ l, 0 ≤ e.1 ∧ e.1 < mb ∧ 0 ≤ e.2.1 ∧ e.2.1 < mb) (hm : m ≤ 4096) (K : List Nat) (hK : ∀ x ∈ K, x < w.heap.size) :
    Calls Try.prog 24 #[.slice A m c, .slice B mb cb] w fun e w' => ∃ R d, e = .returned (.slice R (unlikeE l b).length d) ∧ ESl w' K R (unlikeE l b).length d (unlikeE l b) ∧ Below w.heap.size w w' := by
  obtain ⟨ie, hie, hze, he1, he2⟩ := info_parts edge_info
  have HL := hide hS.length
  have HLB := hide (show b.length = mb by have := hT.len; rw [bools_len] at this; omega)
  have HIN := hide hin
  have HK := hide hK
  clear hin hK
  have hcapb : mb ≤ maxLen := Nat.le_trans hT.le hT.cap
  unfold maxLen at hcapb
  go_enter Try.func24, Try.ntmps24
  go_wp2_with (fail)
  go_loopw [5, 10] (fun v i wr => ∃ (k : Nat) (Ao : Option Addr) (co : Nat), k ≤ m ∧ i = .int .i64 k ∧ v = .slice Ao (unlikeE (l.take k) b).length co ∧ Below w.heap.size w wr ∧
      wr.ownsRow w.heap.size 39 3 (.slice Ao (unlikeE (l.take k) b).length co) (unlikeE (l.take k) b).length (ecells (unlikeE (l.take k) b))) (fun _ i _ => m - (intOf i).toNat)
  case atStart => exact ⟨0, none, 0, Nat.zero_le _, rfl, by simp [unlikeE], Below.refl _ _, by simpa [unlikeE, ecells] using World.ownsRow_nil w w.heap.size 39 3⟩
  case round =>
    obtain ⟨k, Ao, co, hk, rfl, rfl, hbr, hown⟩ := hrel
    have hSr : ESl wr M A m c l := hS.below hbr
    have hTr := hT.below hbr
    have hlen : (unlikeE (l.take k) b).length ≤ k := by
      have := List.length_filter_le (fun e : E3 => markB b e.1 != markB b e.2.1) (l.take k)
      rw [List.length_take] at this
      unfold unlikeE
      omega
    by_cases hlt : k < m
    · have hx : k < l.length := by have := HL.out; omega
      obtain ⟨ad, rfl, had, _, c0, c1, c2⟩ := hSr.get hx
      have hi := HIN.out _ (List.getElem_mem hx)
      have HU := hide (show unlikeE (l.take (k + 1)) b = unlikeE (l.take k) b ++ (if (markB b l[k].1 != markB b l[k].2.1) = true then [l[k]] else []) by
        unfold unlikeE
        rw [List.take_succ_eq_append_getElem hx, List.filter_append, List.filter_cons]; rfl)
      generalize l[k] = x at *
      obtain ⟨u, v, t⟩ := x
      simp only [] at c0 c1 c2 hi
      obtain ⟨hu0, hu1, hv0, hv1⟩ := hi
      obtain ⟨u, rfl⟩ := Int.eq_ofNat_of_zero_le hu0
      obtain ⟨v, rfl⟩ := Int.eq_ofNat_of_zero_le hv0
      have hub : u < b.length := by have := HLB.out; omega
      have hvb : v < b.length := by have := HLB.out; omega
      obtain ⟨bd, rfl, hbd, _, hc⟩ := hTr.at_ (by omega)
      have e0 := hc _ _ (bools_get hub)
      have e1 := hc _ _ (bools_get hvb)
      clear hc
      have HM := hide (show markB b (u : Int) = b[u] ∧ markB b (v : Int) = b[v] from ⟨by simp [markB, List.getD, List.getElem?_eq_getElem hub], by simp [markB, List.getD, List.getElem?_eq_getElem hvb]⟩)
      generalize b[u] = p at *
      generalize b[v] = q at *
      have E0 := Blk.new wr 39 #[.int .i64 u, .int .i64 v, .int .i64 t]
      have HOW := hide hown
      clear hown
      go_wp2_with (fail)
      have f0 : (wr.alloc (.cells #[.int .i64 u, .int .i64 v, .int .i64 t] 39)).cell? (bd.add u) = some (.bool p) := (World.cell?_of_block (Below.heap_alloc wr _ _ (by rw [block_of_add]; exact hbd))).trans e0
      have f1 : (wr.alloc (.cells #[.int .i64 u, .int .i64 v, .int .i64 t] 39)).cell? (bd.add v) = some (.bool q) := (World.cell?_of_block (Below.heap_alloc wr _ _ (by rw [block_of_add]; exact hbd))).trans e1
      have hb1 := hbr.alloc hbr.size (.cells #[.int .i64 u, .int .i64 v, .int .i64 t] 39)
      have OW1 := hide (HOW.out.alloc (.cells #[.int .i64 u, .int .i64 v, .int .i64 t] 39))
      have hz := hide (heap_alloc_size wr (.cells #[.int .i64 u, .int .i64 v, .int .i64 t] 39))
      clear e0 e1 c0 c1 c2
      generalize wr.alloc (.cells #[.int .i64 u, .int .i64 v, .int .i64 t] 39) = W1 at *
      obtain ⟨x0, y0, z0⟩ := E0.facts
      refine wp_region_lex [] (fun w' => ∀ p, w'.cell? p = W1.cell? p) (by kernel_rfl) (by kernel_rfl) (fun _ => rfl) ?_
      by_cases hpq : p = q
      · have hne : (p == q) = true := by simpa using hpq
        have HF := hide (show unlikeE (l.take (k + 1)) b = unlikeE (l.take k) b by rw [HU.out, HM.out.1, HM.out.2, bne, hne]; simp)
        clear hpq
        (repeat ((with_reducible refine wpLex_step (fun K hK => ?_)); go_simp; first | ((with_reducible refine hK _ _ ?_); clear hK K) | ((with_reducible apply Exists.intro); refine ⟨fun w' hw' => ?_, hK _ _ ?_⟩; (· (apply valEq; (· (go_simp; first | done | (with_reducible rfl))); (· ((try go_bits); with_reducible rfl)))); clear hK K)))
        refine wpLex_nil (fun _ => ?_)
        go_wp2_with (fail)
        exact ⟨⟨k + 1, Ao, co, by omega, by go_num, by rw [HF.out], hb1.drew, by rw [HF.out]; exact OW1.out⟩, by simp [intOf]; omega⟩
      · have hne : (p == q) = false := by simpa using hpq
        have HF := hide (show unlikeE (l.take (k + 1)) b = unlikeE (l.take k) b ++ [((u : Int), (v : Int), t)] by rw [HU.out, HM.out.1, HM.out.2, if_pos (by rw [bne, hne]; rfl)])
        clear hpq
        (repeat ((with_reducible refine wpLex_step (fun K hK => ?_)); go_simp; first | ((with_reducible refine hK _ _ ?_); clear hK K) | ((with_reducible apply Exists.intro); refine ⟨fun w' hw' => ?_, hK _ _ ?_⟩; (· (apply valEq; (· (go_simp; first | done | (with_reducible rfl))); (· ((try go_bits); with_reducible rfl)))); clear hK K)))
        refine wpLex_nil (fun _ => ?_)
        (go_wp2_with (at_builtin; refine stopAt ?_); refine stopGo ?_)
        have N2 : Sl (W1.alloc (.cells #[.int .i64 u, .int .i64 v, .int .i64 t] 39)).drew [] 3 (some ⟨W1.heap.size, 0, none⟩) 1 1 (ecells [((u : Int), (v : Int), t)]) :=
          (Sl.of_blk (Blk.new W1 39 #[.int .i64 u, .int .i64 v, .int .i64 t]) rfl (fun x hx => by match x, hx with | 0, _ | 1, _ | 2, _ => rfl) (by simp) (by unfold maxLen; omega)).drew
        have O2 := OW1.out.alloc (.cells #[.int .i64 u, .int .i64 v, .int .i64 t] 39)
        have szl := hb1.size
        refine wpList_append_sl _ rfl (.tmp 25) (.tmp 27) _ rfl w.heap.size 39 ie _ 3 24 Try.underlying22 hie hze he1 he2 rfl (by omega) (.slice Ao (unlikeE (l.take k) b).length co) (unlikeE (l.take k) b).length _ rfl O2 [] _ 1 1 (ecells [((u : Int), (v : Int), t)]) rfl N2 ecells_one (by simp only [maxLen]; omega) (by omega) (by simp; omega) ?_
        intro A5 c5 w5 own5 g5 _
        rw [← ecells_append, ← HF.out] at own5
        have hl5 : (unlikeE (l.take k) b).length + 1 = (unlikeE (l.take (k + 1)) b).length := by rw [HF.out, List.length_append]; rfl
        rw [hl5] at own5 ⊢
        clear hl5
        have hg5 := below_grown (w := (W1.alloc (.cells #[.int .i64 u, .int .i64 v, .int .i64 t] 39)).drew) O2 g5 (Nat.le_refl _) (by simp; omega)
        have hb5 : Below w.heap.size w w5 := ((hb1.alloc hb1.size _).drew).trans hg5
        have OW5 := hide own5
        clear own5 g5 hg5 O2 N2
        go_wp2_with (fail)
        exact ⟨⟨k + 1, A5, c5, by omega, by go_num, rfl, hb5, OW5.out⟩, by simp [intOf]; omega⟩
    · have HF := hide (show l.take k = l from List.take_of_length_le (by have := HL.out; omega))
      rw [HF.out] at hown
      rw [HF.out]
      go_wp2_with (fail)
      go_ret
      exact ⟨Ao, co, rfl, own_sl hown K HK.out, hbr⟩
end Go.Proofs.Ytbbdbgfenidhgaa
