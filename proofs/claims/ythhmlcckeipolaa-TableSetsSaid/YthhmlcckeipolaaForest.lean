/-
  table.Forest and table.Near walked.
-/
import Derived.Test.YthhmlcckeipolaaRight
import Derived.Test.YthhmlcckeipolaaTFind
namespace Go.Proofs.Ythhmlcckeipolaa
open Go Go.RowKit
attribute [local go_sem] Heavy heavyUpon

theorem e1_new (w : World) (p q t : Int) : Sl (w.alloc (.cells #[.int .i64 p, .int .i64 q, .int .i64 t] 30)) [] 3 (some ⟨w.heap.size, 0, none⟩) 1 1 (ecells [(p, q, t)]) :=
  Sl.of_blk (Blk.new w 30 #[.int .i64 p, .int .i64 q, .int .i64 t]) rfl (fun x hx => by match x, hx with | 0, _ | 1, _ | 2, _ => rfl) (by simp) (by unfold maxLen; omega)
theorem i1_new (w : World) (v : Int) : Sl (w.alloc (.cells #[.int .i64 v] 3)) [] 1 (some ⟨w.heap.size, 0, none⟩) 1 1 (ints .i64 [v]) :=
  Sl.of_blk (Blk.new w 3 #[.int .i64 v]) rfl (fun x hx => by match x, hx with | 0, _ => rfl) (by simp) (by unfold maxLen; omega)
theorem int_info : (Try.prog.info? 3).map (fun i => (i.zero, i.size, i.bytes)) = some (some (.int .i64 0), 1, 8) := by kernel_rfl
theorem filter_step {α : Type} (p : α → Bool) (l : List α) {k : Nat} (h : k < l.length) : (l.take (k + 1)).filter p = (l.take k).filter p ++ (if p l[k] = true then [l[k]] else []) := by
  rw [List.take_succ_eq_append_getElem h, List.filter_append, List.filter_cons]; rfl
theorem filter_len {α : Type} (p : α → Bool) (l : List α) (k : Nat) : ((l.take k).filter p).length ≤ k := by
  have := List.length_filter_le p (l.take k)
  rw [List.length_take] at this
  omega

def tierT (tier : Int) (e : E3) : Bool := decide (1 ≤ e.2.2) && decide (e.2.2 ≤ tier)
def forestE (l : List E3) (tier : Int) : List E3 := l.filter (tierT tier)
def outF (n : Int) (l : List E3) (tier : Int) : List E3 := if rightE n l = true then forestE l tier else []

set_option maxHeartbeats 1600000 in
theorem forest_ok (l : List E3) (n tier : Int) (M : List Nat) (A : Option Addr) (m c : Nat) (w : World) (hS : ESl w M A m c l) (hm : m ≤ 4096) :
    Calls Try.prog 14 #[.int .i64 n, .slice A m c, .int .i64 tier] w fun e w' => ∃ R d, e = .returned (.slice R (outF n l tier).length d) ∧ ESl w' [] R (outF n l tier).length d (outF n l tier) ∧ Below w.heap.size w w' := by
  have q := fun W h => tright_any l M A n m c W h
  unfold outF
  cases hr : rightE n l
  case false =>
    rw [hr] at q
    have Q := hide q
    clear q hr
    go_enter Try.func14, Try.ntmps14
    go_wp2_with (fail)
    refine (Q.out w hS).mono ?_
    rintro e w1 ⟨rfl, b1⟩
    go_wp2_with (fail)
    go_ret
    exact ⟨none, 0, rfl, Sl.nil_ _ _ _, b1⟩
  case true =>
    rw [hr] at q
    have Q := hide q
    clear q hr
    rw [if_pos rfl]
    obtain ⟨ie, hie, hze, he1, he2⟩ := info_parts edge_info
    have HL := hide hS.length
    obtain ⟨G, hG⟩ : ∃ G : Nat → List E3, G = fun k => forestE (l.take k) tier := ⟨_, rfl⟩
    have H0 := hide (show G 0 = [] by rw [hG]; rfl)
    have HST := hide (show ∀ (k : Nat) (h : k < l.length), G (k + 1) = G k ++ (if tierT tier l[k] = true then [l[k]] else []) from fun k h => by rw [hG]; exact filter_step _ l h)
    have HLN := hide (show ∀ k, (G k).length ≤ k from fun k => by rw [hG]; exact filter_len _ l k)
    have HE := hide (show G m = forestE l tier by rw [hG]; simp only []; rw [List.take_of_length_le (by have := HL.out; omega)])
    clear hG
    go_enter Try.func14, Try.ntmps14
    go_wp2_with (fail)
    refine (Q.out w hS).mono ?_
    rintro e w1 ⟨rfl, b1⟩
    go_wp2_with (fail)
    go_loopw [7, 16] (fun a i wr => ∃ (k : Nat) (Ao : Option Addr) (co : Nat), k ≤ m ∧ i = .int .i64 k ∧ a = .slice Ao (G k).length co ∧ Below w.heap.size w wr ∧
        wr.ownsRow w.heap.size 30 3 (.slice Ao (G k).length co) (G k).length (ecells (G k))) (fun _ i _ => m - (intOf i).toNat)
    case atStart => exact ⟨0, none, 0, Nat.zero_le _, rfl, by rw [H0.out]; rfl, b1, by rw [H0.out]; exact World.ownsRow_nil w1 w.heap.size 30 3⟩
    case round =>
      obtain ⟨k, Ao, co, hk, rfl, rfl, hbr, hown⟩ := hrel
      have hSr : ESl wr M A m c l := hS.below hbr
      have hlen := HLN.out k
      by_cases hlt : k < m
      · have hx : k < l.length := by have := HL.out; omega
        obtain ⟨ad, rfl, had, _, c0, c1, c2⟩ := hSr.get hx
        have HU := hide (HST.out k hx)
        generalize l[k] = x at *
        obtain ⟨u, v, t⟩ := x
        simp only [] at c0 c1 c2
        have HOW := hide hown
        clear hown
        have HRV := hide (show ∃ A c, (Value.slice Ao (G k).length co) = .slice A (G k).length c from ⟨_, _, rfl⟩)
        generalize Value.slice Ao (G k).length co = RV at *
        have hb1 := hbr.alloc hbr.size (.cells #[.int .i64 u, .int .i64 v, .int .i64 t] 30)
        have HO1 := hide (HOW.out.alloc (.cells #[.int .i64 u, .int .i64 v, .int .i64 t] 30))
        by_cases a1 : 1 ≤ t
        · by_cases a2 : t ≤ tier
          · have HF := hide (show G (k + 1) = G k ++ [(u, v, t)] by rw [HU.out, if_pos (by simp [tierT, a1, a2])])
            ((go_wp2_with (at_builtin; refine stopAt ?_); refine stopGo ?_); have N2 : Sl ((wr.alloc (.cells #[.int .i64 u, .int .i64 v, .int .i64 t] 30)).alloc (.cells #[.int .i64 u, .int .i64 v, .int .i64 t] 30)) [] 3 (some ⟨(wr.alloc (.cells #[.int .i64 u, .int .i64 v, .int .i64 t] 30)).heap.size, 0, none⟩) 1 1 (ecells [(u, v, t)]) := e1_new (wr.alloc (.cells #[.int .i64 u, .int .i64 v, .int .i64 t] 30)) u v t; have O2 := (HO1.out).alloc (.cells #[.int .i64 u, .int .i64 v, .int .i64 t] 30); have hb2 := (hb1).alloc (hb1).size (.cells #[.int .i64 u, .int .i64 v, .int .i64 t] 30); have szl := hb2.size; (try rw [heap_alloc_size] at N2); generalize (wr.alloc (.cells #[.int .i64 u, .int .i64 v, .int .i64 t] 30)).alloc (.cells #[.int .i64 u, .int .i64 v, .int .i64 t] 30) = W2 at *; refine wpList_append_sl _ rfl (.tmp 29) (.tmp 31) _ rfl w.heap.size 30 ie _ 3 24 Try.underlying22 hie hze he1 he2 rfl (by omega) RV _ _ rfl O2 [] _ 1 1 (ecells [(u, v, t)]) rfl N2 ecells_one (by simp only [maxLen]; omega) (by omega) (by first | omega | (simp; done) | (simp; omega)) ?_; intro A5 c5 w5 own5 g5 _; rw [← ecells_append, ← HF.out] at own5; have hl5 : (G k).length + 1 = (G (k + 1)).length := (by rw [HF.out, List.length_append]; rfl); rw [hl5] at own5 ⊢; clear hl5; have hg5 := below_grown O2 g5 (Nat.le_refl _) (by first | omega | (simp; omega)); have hb5 := hb2.trans hg5; have OW5 := hide own5; clear own5 g5 hg5 O2 N2; go_wp2_with (fail); exact ⟨⟨k + 1, A5, c5, by omega, by go_num, rfl, hb5, OW5.out⟩, by simp [intOf]; omega⟩)
          · have HF := hide (show G (k + 1) = G k by rw [HU.out, if_neg (by simp [tierT, a2]), List.append_nil])
            (go_wp2_with (fail); obtain ⟨A6, c6, rfl⟩ := HRV.out; exact ⟨⟨k + 1, A6, c6, by omega, by go_num, by rw [HF.out], hb1, by rw [HF.out]; exact HO1.out⟩, by simp [intOf]; omega⟩)
        · have HF := hide (show G (k + 1) = G k by rw [HU.out, if_neg (by simp [tierT, a1]), List.append_nil])
          (go_wp2_with (fail); obtain ⟨A6, c6, rfl⟩ := HRV.out; exact ⟨⟨k + 1, A6, c6, by omega, by go_num, by rw [HF.out], hb1, by rw [HF.out]; exact HO1.out⟩, by simp [intOf]; omega⟩)
      · have hkm : k = m := by omega
        subst hkm
        rw [HE.out] at hown
        rw [HE.out]
        go_wp2_with (fail)
        go_ret
        exact ⟨Ao, co, rfl, own_sl hown [] (by simp), hbr⟩

/-- Whom a vertex is near. -/
def nearOf (v : Int) (e : E3) : List Int := if v = e.1 then [e.2.1] else if v = e.2.1 then [e.1] else []
def nearI (l : List E3) (v : Int) : List Int := l.flatMap (nearOf v)
def outN (n : Int) (l : List E3) (v : Int) : List Int := if (rightE n l && inN n v) = true then nearI l v else []
theorem nearI_step (l : List E3) (v : Int) {k : Nat} (h : k < l.length) : nearI (l.take (k + 1)) v = nearI (l.take k) v ++ nearOf v l[k] := by
  unfold nearI
  rw [List.take_succ_eq_append_getElem h, List.flatMap_append]; simp
theorem nearI_len (l : List E3) (v : Int) : (nearI l v).length ≤ l.length := by
  induction l with
  | nil => simp [nearI]
  | cons x l ih =>
    have : (nearOf v x).length ≤ 1 := by unfold nearOf; split <;> (try split) <;> simp
    have e : nearI (x :: l) v = nearOf v x ++ nearI l v := rfl
    rw [e, List.length_append, List.length_cons]; omega

set_option maxHeartbeats 1600000 in
theorem near_ok (l : List E3) (n v0 : Int) (M : List Nat) (A : Option Addr) (m c : Nat) (w : World) (hS : ESl w M A m c l) (hm : m ≤ 4096) :
    Calls Try.prog 13 #[.int .i64 n, .slice A m c, .int .i64 v0] w fun e w' => ∃ R d, e = .returned (.slice R (outN n l v0).length d) ∧ Sl w' [] 1 R (outN n l v0).length d (ints .i64 (outN n l v0)) ∧ Below w.heap.size w w' := by
  have q := fun W h => tright_any l M A n m c W h
  have qv := fun W => vertexT_any n v0 W
  unfold outN
  cases hr : rightE n l
  case false =>
    rw [hr] at q
    have Q := hide q
    clear q hr qv
    go_enter Try.func13, Try.ntmps13
    go_wp2_with (fail)
    refine (Q.out w hS).mono ?_
    rintro e w1 ⟨rfl, b1⟩
    go_wp2_with (fail)
    go_ret
    exact ⟨none, 0, rfl, Sl.nil_ _ _ _, b1⟩
  case true =>
    rw [hr] at q
    have Q := hide q
    clear q hr
    cases hv : inN n v0
    case false =>
      rw [hv] at qv
      have QV := hide qv
      clear qv hv
      go_enter Try.func13, Try.ntmps13
      go_wp2_with (fail)
      refine (Q.out w hS).mono ?_
      rintro e w1 ⟨rfl, b1⟩
      go_wp2_with (fail)
      refine (QV.out w1).mono ?_
      rintro e w2 ⟨rfl, b2⟩
      go_wp2_with (fail)
      go_ret
      exact ⟨none, 0, rfl, Sl.nil_ _ _ _, b1.trans (b2.mono b1.size)⟩
    case true =>
      rw [hv] at qv
      have QV := hide qv
      clear qv hv
      rw [if_pos (by rfl)]
      obtain ⟨ie, hie, hze, he1, he2⟩ := info_parts int_info
      have HL := hide hS.length
      obtain ⟨G, hG⟩ : ∃ G : Nat → List Int, G = fun k => nearI (l.take k) v0 := ⟨_, rfl⟩
      have H0 := hide (show G 0 = [] by rw [hG]; rfl)
      have HST := hide (show ∀ (k : Nat) (h : k < l.length), G (k + 1) = G k ++ nearOf v0 l[k] from fun k h => by rw [hG]; exact nearI_step l v0 h)
      have HLN := hide (show ∀ k, (G k).length ≤ k from fun k => by rw [hG]; exact Nat.le_trans (nearI_len (l.take k) v0) (List.length_take_le _ _))
      have HE := hide (show G m = nearI l v0 by rw [hG]; simp only []; rw [List.take_of_length_le (by have := HL.out; omega)])
      clear hG
      go_enter Try.func13, Try.ntmps13
      go_wp2_with (fail)
      refine (Q.out w hS).mono ?_
      rintro e w1 ⟨rfl, b1⟩
      go_wp2_with (fail)
      refine (QV.out w1).mono ?_
      rintro e w2 ⟨rfl, b2⟩
      have hb0 := b1.trans (b2.mono b1.size)
      clear b1 b2
      go_wp2_with (fail)
      go_loopw [7, 22] (fun a i wr => ∃ (k : Nat) (Ao : Option Addr) (co : Nat), k ≤ m ∧ i = .int .i64 k ∧ a = .slice Ao (G k).length co ∧ Below w.heap.size w wr ∧
          wr.ownsRow w.heap.size 3 1 (.slice Ao (G k).length co) (G k).length (ints .i64 (G k))) (fun _ i _ => m - (intOf i).toNat)
      case atStart => exact ⟨0, none, 0, Nat.zero_le _, rfl, by rw [H0.out]; rfl, hb0, by rw [H0.out]; exact World.ownsRow_nil w2 w.heap.size 3 1⟩
      case round =>
        obtain ⟨k, Ao, co, hk, rfl, rfl, hbr, hown⟩ := hrel
        have hSr : ESl wr M A m c l := hS.below hbr
        have hlen := HLN.out k
        by_cases hlt : k < m
        · have hx : k < l.length := by have := HL.out; omega
          obtain ⟨ad, rfl, had, _, c0, c1, c2⟩ := hSr.get hx
          have HU := hide (HST.out k hx)
          generalize l[k] = x at *
          obtain ⟨u, v, t⟩ := x
          simp only [] at c0 c1 c2
          have HOW := hide hown
          clear hown
          have HRV := hide (show ∃ A c, (Value.slice Ao (G k).length co) = .slice A (G k).length c from ⟨_, _, rfl⟩)
          generalize Value.slice Ao (G k).length co = RV at *
          have hb1 := hbr.alloc hbr.size (.cells #[.int .i64 u, .int .i64 v, .int .i64 t] 30)
          have HO1 := hide (HOW.out.alloc (.cells #[.int .i64 u, .int .i64 v, .int .i64 t] 30))
          by_cases a1 : v0 = u
          · have HF := hide (show G (k + 1) = G k ++ [v] by rw [HU.out]; unfold nearOf; rw [if_pos a1])
            have d1 : (v0 == u) = true := by simp [a1]
            clear a1
            ((go_wp2_with (at_builtin; refine stopAt ?_); refine stopGo ?_); have N2 : Sl ((wr.alloc (.cells #[.int .i64 u, .int .i64 v, .int .i64 t] 30)).alloc (.cells #[.int .i64 v] 3)) [] 1 (some ⟨(wr.alloc (.cells #[.int .i64 u, .int .i64 v, .int .i64 t] 30)).heap.size, 0, none⟩) 1 1 (ints .i64 [v]) := i1_new (wr.alloc (.cells #[.int .i64 u, .int .i64 v, .int .i64 t] 30)) v; have O2 := (HO1.out).alloc (.cells #[.int .i64 v] 3); have hb2 := (hb1).alloc (hb1).size (.cells #[.int .i64 v] 3); have szl := hb2.size; (try rw [heap_alloc_size] at N2); generalize (wr.alloc (.cells #[.int .i64 u, .int .i64 v, .int .i64 t] 30)).alloc (.cells #[.int .i64 v] 3) = W2 at *; refine wpList_append_sl _ rfl (.tmp 31) (.tmp 34) _ rfl w.heap.size 3 ie _ 1 8 Try.underlying33 hie hze he1 he2 rfl (by omega) RV _ _ rfl O2 [] _ 1 1 (ints .i64 [v]) rfl N2 ints_one (by simp only [maxLen]; omega) (by omega) (by first | omega | (simp; done) | (simp; omega)) ?_; intro A5 c5 w5 own5 g5 _; rw [← ints_append, ← HF.out] at own5; have hl5 : (G k).length + 1 = (G (k + 1)).length := (by rw [HF.out, List.length_append]; rfl); rw [hl5] at own5 ⊢; clear hl5; have hg5 := below_grown O2 g5 (Nat.le_refl _) (by first | omega | (simp; omega)); have hb5 := hb2.trans hg5; have OW5 := hide own5; clear own5 g5 hg5 O2 N2; go_wp2_with (fail); exact ⟨⟨k + 1, A5, c5, by omega, by go_num, rfl, hb5, OW5.out⟩, by simp [intOf]; omega⟩)
          · have d1 : (v0 == u) = false := by simp [a1]
            by_cases a2 : v0 = v
            · have HF := hide (show G (k + 1) = G k ++ [u] by rw [HU.out]; unfold nearOf; rw [if_neg a1, if_pos a2])
              have d2 : (v0 == v) = true := by simp [a2]
              clear a1 a2
              ((go_wp2_with (at_builtin; refine stopAt ?_); refine stopGo ?_); have N2 : Sl ((wr.alloc (.cells #[.int .i64 u, .int .i64 v, .int .i64 t] 30)).alloc (.cells #[.int .i64 u] 3)) [] 1 (some ⟨(wr.alloc (.cells #[.int .i64 u, .int .i64 v, .int .i64 t] 30)).heap.size, 0, none⟩) 1 1 (ints .i64 [u]) := i1_new (wr.alloc (.cells #[.int .i64 u, .int .i64 v, .int .i64 t] 30)) u; have O2 := (HO1.out).alloc (.cells #[.int .i64 u] 3); have hb2 := (hb1).alloc (hb1).size (.cells #[.int .i64 u] 3); have szl := hb2.size; (try rw [heap_alloc_size] at N2); generalize (wr.alloc (.cells #[.int .i64 u, .int .i64 v, .int .i64 t] 30)).alloc (.cells #[.int .i64 u] 3) = W2 at *; refine wpList_append_sl _ rfl (.tmp 40) (.tmp 43) _ rfl w.heap.size 3 ie _ 1 8 Try.underlying33 hie hze he1 he2 rfl (by omega) RV _ _ rfl O2 [] _ 1 1 (ints .i64 [u]) rfl N2 ints_one (by simp only [maxLen]; omega) (by omega) (by first | omega | (simp; done) | (simp; omega)) ?_; intro A5 c5 w5 own5 g5 _; rw [← ints_append, ← HF.out] at own5; have hl5 : (G k).length + 1 = (G (k + 1)).length := (by rw [HF.out, List.length_append]; rfl); rw [hl5] at own5 ⊢; clear hl5; have hg5 := below_grown O2 g5 (Nat.le_refl _) (by first | omega | (simp; omega)); have hb5 := hb2.trans hg5; have OW5 := hide own5; clear own5 g5 hg5 O2 N2; go_wp2_with (fail); exact ⟨⟨k + 1, A5, c5, by omega, by go_num, rfl, hb5, OW5.out⟩, by simp [intOf]; omega⟩)
            · have d2 : (v0 == v) = false := by simp [a2]
              have HF := hide (show G (k + 1) = G k by rw [HU.out]; unfold nearOf; rw [if_neg a1, if_neg a2, List.append_nil])
              clear a1 a2
              (go_wp2_with (fail); obtain ⟨A6, c6, rfl⟩ := HRV.out; exact ⟨⟨k + 1, A6, c6, by omega, by go_num, by rw [HF.out], hb1, by rw [HF.out]; exact HO1.out⟩, by simp [intOf]; omega⟩)
        · have hkm : k = m := by omega
          subst hkm
          rw [HE.out] at hown
          rw [HE.out]
          go_wp2_with (fail)
          go_ret
          exact ⟨Ao, co, rfl, own_sl hown [] (by simp), hbr⟩
end Go.Proofs.Ythhmlcckeipolaa
