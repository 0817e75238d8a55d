/-
  raftsmanlaw12.TableOrder walked.
-/
import Derived.Test.YthhmlcckeipolaaTabNear
namespace Go.Proofs.Ythhmlcckeipolaa
open Go Go.RowKit
attribute [local go_sem] Heavy heavyUpon

/-- Place k, counted down from the end, some places on. -/
def idxB (L b k : Nat) : Nat := (L - k + b) % L
theorem idxB_lt {L : Nat} (b k : Nat) (h : 0 < L) : idxB L b k < L := Nat.mod_lt _ h
theorem idxB_twice {L : Nat} (b : Nat) {p : Nat} (hp : p < L) : idxB L b (idxB L b p) = p := by
  have key : ∀ x, x ≤ L → (x + b) % L = (x + b % L) % L := fun x _ => by rw [Nat.add_mod, Nat.add_mod x (b % L), Nat.mod_mod]
  have hb : b % L < L := Nat.mod_lt _ (by omega)
  unfold idxB
  rw [key (L - p) (by omega)]
  have hq : (L - p + b % L) % L < L := Nat.mod_lt _ (by omega)
  rw [key (L - (L - p + b % L) % L) (by omega)]
  generalize b % L = c at *
  by_cases h : L - p + c < L
  · rw [Nat.mod_eq_of_lt h]
    rw [show L - (L - p + c) + c = p by omega]
    exact Nat.mod_eq_of_lt hp
  · have e : (L - p + c) % L = c - p := by
      rw [show L - p + c = (c - p) + L by omega, Nat.add_mod_right]
      exact Nat.mod_eq_of_lt (by omega)
    rw [e, show L - (c - p) + c = p + L by omega, Nat.add_mod_right]
    exact Nat.mod_eq_of_lt hp
theorem idxB_int {L : Nat} (b k : Nat) (h : k < L) : ((L : Int) - (k : Int) + (b : Int)) % (L : Int) = ((idxB L b k : Nat) : Int) := by
  unfold idxB
  rw [Int.natCast_emod]
  congr 1
  omega

/-- An edge of tier 0. -/
def zE (e : E3) : E3 := (e.1, e.2.1, 0)
/-- The first k edges of an order, each put where it belongs. -/
def ordL (l : List E3) (f : Nat → Nat) : Nat → List E3
  | 0 => []
  | k + 1 => insE (ordL l f k) (zE (l.getD (f k) (0, 0, 0)))
theorem ordL_len (l : List E3) (f : Nat → Nat) (k : Nat) : (ordL l f k).length = k := by
  induction k with
  | zero => rfl
  | succ k ih => rw [ordL, insE_len, ih]
theorem ordL_mem (l : List E3) (f : Nat → Nat) {k : Nat} {e : E3} : e ∈ ordL l f k ↔ ∃ j, j < k ∧ e = zE (l.getD (f j) (0, 0, 0)) := by
  induction k with
  | zero => simp [ordL]
  | succ k ih =>
    rw [ordL, insE_mem, ih]
    constructor
    · rintro (h | ⟨j, hj, h⟩)
      · exact ⟨k, by omega, h⟩
      · exact ⟨j, by omega, h⟩
    · rintro ⟨j, hj, h⟩
      by_cases hjk : j = k
      · subst hjk; exact .inl h
      · exact .inr ⟨j, by omega, h⟩
theorem getD_lt (l : List E3) {i : Nat} (h : i < l.length) : l.getD i (0, 0, 0) = l[i] := by simp [List.getD, List.getElem?_eq_getElem h]
theorem ord_step {n : Int} {l : List E3} (hr : rightE n l = true) (f : Nat → Nat) (hf : ∀ j, j < l.length → f j < l.length) (hi : ∀ i j, i < l.length → j < l.length → f i = f j → i = j) {k : Nat} (hk : k < l.length) (hrk : rightE n (ordL l f k) = true)
    {u v : Int} (huv : (u = (l[f k]'(hf k hk)).1 ∧ v = (l[f k]'(hf k hk)).2.1) ∨ (v = (l[f k]'(hf k hk)).1 ∧ u = (l[f k]'(hf k hk)).2.1)) :
    addE n (ordL l f k) u v = (ordL l f (k + 1), 0) ∧ rightE n (ordL l f (k + 1)) = true := by
  have hfk := hf k hk
  have he := right_edge hr (List.getElem_mem hfk)
  have hu : inN n u = true := inN_yes (by omega)
  have hv : inN n v = true := inN_yes (by omega)
  have hne : u ≠ v := by omega
  have hnf : ¬ 0 ≤ findI (ordL l f k) u v 0 := by
    rw [found_iff]
    rintro ⟨e, hm, hh⟩
    obtain ⟨j, hj, rfl⟩ := (ordL_mem l f).1 hm
    have hfj := hf j (by omega)
    rw [getD_lt l hfj, hitE_iff] at hh
    unfold zE at hh
    simp only [] at hh
    have hej := right_edge hr (List.getElem_mem hfj)
    have := sorted_ends (rightE_iff.1 hr).2.2 hfj hfk (by omega) (by omega)
    have := hi j k (by omega) hk this
    omega
  have hed : edgeE u v 0 = zE (l.getD (f k) (0, 0, 0)) := by
    rw [getD_lt l hfk]
    unfold edgeE zE
    split
    · rw [show u = (l[f k]'hfk).1 by omega, show v = (l[f k]'hfk).2.1 by omega]
    · rw [show v = (l[f k]'hfk).1 by omega, show u = (l[f k]'hfk).2.1 by omega]
  refine ⟨?_, ?_⟩
  · unfold addE
    rw [hrk, hu, hv, if_pos (by rfl), if_neg hne, if_neg hnf, hed]
    rfl
  · rw [ordL, ← hed]
    exact insE_right hrk hu hv hne hnf
theorem right_nil {n : Int} {l : List E3} (hr : rightE n l = true) : rightE n [] = true := rightE_iff.2 ⟨(rightE_iff.1 hr).1, by simp, by simp⟩
theorem ord_right {n : Int} {l : List E3} (hr : rightE n l = true) (f : Nat → Nat) (hf : ∀ j, j < l.length → f j < l.length) (hi : ∀ i j, i < l.length → j < l.length → f i = f j → i = j) : ∀ {k : Nat}, k ≤ l.length → rightE n (ordL l f k) = true := by
  intro k
  induction k with
  | zero => intro _; exact right_nil hr
  | succ k ih => intro hk; exact (ord_step hr f hf hi (show k < l.length by omega) (ih (by omega)) (.inl ⟨rfl, rfl⟩)).2
/-- Two lists in order with the same members are one. -/
theorem sorted_eq : ∀ {a b : List E3}, a.Pairwise (fun x y => ltE x y = true) → b.Pairwise (fun x y => ltE x y = true) → (∀ e, e ∈ a ↔ e ∈ b) → a = b
  | [], b, _, _, h => by
    cases b with
    | nil => rfl
    | cons y b => exact absurd ((h y).2 List.mem_cons_self) (by simp)
  | x :: a, [], _, _, h => absurd ((h x).1 List.mem_cons_self) (by simp)
  | x :: a, y :: b, ha, hb, h => by
    rw [List.pairwise_cons] at ha hb
    have hxx : ∀ z : E3, ltE z z = false := fun z => by rw [ltE_false]; omega
    have hxy : x = y := by
      rcases List.mem_cons.1 ((h x).1 List.mem_cons_self) with h1 | h1
      · exact h1
      · rcases List.mem_cons.1 ((h y).2 List.mem_cons_self) with h2 | h2
        · exact h2.symm
        · have := ltE_trans (hb.1 x h1) (ha.1 y h2)
          rw [hxx] at this; cases this
    subst hxy
    have hmem : ∀ e, e ∈ a ↔ e ∈ b := by
      intro e
      have he := h e
      rw [List.mem_cons, List.mem_cons] at he
      constructor
      · intro h1
        rcases he.1 (.inr h1) with h2 | h2
        · subst h2; have := ha.1 e h1; rw [hxx] at this; cases this
        · exact h2
      · intro h1
        rcases he.2 (.inr h1) with h2 | h2
        · subst h2; have := hb.1 e h1; rw [hxx] at this; cases this
        · exact h2
    rw [sorted_eq ha.2 hb.2 hmem]
theorem ord_all {n : Int} {l : List E3} (hr : rightE n l = true) (f : Nat → Nat) (hf : ∀ j, j < l.length → f j < l.length) (hi : ∀ j, j < l.length → f (f j) = j) : ordL l f l.length = l.map zE := by
  have hinj : ∀ i j, i < l.length → j < l.length → f i = f j → i = j := fun i j h1 h2 h => by rw [← hi i h1, ← hi j h2, h]
  refine sorted_eq (rightE_iff.1 (ord_right hr f hf hinj (Nat.le_refl _))).2.2 ?_ fun e => ?_
  · rw [List.pairwise_map]
    exact (rightE_iff.1 hr).2.2.imp fun {a b} h => by rw [ltE_iff] at h ⊢; exact h
  · rw [ordL_mem, List.mem_map]
    constructor
    · rintro ⟨j, hj, rfl⟩
      rw [getD_lt l (hf j hj)]
      exact ⟨_, List.getElem_mem _, rfl⟩
    · rintro ⟨x, hx, rfl⟩
      obtain ⟨j, hj, rfl⟩ := List.mem_iff_getElem.1 hx
      exact ⟨f j, hf j hj, by rw [hi j hj, getD_lt l hj]⟩

theorem cell_alloc {w : World} {p : Addr} {v : Value} (h : w.cell? p = some v) (o : Obj) : (w.alloc o).cell? p = some v :=
  (World.cell?_of_block (Below.heap_alloc w o _ (World.block_lt_of_cell? w p h))).trans h

set_option maxRecDepth 100000 in
set_option maxHeartbeats 6400000 in
theorem torder_ok (n a : Int) (ha : 0 ≤ a ∧ a ≤ 255) (l : List E3) (A : Option Addr) (m c : Nat) (w : World) (hS : ESl w [] A m c l) :
    Calls Try.prog 5 #[.int .i64 n, .slice A m c, .int .u8 a] w (Ret (.bool true) w) := by
  obtain ⟨a0, a1⟩ := ha
  obtain ⟨b, rfl⟩ := Int.eq_ofNat_of_zero_le a0
  by_cases h1 : 30 < m
  · (go_enter Try.func5, Try.ntmps5)
    (go_wp2_with (fail); refine (tawake_ok _).mono ?_; rintro e x ⟨rfl, bx⟩; go_wp2_with (fail); go_ret; exact ⟨rfl, (Below.refl w.heap.size w).trans (bx.mono (Below.refl w.heap.size w).size)⟩)
  have h1' : m ≤ 30 := by omega
  clear h1
  by_cases h3 : 60 < n
  · (go_enter Try.func5, Try.ntmps5)
    (go_wp2_with (fail); refine (tawake_ok _).mono ?_; rintro e x ⟨rfl, bx⟩; go_wp2_with (fail); go_ret; exact ⟨rfl, (Below.refl w.heap.size w).trans (bx.mono (Below.refl w.heap.size w).size)⟩)
  have h3' : n ≤ 60 := by omega
  clear h3
  have qr := fun W h => tright_any l [] A n m c W h
  cases hr : rightE n l
  case false =>
    rw [hr] at qr
    have QR := hide qr
    clear qr hr
    (go_enter Try.func5, Try.ntmps5)
    (go_wp2_with (fail); refine (QR.out w hS).mono ?_; rintro e w1 ⟨rfl, b1⟩; have S1 := hS.below b1)
    (go_wp2_with (fail); refine (tawake_ok _).mono ?_; rintro e x ⟨rfl, bx⟩; go_wp2_with (fail); go_ret; exact ⟨rfl, (b1).trans (bx.mono (b1).size)⟩)
  rw [hr] at qr
  have QR := hide qr
  clear qr
  have HL := hide hS.length
  have HR := hide hr
  have H1 := hide (fun (k : Nat) (hk : k < l.length) (x : E3) (hx : l[k] = x) => (ord_step hr (fun j => j) (fun j h => h) (fun i j _ _ h => h) hk (ord_right hr (fun j => j) (fun j h => h) (fun i j _ _ h => h) (Nat.le_of_lt hk)) (u := x.1) (v := x.2.1) (.inl ⟨by rw [← hx], by rw [← hx]⟩)).1)
  have HI := hide (show ∀ j, j < l.length → idxB m b j < l.length from fun j h => by rw [HL.out] at h ⊢; exact idxB_lt b j (by omega))
  have HII := hide (show ∀ j, j < l.length → idxB m b (idxB m b j) = j from fun j h => by rw [HL.out] at h; exact idxB_twice b h)
  have HIJ := hide (show ∀ i j, i < l.length → j < l.length → idxB m b i = idxB m b j → i = j from fun i j h1 h2 h => by rw [← HII.out i h1, ← HII.out j h2, h])
  have H2 := hide (fun (k : Nat) (hk : k < l.length) (x : E3) (hx : l[idxB m b k]'(HI.out k hk) = x) => (ord_step hr (idxB m b) HI.out HIJ.out hk (ord_right hr (idxB m b) HI.out HIJ.out (Nat.le_of_lt hk)) (u := x.2.1) (v := x.1) (.inr ⟨by rw [← hx], by rw [← hx]⟩)).1)
  have HA1 := hide (show ordL l (fun j => j) m = l.map zE by rw [← HL.out]; exact ord_all hr _ (fun j h => h) (fun j h => rfl))
  have HA2 := hide (show ordL l (idxB m b) m = l.map zE by
    have := ord_all hr (idxB m b) HI.out HII.out
    rwa [HL.out] at this)
  clear hr
  (go_enter Try.func5, Try.ntmps5)
  (go_wp2_with (fail); refine (QR.out w hS).mono ?_; rintro e w1 ⟨rfl, b1⟩; have S1 := hS.below b1)
  go_wp2_with (fail)
  go_loopw [7, 8, 34] (fun p q i wr => ∃ (k : Nat) (B : Option Addr) (cb : Nat) (D : Option Addr) (cd : Nat), k ≤ m ∧ i = .int .i64 k ∧ p = .slice B k cb ∧ q = .slice D k cd ∧ ESl wr [] B k cb (ordL l (fun j => j) k) ∧ ESl wr [] D k cd (ordL l (idxB m b) k) ∧ Below w.heap.size w wr) (fun _ _ i _ => m - (intOf i).toNat)
  case atStart => exact ⟨0, none, 0, none, 0, Nat.zero_le _, rfl, rfl, rfl, Sl.nil_ _ _ _, Sl.nil_ _ _ _, b1⟩
  case round =>
    obtain ⟨k, B, cb, D, cd, hk, rfl, rfl, rfl, SB, SD, hbr⟩ := hrel
    have Sr : ESl wr [] A m c l := hS.below hbr
    by_cases hlt : k < m
    · have hx : k < l.length := by have := HL.out; omega
      have hy := HI.out k hx
      obtain ⟨ad, rfl, had, _, c0, c1, c2⟩ := Sr.get hx
      have K1 := hide (H1.out k hx)
      obtain ⟨q, hq, hidx, k2⟩ : ∃ (q : Nat) (hq : q < l.length), ((m : Int) - (k : Int) + (b : Int)) % (m : Int) = (q : Int) ∧ ∀ x, l[q] = x → addE n (ordL l (idxB m b) k) x.2.1 x.1 = (ordL l (idxB m b) (k + 1), 0) := ⟨idxB m b k, hy, idxB_int b k hlt, H2.out k hx⟩
      have K2 := hide k2
      clear k2 hy
      have hql : q < m := by have := HL.out; omega
      have hqm : (q : Int) < (m : Int) := by omega
      generalize hxx : l[k] = x at *
      have qa := fun W (h : ESl W [] B k cb (ordL l (fun j => j) k)) => add_ok (ordL l (fun j => j) k) n x.1 x.2.1 B k cb W h (by omega)
      rw [K1.out x rfl] at qa
      obtain ⟨u, v, t⟩ := x
      simp only [] at c0 c1 c2 qa
      rw [ordL_len] at qa
      have QA := hide qa
      clear qa hxx
      have hb0 := hbr.alloc hbr.size (.cells #[.int .i64 u, .int .i64 v, .int .i64 t] 30)
      go_wp2_with (fail)
      refine (QA.out _ (SB.alloc _)).mono ?_
      rintro e w3 ⟨R3, d3, rfl, Z3, b3⟩
      have hb3 := hb0.trans (b3.mono hb0.size)
      have SD3 := (SD.alloc (.cells #[.int .i64 u, .int .i64 v, .int .i64 t] 30)).below b3
      have S3 : ESl w3 [] (some ad) m c l := (Sr.alloc (.cells #[.int .i64 u, .int .i64 v, .int .i64 t] 30)).below b3
      clear b3 c0 c1 c2 SD SB Sr
      obtain ⟨ad', hA, had', _, c0, c1, c2⟩ := S3.get hq
      injection hA with hA
      subst hA
      generalize hyy : l[q] = y at *
      have qd := fun W (h : ESl W [] D k cd (ordL l (idxB m b) k)) => add_ok (ordL l (idxB m b) k) n y.2.1 y.1 D k cd W h (by omega)
      rw [K2.out y rfl] at qd
      obtain ⟨u', v', t'⟩ := y
      simp only [] at c0 c1 c2 qd
      rw [ordL_len] at qd
      have QD := hide qd
      clear qd hyy
      have hb30 := hb3.alloc hb3.size (.cells #[.int .i64 u', .int .i64 v', .int .i64 t'] 30)
      go_wp2_with (fail)
      refine (QD.out _ (SD3.alloc _)).mono ?_
      rintro e w4 ⟨R4, d4, rfl, Z4, b4⟩
      have hb4 := hb30.trans (b4.mono hb30.size)
      have Z34 := (Z3.alloc (.cells #[.int .i64 u', .int .i64 v', .int .i64 t'] 30)).below b4
      clear b4 c0 c1 c2 hidx
      go_wp2_with (fail)
      exact ⟨⟨k + 1, R3, d3, R4, d4, by omega, by go_num, rfl, rfl, Z34, Z4, hb4⟩, by simp [intOf]; omega⟩
    · have hkm : k = m := by omega
      subst hkm
      rw [HA1.out] at SB
      rw [HA2.out] at SD
      go_wp2_with (fail)
      go_loopw [83] (fun i wx => ∃ j : Nat, j ≤ k ∧ i = .int .i64 j ∧ Below wr.heap.size wr wx) (fun i _ => k - (intOf i).toNat)
      case atStart => exact ⟨0, Nat.zero_le _, rfl, Below.refl _ _⟩
      case round =>
        obtain ⟨j, hj, rfl, hbx⟩ := hrel
        by_cases hjl : j < k
        · have hx : j < l.length := by have := HL.out; omega
          have hy : j < (l.map zE).length := by rw [List.length_map]; exact hx
          obtain ⟨yd, hY, hyd, _, e0, e1, e2⟩ := ESl.get (SB.below hbx) hy
          subst hY
          obtain ⟨ad, hA, had, _, c0, c1, c2⟩ := ESl.get (Sr.below hbx) hx
          subst hA
          rw [List.getElem_map] at e0 e1 e2
          generalize l[j] = x at *
          obtain ⟨u, v, t⟩ := x
          simp only [zE] at c0 c1 c2 e0 e1 e2
          have hb0 := hbx.alloc hbx.size (.cells #[.int .i64 u, .int .i64 v, .int .i64 0] 30)
          have cc0 := cell_alloc c0 (.cells #[.int .i64 u, .int .i64 v, .int .i64 0] 30)
          have cc1 := cell_alloc c1 (.cells #[.int .i64 u, .int .i64 v, .int .i64 0] 30)
          have cc2 := cell_alloc c2 (.cells #[.int .i64 u, .int .i64 v, .int .i64 0] 30)
          have B0 := Blk.new wr 30 #[.int .i64 u, .int .i64 v, .int .i64 0]
          obtain ⟨x0, x1, x2⟩ := B0.facts
          go_wp2_with (fail)
          generalize wr.alloc (.cells #[.int .i64 u, .int .i64 v, .int .i64 0] 30) = W0 at *
          refine wp_region_lex [] (fun w' => ∀ p, w'.cell? p = W0.cell? p) (by kernel_rfl) (by kernel_rfl) (fun _ => rfl) ?_
          (repeat ((with_reducible refine wpLex_step (fun K hK => ?_)); go_simp; first | ((with_reducible refine hK _ _ ?_); clear hK K) | ((with_reducible apply Exists.intro); refine ⟨fun w' hw' => ?_, hK _ _ ?_⟩; (· (apply valEq; (· (go_simp; first | done | (with_reducible rfl))); (· ((try go_bits); with_reducible rfl)))); clear hK K)))
          refine wpLex_nil (fun hw => ?_)
          go_wp2_with (fail)
          exact ⟨⟨j + 1, by omega, by go_num, hb0.drew⟩, by simp [intOf]; omega⟩
        · have hb5 := hbr.trans (hbx.mono hbr.size)
          have SB5 := SB.below hbx
          have SD5 := SD.below hbx
          go_wp2_with (fail)
          refine (esame_yes _ _ _ _ _ _ _ _ _ _ SB5 SD5).mono ?_
          rintro e w6 ⟨rfl, b6⟩
          have hb6 := hb5.trans (b6.mono hb5.size)
          (go_wp2_with (fail); refine (tawake_ok _).mono ?_; rintro e x ⟨rfl, bx⟩; go_wp2_with (fail); go_ret; exact ⟨rfl, (hb6).trans (bx.mono (hb6).size)⟩)
end Go.Proofs.Ythhmlcckeipolaa
