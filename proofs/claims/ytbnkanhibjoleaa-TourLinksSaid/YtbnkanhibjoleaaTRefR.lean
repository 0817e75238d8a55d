/-
  raftsmanref08.Right walked.
-/
import Derived.Test.YtbnkanhibjoleaaTRefW
namespace Go.Proofs.Ytbnkanhibjoleaa
open Go Go.RowKit
attribute [local go_sem] Heavy heavyUpon

theorem isT_no {l : List Int} {i : Nat} (h0 : 0 < i) (hi : i < l.length) (h : ¬ OkR l i) : isT l = false := by
  cases hr : isT l
  · rfl
  · exact absurd (okR_of hr h0 hi) h
theorem isT_open {l : List Int} (h : atI l 0 ≠ atI l (l.length - 1)) : isT l = false := by
  cases hr : isT l
  · rfl
  · exact absurd (isT_closed hr).symm h

theorem okR_first {l : List Int} {k m p e : Nat} (hF : firstI l (atI l k) 0 = k) (hm : l.length = m) (hp : p = k - 1) (hle : lastK l (atI l k) (-1) m = e) : OkR l k ↔ e + 1 < m ∧ atI l (e + 1) = atI l p := by
  unfold OkR
  rw [hm, hle, ← hp]
  constructor
  · rintro ⟨h, _⟩
    obtain ⟨e', h1, h2, h3⟩ := h hF
    have : e = e' := by omega
    subst this
    exact ⟨h2, h3⟩
  · rintro ⟨h1, h2⟩
    exact ⟨fun _ => ⟨e, rfl, h1, h2⟩, fun h => absurd hF h⟩
theorem okR_back {l : List Int} {k m p f : Nat} (hF : ¬ firstI l (atI l k) 0 = k) (hm : l.length = m) (hp : p = k - 1) (hf : firstI l (atI l p) 0 = f) :
    OkR l k ↔ atI l p ≠ atI l k ∧ f ≠ 0 ∧ lastK l (atI l p) (-1) m = (k : Int) - 1 ∧ atI l (f - 1) = atI l k := by
  unfold OkR
  rw [hm, ← hp, hf]
  constructor
  · rintro ⟨_, h⟩
    obtain ⟨h1, h2, h3, f', h4, h5⟩ := h hF
    have : f = f' := by omega
    subst this
    exact ⟨h1, by omega, h3, h5⟩
  · rintro ⟨h1, h2, h3, h4⟩
    exact ⟨fun h => absurd h hF, fun _ => ⟨h1, by omega, h3, f, rfl, h4⟩⟩

set_option maxRecDepth 100000 in
set_option maxHeartbeats 6400000 in
theorem refR_any (l : List Int) (A : Option Addr) (m c : Nat) (w : World) (hS : Sl w [] 1 A m c (ints .i64 l)) (hm : m ≤ 4096) :
    Calls Try.prog 21 #[.slice A m c] w (Ret (.bool (isT l)) w) := by
  have HL := hide (show l.length = m by have := hS.len; simpa using this)
  by_cases h0 : m = 0
  · subst h0
    have hl : l = [] := List.eq_nil_of_length_eq_zero HL.out
    subst hl
    go_enter Try.func21, Try.ntmps21
    go_wp2_with (fail)
    refine wp_region_lex [] (fun w' => ∀ p, w'.cell? p = w.cell? p) (by kernel_rfl) (by kernel_rfl) (fun _ => rfl) ?_
    (repeat ((with_reducible refine wpLex_step (fun K hK => ?_)); go_simp; first | ((with_reducible refine hK _ _ ?_); clear hK K) | ((with_reducible apply Exists.intro); refine ⟨fun w' hw' => ?_, hK _ _ ?_⟩; (· (apply valEq; (· (go_simp; first | done | (with_reducible rfl))); (· ((try go_bits); with_reducible rfl)))); clear hK K)))
    refine wpLex_nil (fun hw => ?_)
    go_wp2_with (fail)
    go_ret
    exact ⟨rfl, (Below.refl _ _).drew⟩
  obtain ⟨z, hz⟩ : ∃ z, z = m - 1 := ⟨_, rfl⟩
  have hzm : z < m := by omega
  have z1 : (1 : Int) ≤ (m : Int) := by omega
  have z2 : ((m : Int) - 1).toNat = z := by omega
  have z3 : (m : Int) - 1 < (m : Int) := by omega
  have z4 : ((m : Int) == 0) = false := by simpa using h0
  have z5 : (0 : Int) < (m : Int) := by omega
  have z6 : (m : Int) - 1 = (z : Int) := by omega
  have z7 : 0 < m := by omega
  have HZ := hide hz
  have hx0 : 0 < l.length := by have := HL.out; omega
  have hxz : z < l.length := by have := HL.out; omega
  have hSd := hS.drew
  obtain ⟨ad, hA, had, _, hc⟩ := hS.at_ (by omega)
  subst hA
  have c0 := hc 0 (.int .i64 (atI l 0)) (by rw [atI_lt hx0]; exact ints_get hx0)
  have cz := hc z (.int .i64 (atI l z)) (by rw [atI_lt hxz]; exact ints_get hxz)
  rw [add_zero_] at c0
  clear hc
  by_cases hcl : atI l 0 = atI l z
  case neg =>
    have HF := hide (isT_open (l := l) (by rw [HL.out, ← HZ.out]; exact hcl))
    have hd : (atI l 0 != atI l z) = true := by simpa using hcl
    generalize atI l 0 = x0 at *
    generalize atI l z = xz at *
    clear hcl hS hSd h0 hz
    go_enter Try.func21, Try.ntmps21
    go_wp2_with (fail)
    refine wp_region_lex [] (fun w' => ∀ p, w'.cell? p = w.cell? p) (by kernel_rfl) (by kernel_rfl) (fun _ => rfl) ?_
    (repeat ((with_reducible refine wpLex_step (fun K hK => ?_)); go_simp; first | ((with_reducible refine hK _ _ ?_); clear hK K) | ((with_reducible apply Exists.intro); refine ⟨fun w' hw' => ?_, hK _ _ ?_⟩; (· (apply valEq; (· (go_simp; first | done | (with_reducible rfl))); (· ((try go_bits); with_reducible rfl)))); clear hK K)))
    refine wpLex_nil (fun hw => ?_)
    clear c0 cz
    go_wp2_with (fail)
    go_ret
    exact ⟨congrArg (fun x => Ending.returned (.bool x)) HF.out.symm, (Below.refl _ _).drew⟩
  have HC := hide (fun h => isT_of (l := l) hx0 (by rw [HL.out, ← HZ.out]; exact hcl) h)
  rw [← hcl] at cz
  generalize atI l 0 = x0 at *
  have HQF := hide (fun v W h => first_any l v [] (some ad) m c W h)
  have HQL := hide (fun v W h => last_any l v [] (some ad) m c W h)
  clear hcl hz h0
  go_enter Try.func21, Try.ntmps21
  go_wp2_with (fail)
  refine wp_region_lex [] (fun w' => ∀ p, w'.cell? p = w.cell? p) (by kernel_rfl) (by kernel_rfl) (fun _ => rfl) ?_
  (repeat ((with_reducible refine wpLex_step (fun K hK => ?_)); go_simp; first | ((with_reducible refine hK _ _ ?_); clear hK K) | ((with_reducible apply Exists.intro); refine ⟨fun w' hw' => ?_, hK _ _ ?_⟩; (· (apply valEq; (· (go_simp; first | done | (with_reducible rfl))); (· ((try go_bits); with_reducible rfl)))); clear hK K)))
  refine wpLex_nil (fun hw => ?_)
  clear c0 cz z1 z2 z3 z4 z5 z6 hw
  go_wp2_with (fail)
  go_loopw [3] (fun i wr => ∃ k : Nat, 1 ≤ k ∧ k ≤ m ∧ i = .int .i64 k ∧ Below w.heap.size w wr ∧ Hid (∀ j, 0 < j → j < k → OkR l j)) (fun i _ => m - (intOf i).toNat)
  case atStart => exact ⟨1, Nat.le_refl _, by omega, rfl, (Below.refl _ _).drew, hide (fun j h1 h2 => by omega)⟩
  case round =>
    obtain ⟨k, hk1, hk, rfl, hbr, HO⟩ := hrel
    by_cases hlt : k < m
    · have Sr := hS.below hbr
      obtain ⟨ad', hA, had', _, hc⟩ := Sr.at_ (by omega)
      injection hA with hA
      subst hA
      have hkl : k < l.length := by have := HL.out; omega
      obtain ⟨p, hp⟩ : ∃ p, p = k - 1 := ⟨_, rfl⟩
      have hpl : p < l.length := by omega
      have ck := hc k (.int .i64 (atI l k)) (by rw [atI_lt hkl]; exact ints_get hkl)
      have cp := hc p (.int .i64 (atI l p)) (by rw [atI_lt hpl]; exact ints_get hpl)
      have i1 : (1 : Int) ≤ (k : Int) := by omega
      have i2 : ((k : Int) - 1).toNat = p := by omega
      have i3 : (k : Int) - 1 < (m : Int) := by omega
      have i4 : (k : Int) < (m : Int) := by omega
      have hxm : atI l k ∈ l := mem_atI.2 ⟨k, hkl, rfl⟩
      have hym : atI l p ∈ l := mem_atI.2 ⟨p, hpl, rfl⟩
      have HP := hide hp
      have HNO := hide (fun h => isT_no (l := l) (i := k) (by omega) hkl h)
      have HGO := hide (show OkR l k → ∀ j, 0 < j → j < k + 1 → OkR l j from fun h j h1 h2 => by
        by_cases hj : j = k
        · subst hj; exact h
        · exact HO.out j h1 (by omega))
      have QX := hide (fun W h => HQF.out (atI l k) W h)
      have QXL := hide (fun W h => HQL.out (atI l k) W h)
      have QY := hide (fun W h => HQF.out (atI l p) W h)
      have QYL := hide (fun W h => HQL.out (atI l p) W h)
      obtain ⟨le, hle, hlem, _, _⟩ := lastK_spec l (atI l k) (-1) m ⟨k, hlt, rfl⟩
      obtain ⟨f, hf, hfl, _, _⟩ := first_spec l (atI l p) 0 (Int.le_refl _) ((firstI_mem l _ 0 (Int.le_refl _)).2 hym)
      rw [Int.zero_add] at hf
      clear hxm hym HO HC
      by_cases hF : firstI l (atI l k) 0 = (k : Int)
      · -- it is named first here
        have hOk := okR_first hF HL.out hp hle
        rw [hF] at QX
        rw [hle] at QXL
        obtain ⟨e1, he1⟩ : ∃ e1, e1 = le + 1 := ⟨_, rfl⟩
        rw [← he1] at hOk
        have j2 : ((le : Int) + 1).toNat = e1 := by omega
        have j3 : (0 : Int) ≤ (le : Int) + 1 := by omega
        by_cases hend : e1 < m
        · have he1l : e1 < l.length := by have := HL.out; omega
          have ce := hc e1 (.int .i64 (atI l e1)) (by rw [atI_lt he1l]; exact ints_get he1l)
          have j4 : (le : Int) + 1 < (m : Int) := by omega
          have j5 : ¬ (m : Int) ≤ (le : Int) + 1 := by omega
          by_cases hpar : atI l e1 = atI l p
          · have HG := hide (HGO.out (hOk.2 ⟨hend, hpar⟩))
            rw [hpar] at ce
            clear hpar hend he1 hF hle hOk HGO HNO QY QYL hc HP hf hp
            generalize atI l k = x at *
            generalize atI l p = y at *
            ((go_wp2_with (fail); refine (QX.out _ Sr).mono ?_; rintro e w3 ⟨rfl, b3⟩; have S3 := Sr.below b3; have hb3 := hbr.trans (b3.mono hbr.size); have ck3 := (bcells b3 (ad.add k) (by rw [block_of_add]; exact had')).trans ck; have cp3 := (bcells b3 (ad.add p) (by rw [block_of_add]; exact had')).trans cp; clear ck cp); go_wp2_with (fail); refine (QXL.out _ S3).mono ?_; rintro e w4 ⟨rfl, b4⟩; have S4 := S3.below b4; have hb4 := hb3.trans (b4.mono hb3.size); have ck4 := (bcells b4 (ad.add k) (by rw [block_of_add]; exact Nat.lt_of_lt_of_le had' b3.size)).trans ck3; have cp4 := (bcells b4 (ad.add p) (by rw [block_of_add]; exact Nat.lt_of_lt_of_le had' b3.size)).trans cp3; (try have ce4 := (bcells b4 (ad.add e1) (by rw [block_of_add]; exact Nat.lt_of_lt_of_le had' b3.size)).trans ((bcells b3 (ad.add e1) (by rw [block_of_add]; exact had')).trans ce)); clear b3 b4 ck3 cp3; (try clear ce); go_wp2_with (fail); refine wp_region_lex [] (fun w' => ∀ p, w'.cell? p = w4.cell? p) (by kernel_rfl) (by kernel_rfl) (fun _ => rfl) ?_; (repeat ((with_reducible refine wpLex_step (fun K hK => ?_)); go_simp; first | ((with_reducible refine hK _ _ ?_); clear hK K) | ((with_reducible apply Exists.intro); refine ⟨fun w' hw' => ?_, hK _ _ ?_⟩; (· (apply valEq; (· (go_simp; first | done | (with_reducible rfl))); (· ((try go_bits); with_reducible rfl)))); clear hK K))); refine wpLex_nil (fun hw => ?_); clear hw ck4 cp4; (try clear ce4))
            go_wp2_with (fail)
            exact ⟨⟨k + 1, by omega, by omega, by go_num, hb4.drew, HG⟩, by simp [intOf]; omega⟩
          · have HF := hide (HNO.out (fun h => hpar (hOk.1 h).2))
            have hd : (atI l e1 != atI l p) = true := by simpa using hpar
            clear hpar hend he1 hF hle hOk HGO HNO QY QYL hc HP hf hp
            generalize atI l k = x at *
            generalize atI l p = y at *
            generalize atI l e1 = z at *
            ((go_wp2_with (fail); refine (QX.out _ Sr).mono ?_; rintro e w3 ⟨rfl, b3⟩; have S3 := Sr.below b3; have hb3 := hbr.trans (b3.mono hbr.size); have ck3 := (bcells b3 (ad.add k) (by rw [block_of_add]; exact had')).trans ck; have cp3 := (bcells b3 (ad.add p) (by rw [block_of_add]; exact had')).trans cp; clear ck cp); go_wp2_with (fail); refine (QXL.out _ S3).mono ?_; rintro e w4 ⟨rfl, b4⟩; have S4 := S3.below b4; have hb4 := hb3.trans (b4.mono hb3.size); have ck4 := (bcells b4 (ad.add k) (by rw [block_of_add]; exact Nat.lt_of_lt_of_le had' b3.size)).trans ck3; have cp4 := (bcells b4 (ad.add p) (by rw [block_of_add]; exact Nat.lt_of_lt_of_le had' b3.size)).trans cp3; (try have ce4 := (bcells b4 (ad.add e1) (by rw [block_of_add]; exact Nat.lt_of_lt_of_le had' b3.size)).trans ((bcells b3 (ad.add e1) (by rw [block_of_add]; exact had')).trans ce)); clear b3 b4 ck3 cp3; (try clear ce); go_wp2_with (fail); refine wp_region_lex [] (fun w' => ∀ p, w'.cell? p = w4.cell? p) (by kernel_rfl) (by kernel_rfl) (fun _ => rfl) ?_; (repeat ((with_reducible refine wpLex_step (fun K hK => ?_)); go_simp; first | ((with_reducible refine hK _ _ ?_); clear hK K) | ((with_reducible apply Exists.intro); refine ⟨fun w' hw' => ?_, hK _ _ ?_⟩; (· (apply valEq; (· (go_simp; first | done | (with_reducible rfl))); (· ((try go_bits); with_reducible rfl)))); clear hK K))); refine wpLex_nil (fun hw => ?_); clear hw ck4 cp4; (try clear ce4))
            (go_wp2_with (fail); go_ret; exact ⟨congrArg (fun x => Ending.returned (.bool x)) HF.out.symm, hb4.drew⟩)
        · have HF := hide (HNO.out (fun h => hend (hOk.1 h).1))
          have j5 : (m : Int) ≤ (le : Int) + 1 := by omega
          clear hend he1 hF hle hOk HGO HNO QY QYL hc HP hf hp
          generalize atI l k = x at *
          generalize atI l p = y at *
          ((go_wp2_with (fail); refine (QX.out _ Sr).mono ?_; rintro e w3 ⟨rfl, b3⟩; have S3 := Sr.below b3; have hb3 := hbr.trans (b3.mono hbr.size); have ck3 := (bcells b3 (ad.add k) (by rw [block_of_add]; exact had')).trans ck; have cp3 := (bcells b3 (ad.add p) (by rw [block_of_add]; exact had')).trans cp; clear ck cp); go_wp2_with (fail); refine (QXL.out _ S3).mono ?_; rintro e w4 ⟨rfl, b4⟩; have S4 := S3.below b4; have hb4 := hb3.trans (b4.mono hb3.size); have ck4 := (bcells b4 (ad.add k) (by rw [block_of_add]; exact Nat.lt_of_lt_of_le had' b3.size)).trans ck3; have cp4 := (bcells b4 (ad.add p) (by rw [block_of_add]; exact Nat.lt_of_lt_of_le had' b3.size)).trans cp3; (try have ce4 := (bcells b4 (ad.add e1) (by rw [block_of_add]; exact Nat.lt_of_lt_of_le had' b3.size)).trans ((bcells b3 (ad.add e1) (by rw [block_of_add]; exact had')).trans ce)); clear b3 b4 ck3 cp3; (try clear ce); go_wp2_with (fail); refine wp_region_lex [] (fun w' => ∀ p, w'.cell? p = w4.cell? p) (by kernel_rfl) (by kernel_rfl) (fun _ => rfl) ?_; (repeat ((with_reducible refine wpLex_step (fun K hK => ?_)); go_simp; first | ((with_reducible refine hK _ _ ?_); clear hK K) | ((with_reducible apply Exists.intro); refine ⟨fun w' hw' => ?_, hK _ _ ?_⟩; (· (apply valEq; (· (go_simp; first | done | (with_reducible rfl))); (· ((try go_bits); with_reducible rfl)))); clear hK K))); refine wpLex_nil (fun hw => ?_); clear hw ck4 cp4; (try clear ce4))
          (go_wp2_with (fail); go_ret; exact ⟨congrArg (fun x => Ending.returned (.bool x)) HF.out.symm, hb4.drew⟩)
      · have hOk := okR_back hF HL.out hp hf
        have hdF : (firstI l (atI l k) 0 == (k : Int)) = false := by simpa using hF
        generalize firstI l (atI l k) 0 = ff at *
        rw [hf] at QY
        clear hF hle QXL hf
        by_cases hxy : atI l p = atI l k
        · have HF := hide (HNO.out (fun h => (hOk.1 h).1 hxy))
          rw [hxy] at cp
          clear hxy hOk HGO HNO QY QYL hc HP hp
          generalize atI l k = x at *
          ((go_wp2_with (fail); refine (QX.out _ Sr).mono ?_; rintro e w3 ⟨rfl, b3⟩; have S3 := Sr.below b3; have hb3 := hbr.trans (b3.mono hbr.size); have ck3 := (bcells b3 (ad.add k) (by rw [block_of_add]; exact had')).trans ck; have cp3 := (bcells b3 (ad.add p) (by rw [block_of_add]; exact had')).trans cp; clear ck cp); (try have cg3 := (bcells b3 (ad.add g) (by rw [block_of_add]; exact had')).trans cg; clear cg); have hak3 : (ad.add k).block < w3.heap.size := (by rw [block_of_add]; exact Nat.lt_of_lt_of_le had' b3.size); have hap3 : (ad.add p).block < w3.heap.size := (by rw [block_of_add]; exact Nat.lt_of_lt_of_le had' b3.size); (try have hag3 : (ad.add g).block < w3.heap.size := (by rw [block_of_add]; exact Nat.lt_of_lt_of_le had' b3.size)); clear b3; go_wp2_with (fail); refine wp_region_lexD [9,15,24] (fun w' => Below (w3).heap.size (w3) w') (by kernel_rfl) (by kernel_rfl) (Below.refl _ _).drew ?_; (repeat ((with_reducible refine wpLex_step (fun K hK => ?_)); go_simp; first | ((with_reducible refine hK _ _ ?_); clear hK K) | ((with_reducible apply Exists.intro); refine ⟨fun w' hw' => ?_, hK _ _ ?_⟩; (· (have hq := bcells hw'; apply valEq; (· (go_simp; first | done | (with_reducible rfl))); (· ((try go_bits); with_reducible rfl)))); clear hK K))))
          refine wpLex_nil (fun _ => ?_)
          (go_wp2_with (fail); go_ret; exact ⟨congrArg (fun x => Ending.returned (.bool x)) HF.out.symm, hb3.drew⟩)
        have hdxy : (atI l p == atI l k) = false := by simpa using hxy
        by_cases hf0 : f = 0
        · have HF := hide (HNO.out (fun h => (hOk.1 h).2.1 hf0))
          subst hf0
          clear hxy hOk HGO HNO QYL hc HP hp
          generalize atI l k = x at *
          generalize atI l p = y at *
          ((go_wp2_with (fail); refine (QX.out _ Sr).mono ?_; rintro e w3 ⟨rfl, b3⟩; have S3 := Sr.below b3; have hb3 := hbr.trans (b3.mono hbr.size); have ck3 := (bcells b3 (ad.add k) (by rw [block_of_add]; exact had')).trans ck; have cp3 := (bcells b3 (ad.add p) (by rw [block_of_add]; exact had')).trans cp; clear ck cp); (try have cg3 := (bcells b3 (ad.add g) (by rw [block_of_add]; exact had')).trans cg; clear cg); have hak3 : (ad.add k).block < w3.heap.size := (by rw [block_of_add]; exact Nat.lt_of_lt_of_le had' b3.size); have hap3 : (ad.add p).block < w3.heap.size := (by rw [block_of_add]; exact Nat.lt_of_lt_of_le had' b3.size); (try have hag3 : (ad.add g).block < w3.heap.size := (by rw [block_of_add]; exact Nat.lt_of_lt_of_le had' b3.size)); clear b3; go_wp2_with (fail); refine wp_region_lexD [9,15,24] (fun w' => Below (w3).heap.size (w3) w') (by kernel_rfl) (by kernel_rfl) (Below.refl _ _).drew ?_; (repeat ((with_reducible refine wpLex_step (fun K hK => ?_)); go_simp; first | ((with_reducible refine hK _ _ ?_); clear hK K) | ((with_reducible apply Exists.intro); refine ⟨fun w' hw' => ?_, hK _ _ ?_⟩; (· (have hq := bcells hw'; apply valEq; (· (go_simp; first | done | (with_reducible rfl))); (· ((try go_bits); with_reducible rfl)))); clear hK K))))
          ((with_reducible refine wpLex_step (fun K hK => ?_)); go_simp; refine (QY.out w3.drew S3.drew).mono ?_; rintro e w4 ⟨rfl, hbx⟩; have g4 := ((Below.refl w3.heap.size w3).drew).trans (hbx.mono ((Below.refl w3.heap.size w3).drew).size); refine ⟨_, rfl, g4, hK _ _ ?_⟩; clear hK K hbx)
          (repeat ((with_reducible refine wpLex_step (fun K hK => ?_)); go_simp; first | ((with_reducible refine hK _ _ ?_); clear hK K) | ((with_reducible apply Exists.intro); refine ⟨fun w' hw' => ?_, hK _ _ ?_⟩; (· (have hq := bcells hw'; apply valEq; (· (go_simp; first | done | (with_reducible rfl))); (· ((try go_bits); with_reducible rfl)))); clear hK K)))
          refine wpLex_nil (fun _ => ?_)
          have hb4 := hb3.trans (g4.mono hb3.size)
          (go_wp2_with (fail); go_ret; exact ⟨congrArg (fun x => Ending.returned (.bool x)) HF.out.symm, hb4⟩)
        have hdf : ((f : Int) == 0) = false := by simpa using hf0
        by_cases hla : lastK l (atI l p) (-1) m = (k : Int) - 1
        case neg =>
          have HF := hide (HNO.out (fun h => hla (hOk.1 h).2.2.1))
          have hdl : (lastK l (atI l p) (-1) m != (k : Int) - 1) = true := by simpa using hla
          generalize lastK l (atI l p) (-1) m = la at *
          clear hxy hOk HGO HNO hc HP hp hf0 hla
          generalize atI l k = x at *
          generalize atI l p = y at *
          ((go_wp2_with (fail); refine (QX.out _ Sr).mono ?_; rintro e w3 ⟨rfl, b3⟩; have S3 := Sr.below b3; have hb3 := hbr.trans (b3.mono hbr.size); have ck3 := (bcells b3 (ad.add k) (by rw [block_of_add]; exact had')).trans ck; have cp3 := (bcells b3 (ad.add p) (by rw [block_of_add]; exact had')).trans cp; clear ck cp); (try have cg3 := (bcells b3 (ad.add g) (by rw [block_of_add]; exact had')).trans cg; clear cg); have hak3 : (ad.add k).block < w3.heap.size := (by rw [block_of_add]; exact Nat.lt_of_lt_of_le had' b3.size); have hap3 : (ad.add p).block < w3.heap.size := (by rw [block_of_add]; exact Nat.lt_of_lt_of_le had' b3.size); (try have hag3 : (ad.add g).block < w3.heap.size := (by rw [block_of_add]; exact Nat.lt_of_lt_of_le had' b3.size)); clear b3; go_wp2_with (fail); refine wp_region_lexD [9,15,24] (fun w' => Below (w3).heap.size (w3) w') (by kernel_rfl) (by kernel_rfl) (Below.refl _ _).drew ?_; (repeat ((with_reducible refine wpLex_step (fun K hK => ?_)); go_simp; first | ((with_reducible refine hK _ _ ?_); clear hK K) | ((with_reducible apply Exists.intro); refine ⟨fun w' hw' => ?_, hK _ _ ?_⟩; (· (have hq := bcells hw'; apply valEq; (· (go_simp; first | done | (with_reducible rfl))); (· ((try go_bits); with_reducible rfl)))); clear hK K))))
          ((with_reducible refine wpLex_step (fun K hK => ?_)); go_simp; refine (QY.out w3.drew S3.drew).mono ?_; rintro e w4 ⟨rfl, hbx⟩; have g4 := ((Below.refl w3.heap.size w3).drew).trans (hbx.mono ((Below.refl w3.heap.size w3).drew).size); refine ⟨_, rfl, g4, hK _ _ ?_⟩; clear hK K hbx)
          (repeat ((with_reducible refine wpLex_step (fun K hK => ?_)); go_simp; first | ((with_reducible refine hK _ _ ?_); clear hK K) | ((with_reducible apply Exists.intro); refine ⟨fun w' hw' => ?_, hK _ _ ?_⟩; (· (have hq := bcells hw'; apply valEq; (· (go_simp; first | done | (with_reducible rfl))); (· ((try go_bits); with_reducible rfl)))); clear hK K)))
          ((with_reducible refine wpLex_step (fun K hK => ?_)); go_simp; refine (QYL.out w4 (S3.below g4)).mono ?_; rintro e w5 ⟨rfl, hbx⟩; have g5 := (g4).trans (hbx.mono (g4).size); refine ⟨_, rfl, g5, hK _ _ ?_⟩; clear hK K hbx)
          (repeat ((with_reducible refine wpLex_step (fun K hK => ?_)); go_simp; first | ((with_reducible refine hK _ _ ?_); clear hK K) | ((with_reducible apply Exists.intro); refine ⟨fun w' hw' => ?_, hK _ _ ?_⟩; (· (have hq := bcells hw'; apply valEq; (· (go_simp; first | done | (with_reducible rfl))); (· ((try go_bits); with_reducible rfl)))); clear hK K)))
          refine wpLex_nil (fun _ => ?_)
          have hb4 := hb3.trans (g5.mono hb3.size)
          (go_wp2_with (fail); go_ret; exact ⟨congrArg (fun x => Ending.returned (.bool x)) HF.out.symm, hb4⟩)
        rw [hla] at QYL
        obtain ⟨g, hg⟩ : ∃ g, g = f - 1 := ⟨_, rfl⟩
        rw [← hg] at hOk
        have hgl : g < l.length := by omega
        have cg := hc g (.int .i64 (atI l g)) (by rw [atI_lt hgl]; exact ints_get hgl)
        have j1 : (1 : Int) ≤ (f : Int) := by omega
        have j2 : ((f : Int) - 1).toNat = g := by omega
        have j3 : (f : Int) - 1 < (m : Int) := by have := HL.out; omega
        by_cases hgk : atI l g = atI l k
        · have HG := hide (HGO.out (hOk.2 ⟨hxy, hf0, hla, hgk⟩))
          rw [hgk] at cg
          clear hxy hOk HGO HNO hc HP hp hf0 hla hg hgk
          generalize atI l k = x at *
          generalize atI l p = y at *
          ((go_wp2_with (fail); refine (QX.out _ Sr).mono ?_; rintro e w3 ⟨rfl, b3⟩; have S3 := Sr.below b3; have hb3 := hbr.trans (b3.mono hbr.size); have ck3 := (bcells b3 (ad.add k) (by rw [block_of_add]; exact had')).trans ck; have cp3 := (bcells b3 (ad.add p) (by rw [block_of_add]; exact had')).trans cp; clear ck cp); (try have cg3 := (bcells b3 (ad.add g) (by rw [block_of_add]; exact had')).trans cg; clear cg); have hak3 : (ad.add k).block < w3.heap.size := (by rw [block_of_add]; exact Nat.lt_of_lt_of_le had' b3.size); have hap3 : (ad.add p).block < w3.heap.size := (by rw [block_of_add]; exact Nat.lt_of_lt_of_le had' b3.size); (try have hag3 : (ad.add g).block < w3.heap.size := (by rw [block_of_add]; exact Nat.lt_of_lt_of_le had' b3.size)); clear b3; go_wp2_with (fail); refine wp_region_lexD [9,15,24] (fun w' => Below (w3).heap.size (w3) w') (by kernel_rfl) (by kernel_rfl) (Below.refl _ _).drew ?_; (repeat ((with_reducible refine wpLex_step (fun K hK => ?_)); go_simp; first | ((with_reducible refine hK _ _ ?_); clear hK K) | ((with_reducible apply Exists.intro); refine ⟨fun w' hw' => ?_, hK _ _ ?_⟩; (· (have hq := bcells hw'; apply valEq; (· (go_simp; first | done | (with_reducible rfl))); (· ((try go_bits); with_reducible rfl)))); clear hK K))))
          ((with_reducible refine wpLex_step (fun K hK => ?_)); go_simp; refine (QY.out w3.drew S3.drew).mono ?_; rintro e w4 ⟨rfl, hbx⟩; have g4 := ((Below.refl w3.heap.size w3).drew).trans (hbx.mono ((Below.refl w3.heap.size w3).drew).size); refine ⟨_, rfl, g4, hK _ _ ?_⟩; clear hK K hbx)
          (repeat ((with_reducible refine wpLex_step (fun K hK => ?_)); go_simp; first | ((with_reducible refine hK _ _ ?_); clear hK K) | ((with_reducible apply Exists.intro); refine ⟨fun w' hw' => ?_, hK _ _ ?_⟩; (· (have hq := bcells hw'; apply valEq; (· (go_simp; first | done | (with_reducible rfl))); (· ((try go_bits); with_reducible rfl)))); clear hK K)))
          ((with_reducible refine wpLex_step (fun K hK => ?_)); go_simp; refine (QYL.out w4 (S3.below g4)).mono ?_; rintro e w5 ⟨rfl, hbx⟩; have g5 := (g4).trans (hbx.mono (g4).size); refine ⟨_, rfl, g5, hK _ _ ?_⟩; clear hK K hbx)
          (repeat ((with_reducible refine wpLex_step (fun K hK => ?_)); go_simp; first | ((with_reducible refine hK _ _ ?_); clear hK K) | ((with_reducible apply Exists.intro); refine ⟨fun w' hw' => ?_, hK _ _ ?_⟩; (· (have hq := bcells hw'; apply valEq; (· (go_simp; first | done | (with_reducible rfl))); (· ((try go_bits); with_reducible rfl)))); clear hK K)))
          ((with_reducible refine wpLex_step (fun K hK => ?_)); go_simp; refine (QY.out w5 (S3.below g5)).mono ?_; rintro e w6 ⟨rfl, hbx⟩; have g6 := (g5).trans (hbx.mono (g5).size); refine ⟨_, rfl, g6, hK _ _ ?_⟩; clear hK K hbx)
          (repeat ((with_reducible refine wpLex_step (fun K hK => ?_)); go_simp; first | ((with_reducible refine hK _ _ ?_); clear hK K) | ((with_reducible apply Exists.intro); refine ⟨fun w' hw' => ?_, hK _ _ ?_⟩; (· (have hq := bcells hw'; apply valEq; (· (go_simp; first | done | (with_reducible rfl))); (· ((try go_bits); with_reducible rfl)))); clear hK K)))
          refine wpLex_nil (fun _ => ?_)
          have hb4 := hb3.trans (g6.mono hb3.size)
          go_wp2_with (fail)
          exact ⟨⟨k + 1, by omega, by omega, by go_num, hb4, HG⟩, by simp [intOf]; omega⟩
        · have HF := hide (HNO.out (fun h => hgk (hOk.1 h).2.2.2))
          have hdg : (atI l g != atI l k) = true := by simpa using hgk
          clear hxy hOk HGO HNO hc HP hp hf0 hla hg hgk
          generalize atI l k = x at *
          generalize atI l p = y at *
          generalize atI l g = z at *
          ((go_wp2_with (fail); refine (QX.out _ Sr).mono ?_; rintro e w3 ⟨rfl, b3⟩; have S3 := Sr.below b3; have hb3 := hbr.trans (b3.mono hbr.size); have ck3 := (bcells b3 (ad.add k) (by rw [block_of_add]; exact had')).trans ck; have cp3 := (bcells b3 (ad.add p) (by rw [block_of_add]; exact had')).trans cp; clear ck cp); (try have cg3 := (bcells b3 (ad.add g) (by rw [block_of_add]; exact had')).trans cg; clear cg); have hak3 : (ad.add k).block < w3.heap.size := (by rw [block_of_add]; exact Nat.lt_of_lt_of_le had' b3.size); have hap3 : (ad.add p).block < w3.heap.size := (by rw [block_of_add]; exact Nat.lt_of_lt_of_le had' b3.size); (try have hag3 : (ad.add g).block < w3.heap.size := (by rw [block_of_add]; exact Nat.lt_of_lt_of_le had' b3.size)); clear b3; go_wp2_with (fail); refine wp_region_lexD [9,15,24] (fun w' => Below (w3).heap.size (w3) w') (by kernel_rfl) (by kernel_rfl) (Below.refl _ _).drew ?_; (repeat ((with_reducible refine wpLex_step (fun K hK => ?_)); go_simp; first | ((with_reducible refine hK _ _ ?_); clear hK K) | ((with_reducible apply Exists.intro); refine ⟨fun w' hw' => ?_, hK _ _ ?_⟩; (· (have hq := bcells hw'; apply valEq; (· (go_simp; first | done | (with_reducible rfl))); (· ((try go_bits); with_reducible rfl)))); clear hK K))))
          ((with_reducible refine wpLex_step (fun K hK => ?_)); go_simp; refine (QY.out w3.drew S3.drew).mono ?_; rintro e w4 ⟨rfl, hbx⟩; have g4 := ((Below.refl w3.heap.size w3).drew).trans (hbx.mono ((Below.refl w3.heap.size w3).drew).size); refine ⟨_, rfl, g4, hK _ _ ?_⟩; clear hK K hbx)
          (repeat ((with_reducible refine wpLex_step (fun K hK => ?_)); go_simp; first | ((with_reducible refine hK _ _ ?_); clear hK K) | ((with_reducible apply Exists.intro); refine ⟨fun w' hw' => ?_, hK _ _ ?_⟩; (· (have hq := bcells hw'; apply valEq; (· (go_simp; first | done | (with_reducible rfl))); (· ((try go_bits); with_reducible rfl)))); clear hK K)))
          ((with_reducible refine wpLex_step (fun K hK => ?_)); go_simp; refine (QYL.out w4 (S3.below g4)).mono ?_; rintro e w5 ⟨rfl, hbx⟩; have g5 := (g4).trans (hbx.mono (g4).size); refine ⟨_, rfl, g5, hK _ _ ?_⟩; clear hK K hbx)
          (repeat ((with_reducible refine wpLex_step (fun K hK => ?_)); go_simp; first | ((with_reducible refine hK _ _ ?_); clear hK K) | ((with_reducible apply Exists.intro); refine ⟨fun w' hw' => ?_, hK _ _ ?_⟩; (· (have hq := bcells hw'; apply valEq; (· (go_simp; first | done | (with_reducible rfl))); (· ((try go_bits); with_reducible rfl)))); clear hK K)))
          ((with_reducible refine wpLex_step (fun K hK => ?_)); go_simp; refine (QY.out w5 (S3.below g5)).mono ?_; rintro e w6 ⟨rfl, hbx⟩; have g6 := (g5).trans (hbx.mono (g5).size); refine ⟨_, rfl, g6, hK _ _ ?_⟩; clear hK K hbx)
          (repeat ((with_reducible refine wpLex_step (fun K hK => ?_)); go_simp; first | ((with_reducible refine hK _ _ ?_); clear hK K) | ((with_reducible apply Exists.intro); refine ⟨fun w' hw' => ?_, hK _ _ ?_⟩; (· (have hq := bcells hw'; apply valEq; (· (go_simp; first | done | (with_reducible rfl))); (· ((try go_bits); with_reducible rfl)))); clear hK K)))
          refine wpLex_nil (fun _ => ?_)
          have hb4 := hb3.trans (g6.mono hb3.size)
          (go_wp2_with (fail); go_ret; exact ⟨congrArg (fun x => Ending.returned (.bool x)) HF.out.symm, hb4⟩)
    · obtain rfl : k = m := by omega
      have HF := hide (HC.out (fun i h1 h2 => HO.out i h1 (by have := HL.out; omega)))
      go_wp2_with (fail)
      go_ret
      exact ⟨congrArg (fun x => Ending.returned (.bool x)) HF.out.symm, hbr⟩
end Go.Proofs.Ytbnkanhibjoleaa
