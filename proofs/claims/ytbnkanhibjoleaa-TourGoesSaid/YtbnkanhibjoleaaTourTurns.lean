/-
  raftsmanlaw08.TourTurns walked.
-/
import Derived.Test.YtbnkanhibjoleaaTourAwake
import Derived.Test.YtbnkanhibjoleaaTPlain
namespace Go.Proofs.Ytbnkanhibjoleaa
open Go Go.RowKit
attribute [local go_sem] Heavy heavyUpon

theorem tverts_len {l : List Int} (h : isT l = true) : l.length + 1 = 2 * (vertsT l).length := by
  have h1 := tour_len h
  have h2 := verts_len l (isT_ne h)
  omega
theorem outV_in {l : List Int} (h : isT l = true) : outV l = vertsT l := by unfold outV; rw [if_pos h]
theorem outD_in {l : List Int} (h : isT l = true) : outD l = edgesT l := by unfold outD; rw [if_pos h]
theorem wf_from {l : List Int} (h : isT l = true) {u : Int} (hu : u ∈ l) (hwf : ∀ x ∈ l, (Lit.int .i64 x).wf = true) : ∀ x ∈ fromT l u, (Lit.int .i64 x).wf = true := fun x hx => hwf x (((fromT_spec h hu).2.2.2 x).1 hx)

set_option maxRecDepth 100000 in
set_option maxHeartbeats 6400000 in
theorem tturns_ok (l : List Int) (hwf : ∀ x ∈ l, (Lit.int .i64 x).wf = true) (v : Int) (A : Option Addr) (m c : Nat) (w : World) (hS : Sl w [] 1 A m c (ints .i64 l)) :
    Calls Try.prog 5 #[.slice A m c, .int .i64 v] w (Ret (.bool true) w) := by
  by_cases h1 : 60 < m
  · (go_enter Try.func5, Try.ntmps5)
    (go_wp2_with (fail); refine (wawake_ok _).mono ?_; rintro e x ⟨rfl, bx⟩; go_wp2_with (fail); go_ret; exact ⟨rfl, (Below.refl w.heap.size w).trans (bx.mono (Below.refl w.heap.size w).size)⟩)
  have hm : m ≤ 60 := by omega
  clear h1
  have HL := hide (show l.length = m by have := hS.len; simpa using this)
  have qr := fun W h => isT_any l hwf A m c W h (by omega)
  cases hr : isT l
  case false =>
    rw [hr] at qr
    have QR := hide qr
    clear qr hr hwf
    (go_enter Try.func5, Try.ntmps5)
    (go_wp2_with (fail); refine (QR.out w hS).mono ?_; rintro e w1 ⟨rfl, b1⟩; have S1 := hS.below b1)
    (go_wp2_with (fail); refine (wawake_ok _).mono ?_; rintro e x ⟨rfl, bx⟩; go_wp2_with (fail); go_ret; exact ⟨rfl, (b1).trans (bx.mono (b1).size)⟩)
  rw [hr] at qr
  have QR := hide qr
  clear qr
  have qu := fun W h => reroot_any l hwf v A m c W h (by omega)
  by_cases hv : v ∈ l
  case neg =>
    have e : outR l v = ([], 3) := by
      unfold outR
      rw [if_pos hr, if_neg (fun h => hv ((firstI_mem l v 0 (Int.le_refl _)).1 h))]
    rw [e] at qu
    have QU := hide qu
    clear qu e hv hr hwf
    (go_enter Try.func5, Try.ntmps5)
    (go_wp2_with (fail); refine (QR.out w hS).mono ?_; rintro e w1 ⟨rfl, b1⟩; have S1 := hS.below b1)
    go_wp2_with (fail)
    refine (QU.out w1 S1).mono ?_
    rintro e w2 ⟨R2, d2, rfl, _, b2⟩
    have hb2 := b1.trans (b2.mono b1.size)
    (go_wp2_with (fail); refine (wawake_ok _).mono ?_; rintro e x ⟨rfl, bx⟩; go_wp2_with (fail); go_ret; exact ⟨rfl, (hb2).trans (bx.mono (hb2).size)⟩)
  obtain ⟨hxl, hx0, _, hxm⟩ := fromT_spec hr hv
  obtain ⟨htx, hpx⟩ := from_tour hr hv
  have hwx := wf_from hr hv hwf
  rw [outR_in hr hv] at qu
  simp only [] at qu
  rw [show rotT l (firstI l v 0).toNat = fromT l v from rfl, hxl, HL.out] at qu
  have h0l : atI l 0 ∈ l := mem_atI.2 ⟨0, isT_ne hr, rfl⟩
  have h0x : atI l 0 ∈ fromT l v := (hxm _).2 h0l
  have hm0 : 0 < m := by have := isT_ne hr; have := HL.out; omega
  obtain ⟨hyl, hy0, _, hym⟩ := fromT_spec htx h0x
  obtain ⟨hty, hpy⟩ := from_tour htx h0x
  have hwy := wf_from htx h0x hwx
  have hpyl := hpy.trans hpx
  rw [HL.out] at hxl
  rw [hxl] at hyl
  have qv := fun W B d h => reroot_any (fromT l v) hwx (atI l 0) B m d W h (by omega)
  rw [outR_in htx h0x] at qv
  simp only [] at qv
  rw [show rotT (fromT l v) (firstI (fromT l v) (atI l 0) 0).toNat = fromT (fromT l v) (atI l 0) from rfl, hyl] at qv
  have qrx := fun W B d h => isT_any (fromT l v) hwx B m d W h (by omega)
  have qry := fun W B d h => isT_any (fromT (fromT l v) (atI l 0)) hwy B m d W h (by omega)
  rw [htx] at qrx
  rw [hty] at qry
  have qet := fun W h => edges_any l hwf A m c W h (by omega)
  have qex := fun W B d h => edges_any (fromT l v) hwx B m d W h (by omega)
  have qey := fun W B d h => edges_any (fromT (fromT l v) (atI l 0)) hwy B m d W h (by omega)
  rw [outD_in hr] at qet
  rw [outD_in htx] at qex
  rw [outD_in hty] at qey
  have qvt := fun W h => verts_any l hwf A m c W h (by omega)
  have qvx := fun W B d h => verts_any (fromT l v) hwx B m d W h (by omega)
  rw [outV_in hr] at qvt
  rw [outV_in htx] at qvx
  have hn1 := tverts_len hr
  have hn2 := tverts_len htx
  rw [HL.out] at hn1
  rw [hxl] at hn2
  have hn3 : (vertsT (fromT l v)).length = (vertsT l).length := by omega
  rw [hn3] at qvx
  have hel : (edgesT l).length ≤ 60 := by have := tour_len hr; have := HL.out; omega
  have hexl : (edgesT (fromT l v)).length ≤ 60 := by have := tour_len htx; omega
  have heyl : (edgesT (fromT (fromT l v) (atI l 0))).length ≤ 60 := by have := tour_len hty; omega
  have QDX := hide (fun W B d B' d' h h' => ledges_yes _ _ hpx (fun e he => edges_zero he) B B' (edgesT (fromT l v)).length d (edgesT l).length d' W h h' (by omega) (by omega))
  have QDY := hide (fun W B d B' d' h h' => ledges_yes _ _ hpyl (fun e he => edges_zero he) B B' (edgesT (fromT (fromT l v) (atI l 0))).length d (edgesT l).length d' W h h' (by omega) (by omega))
  have QU := hide qu
  have QV := hide qv
  have QRX := hide qrx
  have QRY := hide qry
  have QET := hide qet
  have QEX := hide qex
  have QEY := hide qey
  have QVT := hide qvt
  have QVX := hide qvx
  have HYL := hide hyl
  have HY0 := hide hy0
  clear qu qv qrx qry qet qex qey qvt qvx hpx hpy hpyl hn2 hn3 hel hexl heyl hty htx hxm hym hx0 h0x hwx hwy hr hwf hxl hyl hy0 h0l hv
  generalize fromT (fromT l v) (atI l 0) = Y at *
  generalize fromT l v = X at *
  generalize edgesT l = EL at *
  generalize edgesT X = EX at *
  generalize edgesT Y = EY at *
  generalize vertsT X = VX at *
  generalize hvl : vertsT l = VL at *
  clear hvl
  generalize hnn : VL.length = n1 at *
  clear hnn
  have hq : ((m : Int) == 2 * (n1 : Int) - 1) = true := by simp; omega
  obtain ⟨ad, hA, had, _, hc⟩ := hS.at_ hm0
  subst hA
  have hl0 : 0 < l.length := by have := HL.out; omega
  have c0 := hc 0 (.int .i64 l[0]) (ints_get hl0)
  rw [← atI_lt hl0, add_zero_] at c0
  clear hl0
  clear hc
  generalize atI l 0 = t0 at *
  (go_enter Try.func5, Try.ntmps5)
  (go_wp2_with (fail); refine (QR.out w hS).mono ?_; rintro e w1 ⟨rfl, b1⟩; have S1 := hS.below b1)
  go_wp2_with (fail)
  refine (QU.out w1 S1).mono ?_
  rintro e w2 ⟨R2, d2, rfl, N2, b2⟩
  have hb2 := b1.trans (b2.mono b1.size)
  have S2 := S1.below b2
  have e0 := (bcells hb2 ad had).trans c0
  clear b2 b1 S1
  go_wp2_with (fail)
  refine (QV.out w2 _ _ N2).mono ?_
  rintro e w3 ⟨R3, d3, rfl, N3, b3⟩
  have hb3 := hb2.trans (b3.mono hb2.size)
  have S3 := S2.below b3
  have N23 := N2.below b3
  have e1 := (bcells hb3 ad had).trans c0
  clear b3 S2 N2 hb2 e0 c0
  obtain ⟨yd, hY, hyd, _, hc⟩ := N3.at_ hm0
  subst hY
  have hl0 : 0 < Y.length := by have := HYL.out; omega
  have y0 := hc 0 (.int .i64 Y[0]) (ints_get hl0)
  rw [← atI_lt hl0, HY0.out, add_zero_] at y0
  clear hl0
  clear hc
  have had3 : ad.block < w3.heap.size := Nat.lt_of_lt_of_le had hb3.size
  go_wp2_with (fail)
  refine wp_region_lexD [1,8,28,30,31,35,37,38,42,45,53,60] (fun w' => Below (w3).heap.size (w3) w') (by kernel_rfl) (by kernel_rfl) (Below.refl _ _).drew ?_
  (repeat ((with_reducible refine wpLex_step (fun K hK => ?_)); go_simp; first | ((with_reducible refine hK _ _ ?_); clear hK K) | ((with_reducible apply Exists.intro); refine ⟨fun w' hw' => ?_, hK _ _ ?_⟩; (· (have hq := bcells hw'; apply valEq; (· (go_simp; first | done | (with_reducible rfl))); (· ((try go_bits); with_reducible rfl)))); clear hK K)))
  ((with_reducible refine wpLex_step (fun K hK => ?_)); go_simp; refine (QRX.out w3.drew _ _ N23.drew).mono ?_; rintro e w4 ⟨rfl, hbx⟩; have g4 := ((Below.refl w3.heap.size w3).drew).trans (hbx.mono ((Below.refl w3.heap.size w3).drew).size); refine ⟨_, rfl, g4, hK _ _ ?_⟩; clear hK K hbx)
  (repeat ((with_reducible refine wpLex_step (fun K hK => ?_)); go_simp; first | ((with_reducible refine hK _ _ ?_); clear hK K) | ((with_reducible apply Exists.intro); refine ⟨fun w' hw' => ?_, hK _ _ ?_⟩; (· (have hq := bcells hw'; apply valEq; (· (go_simp; first | done | (with_reducible rfl))); (· ((try go_bits); with_reducible rfl)))); clear hK K)))
  ((with_reducible refine wpLex_step (fun K hK => ?_)); go_simp; refine (QRY.out w4 _ _ (N3.below g4)).mono ?_; rintro e w5 ⟨rfl, hbx⟩; have g5 := (g4).trans (hbx.mono (g4).size); refine ⟨_, rfl, g5, hK _ _ ?_⟩; clear hK K hbx)
  (repeat ((with_reducible refine wpLex_step (fun K hK => ?_)); go_simp; first | ((with_reducible refine hK _ _ ?_); clear hK K) | ((with_reducible apply Exists.intro); refine ⟨fun w' hw' => ?_, hK _ _ ?_⟩; (· (have hq := bcells hw'; apply valEq; (· (go_simp; first | done | (with_reducible rfl))); (· ((try go_bits); with_reducible rfl)))); clear hK K)))
  ((with_reducible refine wpLex_step (fun K hK => ?_)); go_simp; refine (QEX.out w5 _ _ (N23.below g5)).mono ?_; rintro e w6 ⟨R5, d5, rfl, N5, hbx⟩; have g6 := (g5).trans (hbx.mono (g5).size); skip; refine ⟨_, rfl, g6, hK _ _ ?_⟩; clear hK K hbx)
  (have NX := N5; obtain ⟨R6, hR6⟩ : ∃ R6, R6 = R5 := ⟨_, rfl⟩; subst hR6; obtain ⟨d6, hd6⟩ : ∃ d6, d6 = d5 := ⟨_, rfl⟩; subst hd6; clear N5)
  (repeat ((with_reducible refine wpLex_step (fun K hK => ?_)); go_simp; first | ((with_reducible refine hK _ _ ?_); clear hK K) | ((with_reducible apply Exists.intro); refine ⟨fun w' hw' => ?_, hK _ _ ?_⟩; (· (have hq := bcells hw'; apply valEq; (· (go_simp; first | done | (with_reducible rfl))); (· ((try go_bits); with_reducible rfl)))); clear hK K)))
  ((with_reducible refine wpLex_step (fun K hK => ?_)); go_simp; refine (QET.out w6 (S3.below g6)).mono ?_; rintro e w7 ⟨R5, d5, rfl, N5, hbx⟩; have g7 := (g6).trans (hbx.mono (g6).size); have NX7 := NX.below hbx; refine ⟨_, rfl, g7, hK _ _ ?_⟩; clear hK K hbx)
  ((with_reducible refine wpLex_step (fun K hK => ?_)); go_simp; refine (QDX.out w7 _ _ _ _ NX7 N5).mono ?_; rintro e w8 ⟨rfl, hbx⟩; have g8 := (g7).trans (hbx.mono (g7).size); refine ⟨_, rfl, g8, hK _ _ ?_⟩; clear hK K hbx)
  clear NX NX7 N5
  (repeat ((with_reducible refine wpLex_step (fun K hK => ?_)); go_simp; first | ((with_reducible refine hK _ _ ?_); clear hK K) | ((with_reducible apply Exists.intro); refine ⟨fun w' hw' => ?_, hK _ _ ?_⟩; (· (have hq := bcells hw'; apply valEq; (· (go_simp; first | done | (with_reducible rfl))); (· ((try go_bits); with_reducible rfl)))); clear hK K)))
  ((with_reducible refine wpLex_step (fun K hK => ?_)); go_simp; refine (QEY.out w8 _ _ (N3.below g8)).mono ?_; rintro e w9 ⟨R5, d5, rfl, N5, hbx⟩; have g9 := (g8).trans (hbx.mono (g8).size); skip; refine ⟨_, rfl, g9, hK _ _ ?_⟩; clear hK K hbx)
  (have NX := N5; obtain ⟨R6, hR6⟩ : ∃ R6, R6 = R5 := ⟨_, rfl⟩; subst hR6; obtain ⟨d6, hd6⟩ : ∃ d6, d6 = d5 := ⟨_, rfl⟩; subst hd6; clear N5)
  (repeat ((with_reducible refine wpLex_step (fun K hK => ?_)); go_simp; first | ((with_reducible refine hK _ _ ?_); clear hK K) | ((with_reducible apply Exists.intro); refine ⟨fun w' hw' => ?_, hK _ _ ?_⟩; (· (have hq := bcells hw'; apply valEq; (· (go_simp; first | done | (with_reducible rfl))); (· ((try go_bits); with_reducible rfl)))); clear hK K)))
  ((with_reducible refine wpLex_step (fun K hK => ?_)); go_simp; refine (QET.out w9 (S3.below g9)).mono ?_; rintro e wa ⟨R5, d5, rfl, N5, hbx⟩; have ga := (g9).trans (hbx.mono (g9).size); have NX7 := NX.below hbx; refine ⟨_, rfl, ga, hK _ _ ?_⟩; clear hK K hbx)
  ((with_reducible refine wpLex_step (fun K hK => ?_)); go_simp; refine (QDY.out wa _ _ _ _ NX7 N5).mono ?_; rintro e wb ⟨rfl, hbx⟩; have gb := (ga).trans (hbx.mono (ga).size); refine ⟨_, rfl, gb, hK _ _ ?_⟩; clear hK K hbx)
  clear NX NX7 N5
  (repeat ((with_reducible refine wpLex_step (fun K hK => ?_)); go_simp; first | ((with_reducible refine hK _ _ ?_); clear hK K) | ((with_reducible apply Exists.intro); refine ⟨fun w' hw' => ?_, hK _ _ ?_⟩; (· (have hq := bcells hw'; apply valEq; (· (go_simp; first | done | (with_reducible rfl))); (· ((try go_bits); with_reducible rfl)))); clear hK K)))
  ((with_reducible refine wpLex_step (fun K hK => ?_)); go_simp; refine (QVX.out wb _ _ (N23.below gb)).mono ?_; rintro e wc ⟨R5, d5, rfl, N5, hbx⟩; have gc := (gb).trans (hbx.mono (gb).size); skip; refine ⟨_, rfl, gc, hK _ _ ?_⟩; clear hK K hbx)
  (repeat ((with_reducible refine wpLex_step (fun K hK => ?_)); go_simp; first | ((with_reducible refine hK _ _ ?_); clear hK K) | ((with_reducible apply Exists.intro); refine ⟨fun w' hw' => ?_, hK _ _ ?_⟩; (· (have hq := bcells hw'; apply valEq; (· (go_simp; first | done | (with_reducible rfl))); (· ((try go_bits); with_reducible rfl)))); clear hK K)))
  ((with_reducible refine wpLex_step (fun K hK => ?_)); go_simp; refine (QVT.out wc (S3.below gc)).mono ?_; rintro e wd ⟨R5, d5, rfl, N5, hbx⟩; have gd := (gc).trans (hbx.mono (gc).size); skip; refine ⟨_, rfl, gd, hK _ _ ?_⟩; clear hK K hbx)
  (repeat ((with_reducible refine wpLex_step (fun K hK => ?_)); go_simp; first | ((with_reducible refine hK _ _ ?_); clear hK K) | ((with_reducible apply Exists.intro); refine ⟨fun w' hw' => ?_, hK _ _ ?_⟩; (· (have hq := bcells hw'; apply valEq; (· (go_simp; first | done | (with_reducible rfl))); (· ((try go_bits); with_reducible rfl)))); clear hK K)))
  ((with_reducible refine wpLex_step (fun K hK => ?_)); go_simp; refine (QVT.out wd (S3.below gd)).mono ?_; rintro e we ⟨R5, d5, rfl, N5, hbx⟩; have ge := (gd).trans (hbx.mono (gd).size); skip; refine ⟨_, rfl, ge, hK _ _ ?_⟩; clear hK K hbx)
  (repeat ((with_reducible refine wpLex_step (fun K hK => ?_)); go_simp; first | ((with_reducible refine hK _ _ ?_); clear hK K) | ((with_reducible apply Exists.intro); refine ⟨fun w' hw' => ?_, hK _ _ ?_⟩; (· (have hq := bcells hw'; apply valEq; (· (go_simp; first | done | (with_reducible rfl))); (· ((try go_bits); with_reducible rfl)))); clear hK K)))
  ((with_reducible refine wpLex_step (fun K hK => ?_)); go_simp; refine (wawake_ok we).mono ?_; rintro e wf ⟨rfl, hbx⟩; have gf := (ge).trans (hbx.mono (ge).size); refine ⟨_, rfl, gf, hK _ _ ?_⟩; clear hK K hbx)
  (repeat ((with_reducible refine wpLex_step (fun K hK => ?_)); go_simp; first | ((with_reducible refine hK _ _ ?_); clear hK K) | ((with_reducible apply Exists.intro); refine ⟨fun w' hw' => ?_, hK _ _ ?_⟩; (· (have hq := bcells hw'; apply valEq; (· (go_simp; first | done | (with_reducible rfl))); (· ((try go_bits); with_reducible rfl)))); clear hK K)))
  refine wpLex_nil (fun _ => ?_)
  go_wp2_with (fail)
  go_ret
  exact ⟨rfl, hb3.trans (gf.mono hb3.size)⟩
end Go.Proofs.Ytbnkanhibjoleaa
