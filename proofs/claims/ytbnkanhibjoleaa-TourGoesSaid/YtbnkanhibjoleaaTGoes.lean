/-
  The law TourGoes walked.
-/
import Derived.Test.YtbnkanhibjoleaaTGo2
import Derived.Test.YtbnkanhibjoleaaTGoMid
import Derived.Deep.DeepCutAuto
import Derived.Deep.CutBlock
namespace Go.Proofs.Ytbnkanhibjoleaa
open Go Go.RowKit
attribute [local go_sem] Heavy heavyUpon
attribute [local go_sem ↓] edge_eql

theorem stopMid {P : Program} {c d : Code} {Q : Exit → Act → World → Prop} {a : Act} {w : World} (h : Stop (Code.wp P (Code.seq (Code.block 6 c) d) Q a w)) : Code.wp P (Code.seq (Code.block 6 c) d) Q a w := h

set_option maxRecDepth 100000 in
set_option maxHeartbeats 12800000 in
theorem tgoes_ok (l : List Stp) (A : Option Addr) (m c : Nat) (w : World) (hS : SSl w A m c l) :
    Calls Try.prog 4 #[.slice A m c] w (Ret (.bool true) w) := by
  by_cases h1 : 40 < m
  · (go_enter Try.func4, Try.ntmps4)
    (go_wp2_with (fail); refine (wawake_ok _).mono ?_; rintro e x ⟨rfl, bx⟩; go_wp2_with (fail); go_ret; exact ⟨rfl, (Below.refl w.heap.size w).trans (bx.mono (Below.refl w.heap.size w).size)⟩)
  have hm : m ≤ 40 := by omega
  clear h1
  have HL := hide hS.length
  obtain ⟨is_, his, hzs, hs1, hs2⟩ := info_parts slice_info
  have R0 := hide (TRow.nil w w.heap.size)
  have HS := hide hS
  clear hS
  (go_enter Try.func4, Try.ntmps4)
  go_wp2_with (fail)
  rw [show decide ((40 : Int) < (m : Int)) = false from decide_eq_false (by omega)]
  go_loopw [3, 29] (fun a i wr => ∃ (k : Nat) (B : Option Addr) (d : Nat), k ≤ 8 ∧ i = .int .i64 k ∧ a = .slice B k d ∧ Below w.heap.size w wr ∧ Hid (∃ ps, TRow wr w.heap.size (.slice B k d) ps (ts0 k))) (fun _ i _ => 8 - (intOf i).toNat)
  case atStart => exact ⟨0, none, 0, Nat.zero_le _, rfl, rfl, Below.refl _ _, ⟨[], R0.out⟩⟩
  case round =>
    clear R0
    obtain ⟨k, B, d, hk, rfl, rfl, hbr, HR⟩ := hrel
    obtain ⟨ps, hR⟩ := HR.out
    by_cases hlt : k < 8
    · have I1 := (i1_off wr k (own_lt hR.own)).alloc (.cells #[.slice (some ⟨wr.heap.size, 0, none⟩) 1 1] 22)
      have I2 := p1_new (wr.alloc (.cells #[.int .i64 k] 3)) (some ⟨wr.heap.size, 0, none⟩) 1 1
      rw [heap_alloc_size] at I2
      have hb2 := (hbr.alloc hbr.size (.cells #[.int .i64 k] 3)).alloc (hbr.alloc hbr.size (.cells #[.int .i64 k] 3)).size (.cells #[.slice (some ⟨wr.heap.size, 0, none⟩) 1 1] 22)
      have hR1 := hR.below (((Below.refl wr.heap.size wr).alloc (Nat.le_refl _) (.cells #[.int .i64 k] 3)).alloc (by simp) (.cells #[.slice (some ⟨wr.heap.size, 0, none⟩) 1 1] 22))
      have hro := hR1.own
      rw [ts0_len] at hro
      have HRO := hide hro
      have HI1 := hide I1
      have HR1 := hide hR1
      clear HR hR I1 hR1 hro
      (go_wp2_with (at_builtin; refine stopAt ?_); refine stopGo ?_)
      refine wpList_append_sl _ rfl (.tmp 32) (.tmp 35) _ rfl w.heap.size 22 is_ _ 1 24 Try.underlying32 his hzs hs1 hs2 rfl (by omega) _ _ _ rfl HRO.out [] _ 1 1 _ rfl I2 slice_one (by simp only [maxLen]; omega) (by omega) (by have := hb2.size; simpa using this) ?_
      intro A5 c5 w5 own5 g5 b5
      have H5 : Hid (∃ ps, TRow w5 w.heap.size (.slice A5 (k + 1) c5) ps (ts0 (k + 1))) := ⟨_, by rw [ts0_step]; exact HR1.out.push HI1.out (by rw [ts0_len]) own5 g5 b5⟩
      have hb5 := hb2.trans (below_grown HRO.out g5 (Nat.le_refl _) hb2.size)
      clear HRO HI1 HR1 own5 g5 b5 hb2 I2 hbr
      go_wp2_with (fail)
      exact ⟨⟨k + 1, A5, c5, by omega, by go_num, rfl, hb5, H5⟩, by simp [intOf]; omega⟩
    · obtain rfl : k = 8 := by omega
      obtain ⟨g, rfl, hT⟩ := hR.mem (ts0_len 8) (by omega)
      have HT : Hid (TMem wr w.heap.size g d ps (ts0 8) (.slice none 0 0) []) := hT
      have HF := hide frst0
      clear hT hR HR his hzs hs1 hs2
      go_wp2_with (fail)
      (try rw [show ((8 : Nat) : Int) = (8 : Int) from rfl])
      go_loopw [3, 4, 40] (fun a b i wr => ∃ (k g c n cV nV : Nat) (AV : Option Addr) (ts : List (List Int)) (es : List E3), k ≤ m ∧ i = .int .i64 k ∧ a = .slice (some ⟨g, 0, none⟩) n c ∧ b = .slice AV nV cV ∧ Hid (ts.length = n) ∧ Hid (es.length = nV) ∧ Hid (∃ ps, TMem wr w.heap.size g c ps ts (.slice AV nV cV) es) ∧ Hid (Frst ts es) ∧ Below w.heap.size w wr) (fun _ _ i _ => m - (intOf i).toNat)
      case atStart => exact ⟨0, g, d, 8, 0, 0, none, ts0 8, [], Nat.zero_le _, rfl, rfl, rfl, hide (ts0_len 8), hide rfl, ⟨ps, HT.out⟩, HF, hbr⟩
      case round =>
        clear HT HF hbr
        obtain ⟨k, g, c2, n, cV, nV, AV, ts, es, hk, rfl, rfl, rfl, HN, HNV, HTM, HF, hbr⟩ := hrel
        have hn8 : n + nV = 8 := by have := HF.out.many; have := HN.out; have := HNV.out; omega
        by_cases hlt : k < m
        · obtain ⟨ad, hA, had, s0, s1, s2, s3⟩ := SSl.get (HS.out.below hbr) (show k < l.length by have := HL.out; omega)
          rw [hA]
          generalize l[k]'(by have := HL.out; omega) = st at *
          obtain ⟨cut, root, u, v⟩ := st
          simp only [] at s0 s1 s2 s3
          obtain ⟨ps, hTM⟩ := HTM.out
          have hb0 := hbr.alloc hbr.size (.cells #[.bool cut, .bool root, .int .i64 u, .int .i64 v] 35)
          have T0 := hTM.below ((Below.refl wr.heap.size wr).alloc (Nat.le_refl _) (.cells #[.bool cut, .bool root, .int .i64 u, .int .i64 v] 35))
          have B0 := Blk.new wr 35 #[.bool cut, .bool root, .int .i64 u, .int .i64 v]
          have HT0 := hide T0
          have HB0 := hide B0
          clear hTM HTM T0 B0
          by_cases hu0 : u < 0
          · (go_wp2_with (fail); refine (wawake_ok _).mono ?_; rintro e w4 ⟨rfl, b4⟩; go_wp2_with (fail); go_ret; exact ⟨rfl, hb0.trans (b4.mono hb0.size)⟩)
          by_cases hv0 : v < 0
          · (go_wp2_with (fail); refine (wawake_ok _).mono ?_; rintro e w4 ⟨rfl, b4⟩; go_wp2_with (fail); go_ret; exact ⟨rfl, hb0.trans (b4.mono hb0.size)⟩)
          by_cases hu7 : 7 < u
          · (go_wp2_with (fail); refine (wawake_ok _).mono ?_; rintro e w4 ⟨rfl, b4⟩; go_wp2_with (fail); go_ret; exact ⟨rfl, hb0.trans (b4.mono hb0.size)⟩)
          by_cases hv7 : 7 < v
          · (go_wp2_with (fail); refine (wawake_ok _).mono ?_; rintro e w4 ⟨rfl, b4⟩; go_wp2_with (fail); go_ret; exact ⟨rfl, hb0.trans (b4.mono hb0.size)⟩)
          have HUV := hide (show (0 ≤ u ∧ u ≤ 7) ∧ 0 ≤ v ∧ v ≤ 7 by omega)
          obtain ⟨i, hi, ei, hui⟩ := findT_spec (u := u) (k := 0) (HF.out.every u HUV.out.1.1 HUV.out.1.2)
          obtain ⟨j, hj, ej, hvj⟩ := findT_spec (u := v) (k := 0) (HF.out.every v HUV.out.2.1 HUV.out.2.2)
          rw [Int.zero_add] at ei ej
          have QI := hide (fun W (h : TMem W w.heap.size g c2 ps ts (.slice AV nV cV) es) => (by rw [← ei]; exact at_any w.heap.size g c2 n ps ts (.slice AV nV cV) es u W h HN.out : Calls Try.prog 12 #[.slice (some ⟨g, 0, none⟩) n c2, .int .i64 u] W (Ret (.int .i64 i) W)))
          have QJ := hide (fun W (h : TMem W w.heap.size g c2 ps ts (.slice AV nV cV) es) => (by rw [← ej]; exact at_any w.heap.size g c2 n ps ts (.slice AV nV cV) es v W h HN.out : Calls Try.prog 12 #[.slice (some ⟨g, 0, none⟩) n c2, .int .i64 v] W (Ret (.int .i64 j) W)))
          have hin : i < n := by have := HN.out; omega
          have hjn : j < n := by have := HN.out; omega
          have HUI := hide (show ∃ h : i < ts.length, u ∈ ts[i] from ⟨hi, hui⟩)
          have HVJ := hide (show ∃ h : j < ts.length, v ∈ ts[j] from ⟨hj, hvj⟩)
          have HIJ : Hid (i = j ↔ findT ts u 0 = findT ts v 0) := by show _ ↔ _; rw [ei, ej]; omega
          clear hi hj ei ej hui hvj
          go_wp2_with (fail)
          clear s0 s1 s2 s3 had
          generalize wr.alloc (.cells #[.bool cut, .bool root, .int .i64 u, .int .i64 v] 35) = W0 at *
          generalize wr.heap.size = b7 at *
          obtain ⟨y0, y1, y2⟩ := HB0.out.facts
          refine wp_region_lexD [3,7] (fun w' => Below (W0).heap.size (W0) w') (by kernel_rfl) (by kernel_rfl) (Below.refl _ _).drew ?_
          (repeat ((with_reducible refine wpLex_step (fun K hK => ?_)); go_simp; first | ((with_reducible refine hK _ _ ?_); clear hK K) | ((with_reducible apply Exists.intro); refine ⟨fun w' hw' => ?_, hK _ _ ?_⟩; (· (have hq := bcells hw'; apply valEq; (· (go_simp; first | done | (with_reducible rfl))); (· ((try go_bits); with_reducible rfl)))); clear hK K)))
          ((with_reducible refine wpLex_step (fun K hK => ?_)); go_simp; refine (QI.out _ (HT0.out.below (Below.refl W0.heap.size W0).drew)).mono ?_; rintro e w1 ⟨rfl, hbx⟩; have g1 := ((Below.refl W0.heap.size W0).drew).trans (hbx.mono ((Below.refl W0.heap.size W0).drew).size); refine ⟨_, rfl, g1, hK _ _ ?_⟩; clear hK K hbx)
          (repeat ((with_reducible refine wpLex_step (fun K hK => ?_)); go_simp; first | ((with_reducible refine hK _ _ ?_); clear hK K) | ((with_reducible apply Exists.intro); refine ⟨fun w' hw' => ?_, hK _ _ ?_⟩; (· (have hq := bcells hw'; apply valEq; (· (go_simp; first | done | (with_reducible rfl))); (· ((try go_bits); with_reducible rfl)))); clear hK K)))
          ((with_reducible refine wpLex_step (fun K hK => ?_)); go_simp; refine (QJ.out _ (HT0.out.below g1)).mono ?_; rintro e W2 ⟨rfl, hbx⟩; have g2 := (g1).trans (hbx.mono (g1).size); refine ⟨_, rfl, g2, hK _ _ ?_⟩; clear hK K hbx)
          (repeat ((with_reducible refine wpLex_step (fun K hK => ?_)); go_simp; first | ((with_reducible refine hK _ _ ?_); clear hK K) | ((with_reducible apply Exists.intro); refine ⟨fun w' hw' => ?_, hK _ _ ?_⟩; (· (have hq := bcells hw'; apply valEq; (· (go_simp; first | done | (with_reducible rfl))); (· ((try go_bits); with_reducible rfl)))); clear hK K)))
          refine wpLex_nil (fun _ => ?_)
          have HT2 := hide (HT0.out.below g2)
          have HB2 := hide (HB0.out.below g2 HB0.out.lt)
          have hb2 := hb0.trans (g2.mono hb0.size)
          clear y0 y1 y2 g1 g2 HT0 HB0 hb0 QI QJ
          obtain ⟨y0, y1, y2⟩ := HB2.out.facts
          obtain ⟨p, q, hpq, hpq2⟩ : ∃ p q, mkE u v = (p, q, 0) ∧ ((u ≤ v ∧ p = u ∧ q = v) ∨ (v < u ∧ p = v ∧ q = u)) := by
            unfold mkE
            by_cases h : u < v
            · rw [if_pos h]; exact ⟨u, v, rfl, .inl ⟨by omega, rfl, rfl⟩⟩
            · rw [if_neg h]
              by_cases h2 : v < u
              · exact ⟨v, u, rfl, .inr ⟨h2, rfl, rfl⟩⟩
              · have : u = v := by omega
                subst this; exact ⟨u, u, rfl, .inl ⟨by omega, rfl, rfl⟩⟩
          have HPQ := hide hpq
          have HPQ2 := hide hpq2
          clear hpq hpq2
          go_upto_region 18 with (fail)
          go_cut [10] (fun b wx => b = .pointer (some ⟨W2.heap.size, 0, none⟩) ∧ wx = W2.alloc (.cells #[.int .i64 p, .int .i64 q, .int .i64 0] 38))
          case first =>
            rcases HPQ2.out with ⟨h, rfl, rfl⟩ | ⟨h, rfl, rfl⟩
            · go_wp2_with (fail)
              all_goals first | (go_meet; exact ⟨rfl, rfl⟩) | (obtain rfl : p = q := (by omega); go_meet; exact ⟨rfl, rfl⟩)
            · go_wp2_with (fail)
              all_goals first | (go_meet; exact ⟨rfl, rfl⟩) | (obtain rfl : p = q := (by omega); go_meet; exact ⟨rfl, rfl⟩)
          case rest =>
            obtain ⟨rfl, rfl⟩ := hcut
            have HT3 := hide (HT2.out.below ((Below.refl W2.heap.size W2).alloc (Nat.le_refl _) (.cells #[.int .i64 p, .int .i64 q, .int .i64 0] 38)))
            have HB3 := hide (HB2.out.alloc (.cells #[.int .i64 p, .int .i64 q, .int .i64 0] 38))
            have HE3 := hide (Blk.new W2 38 #[.int .i64 p, .int .i64 q, .int .i64 0])
            have hb3 := hb2.alloc hb2.size (.cells #[.int .i64 p, .int .i64 q, .int .i64 0] 38)
            clear y0 y1 y2 HT2 HB2 hb2
            generalize W2.alloc (.cells #[.int .i64 p, .int .i64 q, .int .i64 0] 38) = W3 at *
            generalize W2.heap.size = b10 at *
            go_wp2_with (fail)
            go_loopw [11, 90] (fun a i wr => ∃ x : Nat, x ≤ nV ∧ i = .int .i64 x ∧ a = .int .i64 (thereI es (p, q, 0) x) ∧ Below W3.heap.size W3 wr) (fun _ i _ => nV - (intOf i).toNat)
            case atStart => exact ⟨0, Nat.zero_le _, rfl, rfl, Below.refl _ _⟩
            case round =>
              obtain ⟨x, hx, rfl, rfl, hbx⟩ := hrel
              by_cases hxl : x < nV
              · have hxe : x < es.length := by have := HNV.out; omega
                obtain ⟨ed, hED, hed, _, c0, c1, c2'⟩ := ESl.get ((HT3.out.below hbx).esl HNV.out) hxe
                obtain ⟨z0, z1, z2⟩ := ((HE3.out.below hbx HE3.out.lt).alloc (.cells #[.int .i64 es[x].1, .int .i64 es[x].2.1, .int .i64 es[x].2.2] 38)).facts
                have hbx2 := hbx.alloc hbx.size (.cells #[.int .i64 es[x].1, .int .i64 es[x].2.1, .int .i64 es[x].2.2] 38)
                have HK := hide (show thereI es (p, q, 0) (x + 1) = if es[x] = (p, q, 0) then (x : Int) else thereI es (p, q, 0) x by
                  rw [thereI]; simp [List.getD, List.getElem?_eq_getElem hxe])
                generalize es[x] = ex at *
                generalize thereI es (p, q, 0) x = th at *
                rw [hED]
                by_cases hee : ex = (p, q, 0)
                · have HF2 := hide (show thereI es (p, q, 0) (x + 1) = (x : Int) by rw [HK.out, if_pos hee])
                  have hn := ene_eq hee
                  obtain ⟨x0, x1, x2⟩ := ex
                  simp only [] at c0 c1 c2' z0 z1 z2 hbx2 hn
                  clear hee HK
                  go_wp2_with (fail)
                  exact ⟨⟨x + 1, by omega, by go_num, by rw [HF2.out], hbx2⟩, by simp [intOf]; omega⟩
                · have HF2 := hide (show thereI es (p, q, 0) (x + 1) = th by rw [HK.out, if_neg hee])
                  have hn := ene_ne hee
                  obtain ⟨x0, x1, x2⟩ := ex
                  simp only [] at c0 c1 c2' z0 z1 z2 hbx2 hn
                  clear hee HK
                  go_wp2_with (fail)
                  exact ⟨⟨x + 1, by omega, by go_num, by rw [HF2.out], hbx2⟩, by simp [intOf]; omega⟩
              · obtain rfl : x = nV := by omega
                have htr := HT3.out.below hbx
                have hbtr := HB3.out.below hbx HB3.out.lt
                have hetr := HE3.out.below hbx HE3.out.lt
                have hbr2 := hb3.trans (hbx.mono hb3.size)
                obtain ⟨hi, hui⟩ := HUI.out
                obtain ⟨hj, hvj⟩ := HVJ.out
                have HALL := hide (And.intro htr (And.intro hbtr (And.intro hetr (And.intro hui hvj))))
                clear htr hbtr hetr hui hvj
                go_upto_block 6 with (fail)
                rename_i K6 hK6
                refine go_switch _ _ _ _ _ _ _ _ _ _ _ _ _ _ _ cut root u v p q HN.out HNV.out hn8 HALL.out.1 HF.out HALL.out.2.1 HALL.out.2.2.1 HPQ.out HUV.out.1 HUV.out.2 hbr2.size hi hj HALL.out.2.2.2.1 HALL.out.2.2.2.2 HIJ.out _ _ _ _ _ _ _ _ _ _ _ _ _ _ _ _ _ _ _ _ _ _ _ _ _ _ _ _ _ _ _ _ _ _ _ _ _ _ _ _ _ _ _ _ _ _ _ _ _ _ _ _ _ _ _ _ _ _ _ _ _ _ _ _ _ _ _ _ _ _ _ _ _ _ _ _ _ _ _ _ _ _ _ _ _ _ _ _ _ _ _ _ _ _ _ _ _ _ _ _ _ _ _ _ _ _ _ _ _ _ _ _ _ _ _ _ _ _ _ _ _ _ _ _ _ _ _ _ _ _ _ _ _ _ _ _ _ _ _ _ _ _ _ _ _ _ _ _ _ _ _ _ _ _ _ _ _ _ _ _ _ _ _ _ _ _ _ _ _ _ _ _ _ _ _ _ _ _ _ _ _ _ _ _ _ _ _ _ _ _ _ _ _ _ _ _ _ _ _ _ _ _ _ _ _ _ _ _ _ _ _ _ _ _ _ _ _ _ _ _ _ _ _ _ _ _ _ _ _ _ _ _ _ _ _ _ _ _ _ _ _ _ _ _ _ _ _ _ _ _ _ _ _ _ _ _ _ _ _ _ _ _ _ _ _ ?_
                intro s3 s4 z2 z14 z15 z16 z17 z18 z19 z20 z100 z101 z102 z103 z104 z105 z106 z107 z108 z109 z110 z111 z112 z113 z114 z115 z116 z117 z118 z119 z120 z121 z122 z123 z124 z125 z126 z127 z128 z129 z130 z131 z132 z133 z134 z135 z136 z137 z138 z139 z140 z141 z142 z143 z144 z145 z146 z147 z148 z149 z150 z151 z152 z153 z154 z155 z156 z157 z158 z159 z160 z161 z162 z163 z164 z165 z166 z167 z168 z169 z170 z171 z172 z173 z174 z175 z176 z177 z178 z179 z180 z181 z182 z183 z184 z185 z186 z187 z188 z189 z190 z191 z192 z193 z194 z195 z196 z197 z198 z199 z200 z201 z202 z203 z204 z205 z206 z207 z208 z209 z210 z211 z212 z213 z214 z215 z216 z217 z218 z219 z220 z221 z222 z223 z224 z225 z226 z227 z228 z229 z230 z231 z232 z233 z234 z235 z236 z237 z238 z239 z240 z241 w9 ⟨gg, cc, nn, ccV, nnV, AA, tts, ees, e3, e4, hN9, hNV9, hT9, hF9, hb9⟩
                subst e3 e4
                clear HALL HUI HVJ HIJ HPQ HPQ2 HN HNV HF hi hj
                refine hK6 _ _ ?_
                clear hK6
                obtain ⟨pps, hT9b⟩ := hT9.out
                refine go_tail w9 _ gg cc nn ccV nnV AA pps tts ees hN9.out hNV9.out (by have := hF9.out.many; have := hN9.out; have := hNV9.out; omega) hT9b hF9.out _ _ _ _ _ _ _ _ _ _ _ _ _ _ _ _ _ _ _ _ _ _ _ _ _ _ _ _ _ _ _ _ _ _ _ _ _ _ _ _ _ _ _ _ _ _ _ _ _ _ _ _ _ _ _ _ _ _ _ _ _ _ _ _ _ _ _ _ _ _ _ _ _ _ _ _ _ _ _ _ _ _ _ _ _ _ _ _ _ _ _ _ _ _ _ _ _ _ _ _ _ _ _ _ _ _ _ _ _ _ _ _ _ _ _ _ _ _ _ _ _ _ _ _ _ _ _ _ _ _ _ _ _ _ _ _ _ _ _ _ _ _ _ _ _ _ _ _ _ _ _ _ _ _ _ _ _ _ _ _ _ _ _ _ _ _ _ _ _ _ _ _ _ _ _ _ _ _ _ _ _ _ _ _ _ _ _ _ _ _ _ _ _ _ _ _ _ _ _ _ _ _ _ _ _ _ _ _ _ _ _ _ _ _ _ _ _ _ _ _ _ _ _ _ _ _ _ _ _ _ _ _ _ _ _ _ _ _ _ _ _ _ _ _ _ _ _ _ _ _ _ _ _ _ _ _ _ _ _ _ _ _ _ _ _ _ _ _ _ _ ?_
                intro x2 x21 x22 x24 x242 x243 x244 x245 x246 x247 x248 x249 x250 x251 x252 x253 x254 x255 x256 x257 x258 x259 x260 x261 x262 x263 x264 x265 x266 x267 x268 w10 hb10
                have hb11 := hbr2.trans (hb9.trans (hb10.mono (Nat.le_trans hbr2.size hb9.size)))
                have hT10 : Hid (∃ ps, TMem w10 w.heap.size gg cc ps tts (.slice AA nnV ccV) ees) := ⟨pps, hT9b.below hb10⟩
                clear hT9 hT9b hb9 hb10 hbr2
                go_wp2_with (fail)
                exact ⟨⟨k + 1, gg, cc, nn, ccV, nnV, AA, tts, ees, by omega, by go_num, rfl, rfl, hN9, hNV9, hT10, hF9, hb11⟩, by simp [intOf]; omega⟩
        · go_wp2_with (fail)
          refine (wawake_ok _).mono ?_
          rintro e w4 ⟨rfl, b4⟩
          go_wp2_with (fail)
          go_ret
          exact ⟨rfl, hbr.trans (b4.mono hbr.size)⟩
end Go.Proofs.Ytbnkanhibjoleaa
