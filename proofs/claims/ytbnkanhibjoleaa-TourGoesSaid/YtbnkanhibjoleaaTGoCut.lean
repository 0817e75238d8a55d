/-
  TourGoes: an edge cut, walked.
-/
import Derived.Test.YtbnkanhibjoleaaTGoCode
namespace Go.Proofs.Ytbnkanhibjoleaa
open Go Go.RowKit
attribute [local go_sem] Heavy heavyUpon
attribute [local go_sem ↓] edge_eql tsl_hi esl_hi esl_lo

set_option maxRecDepth 100000 in
set_option maxHeartbeats 6400000 in
theorem go_cut (W : World) (base g c n cV nV b7 b10 i j : Nat) (AV : Option Addr) (ps : List P3) (ts : List (List Int)) (es : List E3) (cut root : Bool) (u v p q : Int) (hN : ts.length = n) (hNV : es.length = nV) (hn8 : n + nV = 8) (hTM : TMem W base g c ps ts (.slice AV nV cV) es) (hF : Frst ts es)
    (hB7 : Blk W b7 35 #[.bool cut, .bool root, .int .i64 u, .int .i64 v]) (hB10 : Blk W b10 38 #[.int .i64 p, .int .i64 q, .int .i64 0]) (hpq : mkE u v = (p, q, 0)) (hu : 0 ≤ u ∧ u ≤ 7) (hv : 0 ≤ v ∧ v ≤ 7) (hbase : base ≤ W.heap.size)
    (hi : i < ts.length) (hj : j < ts.length) (hui : u ∈ ts[i]) (hvj : v ∈ ts[j]) (hij : i = j ↔ findT ts u 0 = findT ts v 0) (hroot : root = false) (hcut : cut = true)
    (c0 c1 c2 c5 c6 c12 c13 c14 c15 c16 c17 c18 c19 c20 c21 c22 c23 c24 c25 c26 c27 c28 c29 c30 c31 c32 c33 c34 c35 c36 c37 c38 c39 c40 c41 c42 c43 c44 c45 c46 c47 c48 c49 c50 c51 c52 c53 c54 c55 c56 c57 c58 c59 c60 c61 c62 c63 c64 c65 c66 c67 c68 c69 c70 c71 c72 c73 c74 c75 c76 c77 c78 c79 c80 c81 c82 c83 c84 c85 c86 c87 c88 c89 c90 c91 c92 c93 c94 c95 c96 c97 c98 c99 c100 c101 c102 c103 c104 c105 c106 c107 c108 c109 c110 c111 c112 c113 c114 c115 c116 c117 c118 c119 c120 c121 c122 c123 c124 c125 c126 c127 c128 c129 c130 c131 c132 c133 c134 c135 c136 c137 c138 c139 c140 c141 c142 c143 c144 c145 c146 c147 c148 c149 c150 c151 c152 c153 c154 c155 c156 c157 c158 c159 c160 c161 c162 c163 c164 c165 c166 c167 c168 c169 c170 c171 c172 c173 c174 c175 c176 c177 c178 c179 c180 c181 c182 c183 c184 c185 c186 c187 c188 c189 c190 c191 c192 c193 c194 c195 c196 c197 c198 c199 c200 c201 c202 c203 c204 c205 c206 c207 c208 c209 c210 c211 c212 c213 c214 c215 c216 c217 c218 c219 c220 c221 c222 c223 c224 c225 c226 c227 c228 c229 c230 c231 c232 c233 c234 c235 c236 c237 c238 c239 c240 c241 c242 c243 c244 c245 c246 c247 c248 c249 c250 c251 c252 c253 c254 c255 c256 c257 c258 c259 c260 c261 c262 c263 c264 c265 c266 c267 c268 c269 c270 : Value) (Q : Exit → Act → World → Prop)
    (hQ : ∀ (s3 s4 u2 u14 u15 u16 u17 u18 u19 u20 u100 u101 u102 u103 u104 u105 u106 u107 u108 u109 u110 u111 u112 u113 u114 u115 u116 u117 u118 u119 u120 u121 u122 u123 u124 u125 u126 u127 u128 u129 u130 u131 u132 u133 u134 u135 u136 u137 u138 u139 u140 u141 u142 u143 u144 u145 u146 u147 u148 u149 u150 u151 u152 u153 u154 u155 u156 u157 u158 u159 u160 u161 u162 u163 u164 u165 u166 u167 u168 u169 u170 u171 u172 u173 u174 u175 u176 u177 u178 u179 u180 u181 u182 u183 u184 u185 u186 u187 u188 u189 u190 u191 u192 u193 u194 u195 u196 u197 u198 u199 u200 u201 u202 u203 u204 u205 u206 u207 u208 u209 u210 u211 u212 u213 u214 u215 u216 u217 u218 u219 u220 u221 u222 u223 u224 u225 u226 u227 u228 u229 u230 u231 u232 u233 u234 u235 u236 u237 u238 u239 u240 u241 : Value) (w' : World), (∃ (g c n cV nV : Nat) (AV : Option Addr) (ts : List (List Int)) (es : List E3), s3 = .slice (some ⟨g, 0, none⟩) n c ∧ s4 = .slice AV nV cV ∧ Hid (ts.length = n) ∧ Hid (es.length = nV) ∧ Hid (∃ ps, TMem w' base g c ps ts (.slice AV nV cV) es) ∧ Hid (Frst ts es) ∧ Below base W w') → Q .normal ⟨#[c0, c1, u2, s3, s4, c5, c6, .pointer (some ⟨b7, 0, none⟩), .int .i64 (i : Int), .int .i64 (j : Int), .pointer (some ⟨b10, 0, none⟩), .int .i64 (thereI es (p, q, 0) nV), c12, c13, u14, u15, u16, u17, u18, u19, u20, c21, c22, c23, c24, c25, c26, c27, c28, c29, c30, c31, c32, c33, c34, c35, c36, c37, c38, c39, c40, c41, c42, c43, c44, c45, c46, c47, c48, c49, c50, c51, c52, c53, c54, c55, c56, c57, c58, c59, c60, c61, c62, c63, c64, c65, c66, c67, c68, c69, c70, c71, c72, c73, c74, c75, c76, c77, c78, c79, c80, c81, c82, c83, c84, c85, c86, c87, c88, c89, c90, c91, c92, c93, c94, c95, c96, c97, c98, c99, u100, u101, u102, u103, u104, u105, u106, u107, u108, u109, u110, u111, u112, u113, u114, u115, u116, u117, u118, u119, u120, u121, u122, u123, u124, u125, u126, u127, u128, u129, u130, u131, u132, u133, u134, u135, u136, u137, u138, u139, u140, u141, u142, u143, u144, u145, u146, u147, u148, u149, u150, u151, u152, u153, u154, u155, u156, u157, u158, u159, u160, u161, u162, u163, u164, u165, u166, u167, u168, u169, u170, u171, u172, u173, u174, u175, u176, u177, u178, u179, u180, u181, u182, u183, u184, u185, u186, u187, u188, u189, u190, u191, u192, u193, u194, u195, u196, u197, u198, u199, u200, u201, u202, u203, u204, u205, u206, u207, u208, u209, u210, u211, u212, u213, u214, u215, u216, u217, u218, u219, u220, u221, u222, u223, u224, u225, u226, u227, u228, u229, u230, u231, u232, u233, u234, u235, u236, u237, u238, u239, u240, u241, c242, c243, c244, c245, c246, c247, c248, c249, c250, c251, c252, c253, c254, c255, c256, c257, c258, c259, c260, c261, c262, c263, c264, c265, c266, c267, c268, c269, c270], []⟩ w') :
    Code.wp Try.prog (switchOf Try.f4.body) Q ⟨#[c0, c1, c2, .slice (some ⟨g, 0, none⟩) n c, .slice AV nV cV, c5, c6, .pointer (some ⟨b7, 0, none⟩), .int .i64 (i : Int), .int .i64 (j : Int), .pointer (some ⟨b10, 0, none⟩), .int .i64 (thereI es (p, q, 0) nV), c12, c13, c14, c15, c16, c17, c18, c19, c20, c21, c22, c23, c24, c25, c26, c27, c28, c29, c30, c31, c32, c33, c34, c35, c36, c37, c38, c39, c40, c41, c42, c43, c44, c45, c46, c47, c48, c49, c50, c51, c52, c53, c54, c55, c56, c57, c58, c59, c60, c61, c62, c63, c64, c65, c66, c67, c68, c69, c70, c71, c72, c73, c74, c75, c76, c77, c78, c79, c80, c81, c82, c83, c84, c85, c86, c87, c88, c89, c90, c91, c92, c93, c94, c95, c96, c97, c98, c99, c100, c101, c102, c103, c104, c105, c106, c107, c108, c109, c110, c111, c112, c113, c114, c115, c116, c117, c118, c119, c120, c121, c122, c123, c124, c125, c126, c127, c128, c129, c130, c131, c132, c133, c134, c135, c136, c137, c138, c139, c140, c141, c142, c143, c144, c145, c146, c147, c148, c149, c150, c151, c152, c153, c154, c155, c156, c157, c158, c159, c160, c161, c162, c163, c164, c165, c166, c167, c168, c169, c170, c171, c172, c173, c174, c175, c176, c177, c178, c179, c180, c181, c182, c183, c184, c185, c186, c187, c188, c189, c190, c191, c192, c193, c194, c195, c196, c197, c198, c199, c200, c201, c202, c203, c204, c205, c206, c207, c208, c209, c210, c211, c212, c213, c214, c215, c216, c217, c218, c219, c220, c221, c222, c223, c224, c225, c226, c227, c228, c229, c230, c231, c232, c233, c234, c235, c236, c237, c238, c239, c240, c241, c242, c243, c244, c245, c246, c247, c248, c249, c250, c251, c252, c253, c254, c255, c256, c257, c258, c259, c260, c261, c262, c263, c264, c265, c266, c267, c268, c269, c270], []⟩ W := by
  conv => arg 2; whnf
  subst hroot hcut
  have hgl := hTM.glt.2
  have hbg := hTM.glt.1
  have hmi : ts[i] ∈ ts := List.getElem_mem hi
  have hit := hF.tour _ hmi
  have hwf := hF.wf hmi
  obtain ⟨hli, _⟩ := hF.len hmi
  obtain ⟨B1, d1, k1, f1, S1⟩ := hTM.get hi
  have hml : ∀ b ∈ g :: (Value.ownBlock (.slice AV nV cV)).toList, b < W.heap.size := fun b hb => by
    rcases List.mem_cons.1 hb with rfl | hb
    · exact hTM.glt.2
    · exact own_lt hTM.owE b hb
  have hin : i < n := by omega
  have ql := fun W' (hb : Below W.heap.size W W') => cutT_off ts[i] hwf u v B1 ts[i].length d1 W' (Sl.less (S1.below hb) (by simp)) (by omega) _ (fun b hb' => Nat.lt_of_lt_of_le (hml b hb') hb.size)
  obtain ⟨y0, y1, y2⟩ := hB7.facts
  have HTM := hide hTM
  have HNV := hide hNV
  have HN := hide hN
  rcases thereI_spec es (p, q, 0) nV (by omega) with ⟨hth, hno⟩ | ⟨h, hh, hth, hhn, heh⟩
  · have hno2 : mkE u v ∉ edgesT ts[i] := fun hm => by
      rw [List.take_of_length_le (by omega)] at hno
      apply hno
      rw [← hpq]
      exact hF.edges.mem_iff.2 (List.mem_flatMap.2 ⟨_, hmi, hm⟩)
    have e : outC3 ts[i] u v = ([], [], 3) := by
      unfold outC3
      rw [if_pos hit, decide_eq_false hno2]
      rfl
    rw [e] at ql
    rw [hth] at hQ ⊢
    have QL := hide ql
    have HF := hide hF
    have HQ := hide hQ
    have HB7 := hide hB7
    clear ql e hno2 hno hF hit hwf hui hvj hij hml hTM hNV hN hQ hB7 hB10 S1 hmi hpq hth
    generalize ts[i].length = mi at *
    go_wp2_with (fail)
    refine wp_region_lexD [8] (fun w' => Below (W).heap.size (W) w') (by kernel_rfl) (by kernel_rfl) (Below.refl _ _).drew ?_
    (repeat ((with_reducible refine wpLex_step (fun K hK => ?_)); go_simp; first | ((with_reducible refine hK _ _ ?_); clear hK K) | ((with_reducible apply Exists.intro); refine ⟨fun w' hw' => ?_, hK _ _ ?_⟩; (· (have hq := bcells hw'; apply valEq; (· (go_simp; first | done | (with_reducible rfl))); (· ((try go_bits); with_reducible rfl)))); clear hK K)))
    ((with_reducible refine wpLex_step (fun K hK => ?_)); go_simp; refine (QL.out W.drew (Below.refl W.heap.size W).drew).mono ?_; rintro e w7 ⟨R5, d5, R6, d6, rfl, N5, N6, hbx⟩; have g7 := ((Below.refl W.heap.size W).drew).trans (hbx.mono ((Below.refl W.heap.size W).drew).size); refine ⟨_, rfl, g7, hK _ _ ?_⟩; clear hK K hbx)
    (repeat ((with_reducible refine wpLex_step (fun K hK => ?_)); go_simp; first | ((with_reducible refine hK _ _ ?_); clear hK K) | ((with_reducible apply Exists.intro); refine ⟨fun w' hw' => ?_, hK _ _ ?_⟩; (· (have hq := bcells hw'; apply valEq; (· (go_simp; first | done | (with_reducible rfl))); (· ((try go_bits); with_reducible rfl)))); clear hK K)))
    refine wpLex_nil (fun _ => ?_)
    have HT7 := hide (HTM.out.below g7)
    have hb7 := (Below.refl base W).trans (g7.mono hbase)
    clear g7 N5 N6 y0 y1 y2 k1 HTM
    go_wp2_with (fail)
    apply HQ.out
    exact ⟨g, c, n, cV, nV, AV, ts, es, rfl, rfl, HN, HNV, ⟨_, HT7.out⟩, HF, hb7⟩
  · have hin2 : mkE u v ∈ edgesT ts[i] := by
      have h1 : mkE u v ∈ es := by rw [hpq, ← heh]; exact List.getElem_mem hh
      obtain ⟨t, ht, hm⟩ := List.mem_flatMap.1 (hF.edges.mem_iff.1 h1)
      obtain ⟨x, hx, rfl⟩ := List.mem_iff_getElem.1 ht
      have hux := (edge_ends (isT_ne (hF.tour _ ht)) hm).1
      by_cases hxi : x = i
      · subst hxi; exact hm
      · exact absurd hui (hF.two hx hi hxi u hux)
    have e : outC3 ts[i] u v = (cutX ts[i] u v, cutY ts[i] u v, 0) := by
      unfold outC3
      rw [if_pos hit, decide_eq_true hin2]
      rfl
    obtain ⟨R, pR, pS⟩ := one_perm hi
    have hpe := eraseIdx_perm hh heh
    have hF2 : Frst (ts.set i (cutX ts[i] u v) ++ [cutY ts[i] u v]) (es.take h ++ es.drop (h + 1)) := by
      have h1 := Frst.cut (hF.perm pR.symm) hin2 (by rw [hpq]; exact hpe)
      refine h1.perm ?_
      refine (List.Perm.append_right _ (pS _)).trans ?_
      rw [List.cons_append]
      exact List.Perm.cons _ List.perm_append_comm
    rw [e] at ql
    rw [hth] at hQ ⊢
    have QL := hide ql
    have HF2 := hide hF2
    have HQ := hide hQ
    have HB7 := hide hB7
    have HI := hide hi
    have HL2 := hide (show (ts.set i (cutX ts[i] u v)).length = n by rw [List.length_set]; exact hN)
    have HE2 := hide (show (es.take h ++ es.drop (h + 1)).length = h + (nV - (h + 1)) by rw [List.length_append, List.length_take, List.length_drop, hNV]; omega)
    obtain ⟨is_, his, hzs, hs1, hs2⟩ := info_parts slice_info
    obtain ⟨ie, hie, hze, he1, he2⟩ := info_parts edge_info
    have hcapV := (hTM.esl hNV).le
    clear ql e hF2 hF hit hwf hui hvj hij hml hTM hNV hN hQ hB7 hB10 S1 hmi hpq hth hin2 pR pS hpe heh
    generalize ts[i].length = mi at *
    generalize cutX ts[i] u v = X at *
    generalize cutY ts[i] u v = Y at *
    simp only [] at QL
    go_wp2_with (fail)
    refine wp_region_lexD [8] (fun w' => Below (W).heap.size (W) w') (by kernel_rfl) (by kernel_rfl) (Below.refl _ _).drew ?_
    (repeat ((with_reducible refine wpLex_step (fun K hK => ?_)); go_simp; first | ((with_reducible refine hK _ _ ?_); clear hK K) | ((with_reducible apply Exists.intro); refine ⟨fun w' hw' => ?_, hK _ _ ?_⟩; (· (have hq := bcells hw'; apply valEq; (· (go_simp; first | done | (with_reducible rfl))); (· ((try go_bits); with_reducible rfl)))); clear hK K)))
    ((with_reducible refine wpLex_step (fun K hK => ?_)); go_simp; refine (QL.out W.drew (Below.refl W.heap.size W).drew).mono ?_; rintro e w7 ⟨R5, d5, R6, d6, rfl, N5, N6, hbx⟩; have g7 := ((Below.refl W.heap.size W).drew).trans (hbx.mono ((Below.refl W.heap.size W).drew).size); refine ⟨_, rfl, g7, hK _ _ ?_⟩; clear hK K hbx)
    (repeat ((with_reducible refine wpLex_step (fun K hK => ?_)); go_simp; first | ((with_reducible refine hK _ _ ?_); clear hK K) | ((with_reducible apply Exists.intro); refine ⟨fun w' hw' => ?_, hK _ _ ?_⟩; (· (have hq := bcells hw'; apply valEq; (· (go_simp; first | done | (with_reducible rfl))); (· ((try go_bits); with_reducible rfl)))); clear hK K)))
    refine wpLex_nil (fun _ => ?_)
    have HT7 := hide (HTM.out.below g7)
    have hb7 := (Below.refl base W).trans (g7.mono hbase)
    have k7 := (bcells g7 ⟨g, i, none⟩ hgl).trans k1
    have f7 := ((bcell g7).2 g i hgl).trans f1
    have H6 := hide (HT7.out.set HI.out N5)
    have X6 := hide (Sl.setCell N6 (p := ⟨g, i, none⟩) (by simp) (.slice R5 X.length d5))
    have hb6 := hb7.setCell (p := ⟨g, i, none⟩) hbg (.slice R5 X.length d5)
    clear g7 N5 N6 y0 y1 y2 k1 f1 HTM HT7
    (go_wp2_with (at_builtin; refine stopAt ?_); refine stopGo ?_)
    clear k7 f7
    have hz6 : (w7.setCell ⟨g, i, none⟩ (.slice R5 X.length d5)).heap.size = w7.heap.size := by simp [World.setCell]
    have I8 := p1_new (w7.setCell ⟨g, i, none⟩ (.slice R5 X.length d5)) R6 Y.length d6
    rw [hz6] at I8
    clear hz6
    generalize w7.setCell ⟨g, i, none⟩ (.slice R5 X.length d5) = W6 at *
    generalize ts.set i X = ts2 at *
    have bel8 := (Below.refl W6.heap.size W6).alloc (Nat.le_refl _) (.cells #[.slice R6 Y.length d6] 22)
    have H8 := hide (H6.out.below bel8)
    have X8 := hide (Sl.alloc X6.out (.cells #[.slice R6 Y.length d6] 22))
    have hb8 := hb6.trans (bel8.mono (Nat.le_trans hbg (Nat.le_of_lt H6.out.glt.2)))
    have ho8 := H8.out.own
    rw [HL2.out] at ho8
    have HO8 := hide ho8
    have hgl8 := H8.out.glt.2
    clear ho8 H6 X6 hb6 bel8
    generalize W6.alloc (.cells #[.slice R6 Y.length d6] 22) = W8 at *
    refine wpList_append_sl _ rfl (.tmp 228) (.tmp 230) _ rfl base 22 is_ _ 1 24 Try.underlying32 his hzs hs1 hs2 rfl (by omega) _ _ _ rfl HO8.out [] _ 1 1 _ rfl I8 slice_one (by simp only [maxLen]; omega) (by omega) (by omega) ?_
    intro A9 cc9 w9 own9 g9 b9
    obtain ⟨g2, rfl, hg2, hT9⟩ := H8.out.push (x := Y) (B := R6) (m := Y.length) (d := d6) X8.out (A' := A9) (c' := cc9) (w' := w9) (by rw [HL2.out]; exact own9) g9 (by rw [HL2.out]; exact b9)
    have hb9 := hb8.grown g9 (by omega) (fun k hk => (HO8.out.lt k hk).1)
    have HT9 := hide hT9
    have hE9 := hT9.esl HNV.out
    have P10 := hide (((p_head hE9 (k := h) (by omega)).alloc (.cells #[] 38)).drew)
    have P11 := hide (p_tail hE9 (k := h + 1) (by omega))
    have O10 : Hid ((w9.alloc (.cells #[] 38)).drew.ownsRow w9.heap.size 38 3 (.slice (some ⟨w9.heap.size, 0, none⟩) 0 0) 0 []) := own_empty w9 38 3
    have gB : Below w9.heap.size w9 (w9.alloc (.cells #[] 38)).drew := ((Below.refl w9.heap.size w9).alloc (Nat.le_refl _) (.cells #[] 38)).drew
    have gA := (Below.refl w9.heap.size w9).drew.alloc (Nat.le_refl _) (.cells #[] 38)
    have q0 : (0 : Int) ≤ (h : Int) := by omega
    have q1 : (h : Int) ≤ (cV : Int) := by omega
    have q2 : (0 : Int) ≤ (h : Int) + 1 := by omega
    have q3 : (h : Int) + 1 ≤ (nV : Int) := by omega
    have q4 : ((h : Int) + 1).toNat = h + 1 := by omega
    clear own9 g9 b9 hT9 hE9 hg2 HO8 H8 X8 I8 hb8 his hzs hs1 hs2 hgl8
    go_wp2_with (fail)
    refine wp_region_lexD [0,4,9] (fun w' => Below (w9).heap.size (w9) w') (by kernel_rfl) (by kernel_rfl) (Below.refl _ _).drew ?_
    ((with_reducible refine wpLex_step (fun K hK => ?_)); go_simp; first | (refine hK _ _ ?_; clear hK K) | (refine ⟨?_, hK _ _ ?_⟩; (· (exact gA)); clear hK K))
    (repeat ((with_reducible refine wpLex_step (fun K hK => ?_)); go_simp; first | ((with_reducible refine hK _ _ ?_); clear hK K) | ((with_reducible apply Exists.intro); refine ⟨fun w' hw' => ?_, hK _ _ ?_⟩; (· (have hq := bcells hw'; apply valEq; (· (go_simp; first | done | (with_reducible rfl))); (· ((try go_bits); with_reducible rfl)))); clear hK K)))
    generalize (w9.alloc (.cells #[] 38)).drew = W10 at *
    refine wpLex_append_sl _ rfl (by rfl) (.tmp 232) (.tmp 235) _ rfl w9.heap.size 38 ie _ 3 24 Try.underlying33 hie hze he1 he2 rfl (by omega) _ 0 _ rfl O10.out [] _ h cV (ecells (es.take h)) rfl P10.out ecells_one (by simp only [maxLen]; omega) (by omega) gB.size ?_
    intro AA ca w11 own11 g11 _
    simp only [Nat.zero_add, List.nil_append] at own11 ⊢
    have gC := gB.trans (below_grown O10.out g11 (Nat.le_refl _) gB.size)
    have O11 := hide own11
    refine ⟨gC, ?_⟩
    clear own11 g11 O10 P10 gA gB
    (repeat ((with_reducible refine wpLex_step (fun K hK => ?_)); go_simp; first | ((with_reducible refine hK _ _ ?_); clear hK K) | ((with_reducible apply Exists.intro); refine ⟨fun w' hw' => ?_, hK _ _ ?_⟩; (· (have hq := bcells hw'; apply valEq; (· (go_simp; first | done | (with_reducible rfl))); (· ((try go_bits); with_reducible rfl)))); clear hK K)))
    refine wpLex_append_sl _ rfl (by rfl) (.tmp 236) (.tmp 240) _ rfl w9.heap.size 38 ie _ 3 24 Try.underlying33 hie hze he1 he2 rfl (by omega) _ h _ rfl O11.out [] _ (nV - (h + 1)) (cV - (h + 1)) (ecells (es.drop (h + 1))) rfl (P11.out.below gC) ecells_one (by simp only [maxLen]; omega) (by omega) gC.size ?_
    intro AB cb w12 own12 g12 _
    rw [← ecells_append] at own12
    have gD := gC.trans (below_grown O11.out g12 (Nat.le_refl _) gC.size)
    have T12 := hide (HT9.out.newE gD (V' := .slice AB (h + (nV - (h + 1))) cb) (es' := es.take h ++ es.drop (h + 1)) (by rw [HE2.out]; exact own_weak own12 (Nat.le_trans (by omega) hb9.size)) (fun b hb => (own12.lt b hb).1))
    have hb12 := hb9.trans (gD.mono (by have := hb9.size; omega))
    refine ⟨gD, ?_⟩
    clear own12 g12 O11 P11 gC HT9 hb9
    (repeat ((with_reducible refine wpLex_step (fun K hK => ?_)); go_simp; first | ((with_reducible refine hK _ _ ?_); clear hK K) | ((with_reducible apply Exists.intro); refine ⟨fun w' hw' => ?_, hK _ _ ?_⟩; (· (have hq := bcells hw'; apply valEq; (· (go_simp; first | done | (with_reducible rfl))); (· ((try go_bits); with_reducible rfl)))); clear hK K)))
    refine wpLex_nil (fun _ => ?_)
    go_wp2_with (fail)
    apply HQ.out
    exact ⟨g2, cc9, n + 1, cb, h + (nV - (h + 1)), AB, ts2 ++ [Y], es.take h ++ es.drop (h + 1), rfl, rfl, hide (by rw [List.length_append, HL2.out]; rfl), HE2, ⟨_, T12.out⟩, HF2, hb12⟩
end Go.Proofs.Ytbnkanhibjoleaa
