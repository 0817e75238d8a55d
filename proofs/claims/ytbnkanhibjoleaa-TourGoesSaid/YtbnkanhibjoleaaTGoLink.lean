/-
  TourGoes: two trees linked, walked.
-/
import Derived.Test.YtbnkanhibjoleaaTGoCode
namespace Go.Proofs.Ytbnkanhibjoleaa
open Go Go.RowKit
attribute [local go_sem] Heavy heavyUpon
attribute [local go_sem ↓] edge_eql tsl_hi esl_hi esl_lo

set_option maxRecDepth 100000 in
set_option maxHeartbeats 6400000 in
theorem go_link (W : World) (base g c n cV nV b7 b10 i j : Nat) (AV : Option Addr) (ps : List P3) (ts : List (List Int)) (es : List E3) (cut root : Bool) (u v p q : Int) (hN : ts.length = n) (hNV : es.length = nV) (hn8 : n + nV = 8) (hTM : TMem W base g c ps ts (.slice AV nV cV) es) (hF : Frst ts es)
    (hB7 : Blk W b7 35 #[.bool cut, .bool root, .int .i64 u, .int .i64 v]) (hB10 : Blk W b10 38 #[.int .i64 p, .int .i64 q, .int .i64 0]) (hpq : mkE u v = (p, q, 0)) (hu : 0 ≤ u ∧ u ≤ 7) (hv : 0 ≤ v ∧ v ≤ 7) (hbase : base ≤ W.heap.size)
    (hi : i < ts.length) (hj : j < ts.length) (hui : u ∈ ts[i]) (hvj : v ∈ ts[j]) (hij : i = j ↔ findT ts u 0 = findT ts v 0) (hroot : root = false) (hcut : cut = false)
    (c0 c1 c2 c5 c6 c12 c13 c14 c15 c16 c17 c18 c19 c20 c21 c22 c23 c24 c25 c26 c27 c28 c29 c30 c31 c32 c33 c34 c35 c36 c37 c38 c39 c40 c41 c42 c43 c44 c45 c46 c47 c48 c49 c50 c51 c52 c53 c54 c55 c56 c57 c58 c59 c60 c61 c62 c63 c64 c65 c66 c67 c68 c69 c70 c71 c72 c73 c74 c75 c76 c77 c78 c79 c80 c81 c82 c83 c84 c85 c86 c87 c88 c89 c90 c91 c92 c93 c94 c95 c96 c97 c98 c99 c100 c101 c102 c103 c104 c105 c106 c107 c108 c109 c110 c111 c112 c113 c114 c115 c116 c117 c118 c119 c120 c121 c122 c123 c124 c125 c126 c127 c128 c129 c130 c131 c132 c133 c134 c135 c136 c137 c138 c139 c140 c141 c142 c143 c144 c145 c146 c147 c148 c149 c150 c151 c152 c153 c154 c155 c156 c157 c158 c159 c160 c161 c162 c163 c164 c165 c166 c167 c168 c169 c170 c171 c172 c173 c174 c175 c176 c177 c178 c179 c180 c181 c182 c183 c184 c185 c186 c187 c188 c189 c190 c191 c192 c193 c194 c195 c196 c197 c198 c199 c200 c201 c202 c203 c204 c205 c206 c207 c208 c209 c210 c211 c212 c213 c214 c215 c216 c217 c218 c219 c220 c221 c222 c223 c224 c225 c226 c227 c228 c229 c230 c231 c232 c233 c234 c235 c236 c237 c238 c239 c240 c241 c242 c243 c244 c245 c246 c247 c248 c249 c250 c251 c252 c253 c254 c255 c256 c257 c258 c259 c260 c261 c262 c263 c264 c265 c266 c267 c268 c269 c270 : Value) (Q : Exit → Act → World → Prop)
    (hQ : ∀ (s3 s4 u2 u14 u15 u16 u17 u18 u19 u20 u100 u101 u102 u103 u104 u105 u106 u107 u108 u109 u110 u111 u112 u113 u114 u115 u116 u117 u118 u119 u120 u121 u122 u123 u124 u125 u126 u127 u128 u129 u130 u131 u132 u133 u134 u135 u136 u137 u138 u139 u140 u141 u142 u143 u144 u145 u146 u147 u148 u149 u150 u151 u152 u153 u154 u155 u156 u157 u158 u159 u160 u161 u162 u163 u164 u165 u166 u167 u168 u169 u170 u171 u172 u173 u174 u175 u176 u177 u178 u179 u180 u181 u182 u183 u184 u185 u186 u187 u188 u189 u190 u191 u192 u193 u194 u195 u196 u197 u198 u199 u200 u201 u202 u203 u204 u205 u206 u207 u208 u209 u210 u211 u212 u213 u214 u215 u216 u217 u218 u219 u220 u221 u222 u223 u224 u225 u226 u227 u228 u229 u230 u231 u232 u233 u234 u235 u236 u237 u238 u239 u240 u241 : Value) (w' : World), (∃ (g c n cV nV : Nat) (AV : Option Addr) (ts : List (List Int)) (es : List E3), s3 = .slice (some ⟨g, 0, none⟩) n c ∧ s4 = .slice AV nV cV ∧ Hid (ts.length = n) ∧ Hid (es.length = nV) ∧ Hid (∃ ps, TMem w' base g c ps ts (.slice AV nV cV) es) ∧ Hid (Frst ts es) ∧ Below base W w') → Q .normal ⟨#[c0, c1, u2, s3, s4, c5, c6, .pointer (some ⟨b7, 0, none⟩), .int .i64 (i : Int), .int .i64 (j : Int), .pointer (some ⟨b10, 0, none⟩), .int .i64 (thereI es (p, q, 0) nV), c12, c13, u14, u15, u16, u17, u18, u19, u20, c21, c22, c23, c24, c25, c26, c27, c28, c29, c30, c31, c32, c33, c34, c35, c36, c37, c38, c39, c40, c41, c42, c43, c44, c45, c46, c47, c48, c49, c50, c51, c52, c53, c54, c55, c56, c57, c58, c59, c60, c61, c62, c63, c64, c65, c66, c67, c68, c69, c70, c71, c72, c73, c74, c75, c76, c77, c78, c79, c80, c81, c82, c83, c84, c85, c86, c87, c88, c89, c90, c91, c92, c93, c94, c95, c96, c97, c98, c99, u100, u101, u102, u103, u104, u105, u106, u107, u108, u109, u110, u111, u112, u113, u114, u115, u116, u117, u118, u119, u120, u121, u122, u123, u124, u125, u126, u127, u128, u129, u130, u131, u132, u133, u134, u135, u136, u137, u138, u139, u140, u141, u142, u143, u144, u145, u146, u147, u148, u149, u150, u151, u152, u153, u154, u155, u156, u157, u158, u159, u160, u161, u162, u163, u164, u165, u166, u167, u168, u169, u170, u171, u172, u173, u174, u175, u176, u177, u178, u179, u180, u181, u182, u183, u184, u185, u186, u187, u188, u189, u190, u191, u192, u193, u194, u195, u196, u197, u198, u199, u200, u201, u202, u203, u204, u205, u206, u207, u208, u209, u210, u211, u212, u213, u214, u215, u216, u217, u218, u219, u220, u221, u222, u223, u224, u225, u226, u227, u228, u229, u230, u231, u232, u233, u234, u235, u236, u237, u238, u239, u240, u241, c242, c243, c244, c245, c246, c247, c248, c249, c250, c251, c252, c253, c254, c255, c256, c257, c258, c259, c260, c261, c262, c263, c264, c265, c266, c267, c268, c269, c270], []⟩ w') :
    Code.wp Try.prog (switchOf Try.f4.body) Q ⟨#[c0, c1, c2, .slice (some ⟨g, 0, none⟩) n c, .slice AV nV cV, c5, c6, .pointer (some ⟨b7, 0, none⟩), .int .i64 (i : Int), .int .i64 (j : Int), .pointer (some ⟨b10, 0, none⟩), .int .i64 (thereI es (p, q, 0) nV), c12, c13, c14, c15, c16, c17, c18, c19, c20, c21, c22, c23, c24, c25, c26, c27, c28, c29, c30, c31, c32, c33, c34, c35, c36, c37, c38, c39, c40, c41, c42, c43, c44, c45, c46, c47, c48, c49, c50, c51, c52, c53, c54, c55, c56, c57, c58, c59, c60, c61, c62, c63, c64, c65, c66, c67, c68, c69, c70, c71, c72, c73, c74, c75, c76, c77, c78, c79, c80, c81, c82, c83, c84, c85, c86, c87, c88, c89, c90, c91, c92, c93, c94, c95, c96, c97, c98, c99, c100, c101, c102, c103, c104, c105, c106, c107, c108, c109, c110, c111, c112, c113, c114, c115, c116, c117, c118, c119, c120, c121, c122, c123, c124, c125, c126, c127, c128, c129, c130, c131, c132, c133, c134, c135, c136, c137, c138, c139, c140, c141, c142, c143, c144, c145, c146, c147, c148, c149, c150, c151, c152, c153, c154, c155, c156, c157, c158, c159, c160, c161, c162, c163, c164, c165, c166, c167, c168, c169, c170, c171, c172, c173, c174, c175, c176, c177, c178, c179, c180, c181, c182, c183, c184, c185, c186, c187, c188, c189, c190, c191, c192, c193, c194, c195, c196, c197, c198, c199, c200, c201, c202, c203, c204, c205, c206, c207, c208, c209, c210, c211, c212, c213, c214, c215, c216, c217, c218, c219, c220, c221, c222, c223, c224, c225, c226, c227, c228, c229, c230, c231, c232, c233, c234, c235, c236, c237, c238, c239, c240, c241, c242, c243, c244, c245, c246, c247, c248, c249, c250, c251, c252, c253, c254, c255, c256, c257, c258, c259, c260, c261, c262, c263, c264, c265, c266, c267, c268, c269, c270], []⟩ W := by
  conv => arg 2; whnf
  subst hroot hcut
  have hgl := hTM.glt.2
  have hbg := hTM.glt.1
  have hmi : ts[i] ∈ ts := List.getElem_mem hi
  have hmj : ts[j] ∈ ts := List.getElem_mem hj
  have hiti := hF.tour _ hmi
  have hitj := hF.tour _ hmj
  have hwfi := hF.wf hmi
  have hwfj := hF.wf hmj
  obtain ⟨hli, _⟩ := hF.len hmi
  obtain ⟨hlj, _⟩ := hF.len hmj
  obtain ⟨B1, e1, k1, _, S1⟩ := hTM.get hi
  obtain ⟨B2, e2, k2, _, S2⟩ := hTM.get hj
  have hml : ∀ b ∈ g :: (Value.ownBlock (.slice AV nV cV)).toList, b < W.heap.size := fun b hb => by
    rcases List.mem_cons.1 hb with rfl | hb
    · exact hTM.glt.2
    · exact own_lt hTM.owE b hb
  have hin : i < n := by omega
  have hjn : j < n := by omega
  have ql := fun W' (hb : Below W.heap.size W W') => link_off ts[i] ts[j] hwfi hwfj u v B1 B2 ts[i].length e1 ts[j].length e2 W' (Sl.less (S1.below hb) (by simp)) (Sl.less (S2.below hb) (by simp)) (by omega) (by omega) _ (fun b hb' => Nat.lt_of_lt_of_le (hml b hb') hb.size)
  obtain ⟨y0, y1, y2⟩ := hB7.facts
  have HTM := hide hTM
  have HNV := hide hNV
  have HN := hide hN
  have HQ := hide hQ
  have HB7 := hide hB7
  have HB10 := hide hB10
  by_cases hne : i = j
  · subst hne
    obtain ⟨rfl, rfl⟩ : B1 = B2 ∧ e1 = e2 := by
      rw [k1] at k2
      injection k2 with k2
      injection k2 with q1 _ q3
      exact ⟨q1, q3⟩
    rw [outL_same hiti hui hvj] at ql
    have QL := hide ql
    have HF := hide hF
    have hd : ((i : Int) != (i : Int)) = false := by simp
    clear ql hF hiti hitj hwfi hwfj hui hvj hij hml hTM hNV hN hQ hB7 hB10 S1 S2 hmi hmj hpq
    generalize ts[i].length = mi at *
    go_wp2_with (fail)
    refine wp_region_lexD [12] (fun w' => Below (W).heap.size (W) w') (by kernel_rfl) (by kernel_rfl) (Below.refl _ _).drew ?_
    (repeat ((with_reducible refine wpLex_step (fun K hK => ?_)); go_simp; first | ((with_reducible refine hK _ _ ?_); clear hK K) | ((with_reducible apply Exists.intro); refine ⟨fun w' hw' => ?_, hK _ _ ?_⟩; (· (have hq := bcells hw'; apply valEq; (· (go_simp; first | done | (with_reducible rfl))); (· ((try go_bits); with_reducible rfl)))); clear hK K)))
    ((with_reducible refine wpLex_step (fun K hK => ?_)); go_simp; refine (QL.out W.drew (Below.refl W.heap.size W).drew).mono ?_; rintro e w7 ⟨R5, d5, rfl, N5, hbx⟩; have g7 := ((Below.refl W.heap.size W).drew).trans (hbx.mono ((Below.refl W.heap.size W).drew).size); skip; refine ⟨_, rfl, g7, hK _ _ ?_⟩; clear hK K hbx)
    (repeat ((with_reducible refine wpLex_step (fun K hK => ?_)); go_simp; first | ((with_reducible refine hK _ _ ?_); clear hK K) | ((with_reducible apply Exists.intro); refine ⟨fun w' hw' => ?_, hK _ _ ?_⟩; (· (have hq := bcells hw'; apply valEq; (· (go_simp; first | done | (with_reducible rfl))); (· ((try go_bits); with_reducible rfl)))); clear hK K)))
    refine wpLex_nil (fun _ => ?_)
    have HT7 := hide (HTM.out.below g7)
    have hb7 := (Below.refl base W).trans (g7.mono hbase)
    clear g7 N5 y0 y1 y2 k1 k2 HTM
    go_wp2_with (fail)
    apply HQ.out
    exact ⟨g, c, n, cV, nV, AV, ts, es, rfl, rfl, HN, HNV, ⟨_, HT7.out⟩, HF, hb7⟩
  · rw [outL_two hiti hitj hui hvj (hF.two hi hj hne)] at ql
    have HF2 := hide (hF.linkL hi hj hne hui hvj)
    have hd : ((i : Int) != (j : Int)) = true := by rw [bne_iff_ne]; omega
    have hz : ts.length - 1 < ts.length := by omega
    obtain ⟨nz, hnz⟩ : ∃ nz, nz = n - 1 := ⟨_, rfl⟩
    have hzn : nz < n := by omega
    have hznt : ts.length - 1 = nz := by omega
    obtain ⟨ie, hie, hze, he1, he2⟩ := info_parts edge_info
    obtain ⟨T, hT⟩ : ∃ T, T = fromT ts[i] u ++ fromT ts[j] v ++ [u] := ⟨_, rfl⟩
    obtain ⟨z, hzz⟩ : ∃ z, z = ts[ts.length - 1] := ⟨_, rfl⟩
    rw [← hT] at ql HF2
    rw [← hzz, hpq] at HF2
    have QL := hide ql
    have hTl : T.length ≤ 100 := by
      rw [hT]
      have h1 := (fromT_spec hiti hui).1
      have h2 := (fromT_spec hitj hvj).1
      simp only [List.length_append, List.length_cons, List.length_nil]; omega
    have HLN : Hid ((linkL ts i j T z).length = nz) := by show _ = _; rw [linkL_len]; exact hznt
    have HN5 : Hid ((es ++ [(p, q, 0)]).length = nV + 1) := by show _ = _; rw [List.length_append, hNV]; rfl
    have HZZ := hide (show ∃ h : nz < ts.length, ts[nz] = z from ⟨by omega, by rw [hzz]; congr 1; exact hznt.symm⟩)
    have HHZ := hide (show ts.length - 1 = nz from hznt)
    have hcap := hTM.capB
    have hcn : nz ≤ c := by omega
    have dz : (n : Int) - 1 = (nz : Int) := by omega
    have dz2 : n - 1 = nz := hnz.symm
    have dz3 : 0 ≤ (n : Int) - 1 := by omega
    clear hnz
    have HNE := hide hne
    have HLI := hide (And.intro hi hj)
    clear ql hF hiti hitj hwfi hwfj hui hvj hij hml hTM hNV hN hQ hB7 hB10 S1 S2 hmi hmj hT hzz hz hznt hpq hcap hne
    generalize ts[i].length = mi at *
    generalize ts[j].length = mj at *
    go_wp2_with (fail)
    refine wp_region_lexD [12] (fun w' => Below (W).heap.size (W) w') (by kernel_rfl) (by kernel_rfl) (Below.refl _ _).drew ?_
    (repeat ((with_reducible refine wpLex_step (fun K hK => ?_)); go_simp; first | ((with_reducible refine hK _ _ ?_); clear hK K) | ((with_reducible apply Exists.intro); refine ⟨fun w' hw' => ?_, hK _ _ ?_⟩; (· (have hq := bcells hw'; apply valEq; (· (go_simp; first | done | (with_reducible rfl))); (· ((try go_bits); with_reducible rfl)))); clear hK K)))
    ((with_reducible refine wpLex_step (fun K hK => ?_)); go_simp; refine (QL.out W.drew (Below.refl W.heap.size W).drew).mono ?_; rintro e w7 ⟨R5, d5, rfl, N5, hbx⟩; have g7 := ((Below.refl W.heap.size W).drew).trans (hbx.mono ((Below.refl W.heap.size W).drew).size); skip; refine ⟨_, rfl, g7, hK _ _ ?_⟩; clear hK K hbx)
    (repeat ((with_reducible refine wpLex_step (fun K hK => ?_)); go_simp; first | ((with_reducible refine hK _ _ ?_); clear hK K) | ((with_reducible apply Exists.intro); refine ⟨fun w' hw' => ?_, hK _ _ ?_⟩; (· (have hq := bcells hw'; apply valEq; (· (go_simp; first | done | (with_reducible rfl))); (· ((try go_bits); with_reducible rfl)))); clear hK K)))
    refine wpLex_nil (fun _ => ?_)
    have HT7 := hide (HTM.out.below g7)
    obtain ⟨x0, x1, x2⟩ := (HB10.out.below g7 HB10.out.lt).facts
    have hb7 := (Below.refl base W).trans (g7.mono hbase)
    have hgl7 := Nat.lt_of_lt_of_le hgl g7.size
    clear g7 y0 y1 y2 k1 k2 HTM
    have hb8 := hb7.alloc (Nat.le_trans hbg (Nat.le_of_lt hgl7)) (.cells #[.int .i64 p, .int .i64 q, .int .i64 0] 38)
    have HT8 := hide (HT7.out.below ((Below.refl w7.heap.size w7).alloc (Nat.le_refl _) (.cells #[.int .i64 p, .int .i64 q, .int .i64 0] 38)))
    have N2 := e1_new w7 p q 0
    have HN8 := hide (Sl.alloc N5 (.cells #[.int .i64 p, .int .i64 q, .int .i64 0] 38))
    have ho8 := HT8.out.owE
    rw [HNV.out] at ho8
    have HO8 := hide ho8
    have hgl8 := HT8.out.glt.2
    clear HT7 N5 ho8
    (go_wp2_with (at_builtin; refine stopAt ?_); refine stopGo ?_)
    clear x0 x1 x2
    generalize w7.alloc (.cells #[.int .i64 p, .int .i64 q, .int .i64 0] 38) = W8 at *
    generalize w7.heap.size = b9 at *
    refine wpList_append_sl _ rfl (.tmp 124) (.tmp 126) _ rfl base 38 ie _ 3 24 Try.underlying33 hie hze he1 he2 rfl (by omega) _ _ _ rfl HO8.out [] _ 1 1 (ecells [(p, q, 0)]) rfl N2 ecells_one (by simp only [maxLen]; omega) (by omega) (by omega) ?_
    intro AV5 cV5 w5 own5 g5 b5
    rw [← ecells_append] at own5
    have hp5 := HT8.out.pushE (e := (p, q, 0)) (A' := AV5) (c' := cV5) (w' := w5) (by rw [HNV.out]; exact own5) g5 (by rw [HNV.out]; exact b5)
    have ho5 := HT8.out.offE (A' := AV5) (c' := cV5) (w' := w5) g5 (by rw [HNV.out]; exact b5) (p := (R5, T.length, d5)) (t := T) HN8.out
    rw [HNV.out] at hp5 ho5
    have hb5 := hb8.grown g5 (Nat.le_trans hbase hb8.size) (fun k hk => (HO8.out.lt k hk).1)
    have HP5 := hide hp5
    have HX5 := hide ho5
    clear own5 g5 b5 hp5 ho5 HO8 HN8 HT8 N2 hb8 hie hze he1 he2
    -- the trees stored
    have H6 := hide (HP5.out.set HLI.out.1 HX5.out)
    obtain ⟨B3, e3, k3, _, S3⟩ := HP5.out.get HZZ.out.1
    rw [HZZ.out.2] at k3 S3
    obtain ⟨_, _, k4, f4, _⟩ := HP5.out.get HLI.out.1
    have hj6 : j < (ts.set i T).length := by rw [List.length_set]; exact HLI.out.2
    obtain ⟨_, _, k5, f5, _⟩ := H6.out.get hj6
    have H7 := hide (H6.out.set hj6 (Sl.setCell S3 (p := ⟨g, i, none⟩) (by simp) (.slice R5 T.length d5)))
    have hb6 := (hb5.setCell (p := ⟨g, i, none⟩) hbg (.slice R5 T.length d5)).setCell (p := ⟨g, j, none⟩) hbg (.slice B3 z.length e3)
    have X7 := hide (Sl.setCell (Sl.setCell HX5.out (p := ⟨g, i, none⟩) (by simp) (.slice R5 T.length d5)) (p := ⟨g, j, none⟩) (by simp) (.slice B3 z.length e3))
    clear S3 HP5 HX5 H6
    have hl7 : ((ts.set i T).set j z).length = ts.length := by rw [List.length_set, List.length_set]
    rcases Nat.lt_or_gt_of_ne HNE.out with hlt | hlt
    · have hm : min i j = i := by omega
      have hi7 : i < ((ts.set i T).set j z).length := by rw [hl7]; exact HLI.out.1
      by_cases hjz : j = nz
      · have hq1 : ((j : Int) == (nz : Int)) = true := by simp [hjz]
        obtain ⟨_, _, k6, f6, _⟩ := H7.out.get hi7
        have h8 := (H7.out.set hi7 (x := T) (B := R5) (d := d5) X7.out).pop (n := nz) (by rw [List.length_set, hl7, ← HHZ.out]; omega)
        have hla := linkL_a (ts := ts) (i := i) (j := j) (t := T) (z := z) (.inl (by rw [HHZ.out]; exact hjz))
        rw [hm, HHZ.out] at hla
        rw [hla] at h8
        have H8 := hide h8
        have hb7' := hb6.setCell (p := ⟨g, i, none⟩) hbg (.slice R5 T.length d5)
        have HJZ := hide hjz
        clear h8 H7 hla X7 hjz hl7 hm
        (go_wp2_with (fail); apply HQ.out; exact ⟨g, c, nz, cV5, nV + 1, AV5, linkL ts i j T z, es ++ [(p, q, 0)], rfl, rfl, HLN, HN5, ⟨_, H8.out⟩, HF2, hb7'⟩)
      · have hq1 : ((j : Int) == (nz : Int)) = false := by rw [beq_eq_false_iff_ne]; omega
        have hq2 : ((i : Int) == (nz : Int)) = false := by rw [beq_eq_false_iff_ne]; omega
        have h8 := H7.out.pop (n := nz) (by rw [hl7, ← HHZ.out]; omega)
        have hlb := linkL_b (ts := ts) (i := i) (j := j) (t := T) (z := z) (by rw [HHZ.out]; omega)
        rw [HHZ.out] at hlb
        rw [hlb] at h8
        have H8 := hide h8
        clear h8 H7 hlb X7 hl7 hm
        (go_wp2_with (fail); apply HQ.out; exact ⟨g, c, nz, cV5, nV + 1, AV5, linkL ts i j T z, es ++ [(p, q, 0)], rfl, rfl, HLN, HN5, ⟨_, H8.out⟩, HF2, hb6⟩)
    · have hm : min i j = j := by omega
      have hj7 : j < ((ts.set i T).set j z).length := by rw [hl7]; exact HLI.out.2
      have hq1 : ((j : Int) == (nz : Int)) = false := by rw [beq_eq_false_iff_ne]; omega
      by_cases hiz : i = nz
      · have hq2 : ((i : Int) == (nz : Int)) = true := by simp [hiz]
        obtain ⟨_, _, k6, f6, _⟩ := H7.out.get hj7
        have h8 := (H7.out.set hj7 (x := T) (B := R5) (d := d5) X7.out).pop (n := nz) (by rw [List.length_set, hl7, ← HHZ.out]; omega)
        have hla := linkL_a (ts := ts) (i := i) (j := j) (t := T) (z := z) (.inr (by rw [HHZ.out]; exact hiz))
        rw [hm, HHZ.out] at hla
        rw [hla] at h8
        have H8 := hide h8
        have hb7' := hb6.setCell (p := ⟨g, j, none⟩) hbg (.slice R5 T.length d5)
        have HIZ := hide hiz
        clear h8 H7 hla X7 hiz hl7 hm
        (go_wp2_with (fail); apply HQ.out; exact ⟨g, c, nz, cV5, nV + 1, AV5, linkL ts i j T z, es ++ [(p, q, 0)], rfl, rfl, HLN, HN5, ⟨_, H8.out⟩, HF2, hb7'⟩)
      · have hq2 : ((i : Int) == (nz : Int)) = false := by rw [beq_eq_false_iff_ne]; omega
        have h8 := H7.out.pop (n := nz) (by rw [hl7, ← HHZ.out]; omega)
        have hlb := linkL_b (ts := ts) (i := i) (j := j) (t := T) (z := z) (by rw [HHZ.out]; omega)
        rw [HHZ.out] at hlb
        rw [hlb] at h8
        have H8 := hide h8
        clear h8 H7 hlb X7 hl7 hm
        (go_wp2_with (fail); apply HQ.out; exact ⟨g, c, nz, cV5, nV + 1, AV5, linkL ts i j T z, es ++ [(p, q, 0)], rfl, rfl, HLN, HN5, ⟨_, H8.out⟩, HF2, hb6⟩)
end Go.Proofs.Ytbnkanhibjoleaa
