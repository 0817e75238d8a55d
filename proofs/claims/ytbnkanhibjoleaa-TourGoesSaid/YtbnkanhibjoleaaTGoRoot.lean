/-
  TourGoes: a tree that begins elsewhere, walked.
-/
import Derived.Test.YtbnkanhibjoleaaTGoCode
namespace Go.Proofs.Ytbnkanhibjoleaa
open Go Go.RowKit
attribute [local go_sem] Heavy heavyUpon
attribute [local go_sem ↓] edge_eql tsl_hi esl_hi esl_lo

set_option maxRecDepth 100000 in
set_option maxHeartbeats 6400000 in
theorem go_root (W : World) (base g c n cV nV b7 b10 i j : Nat) (AV : Option Addr) (ps : List P3) (ts : List (List Int)) (es : List E3) (cut root : Bool) (u v p q : Int) (hN : ts.length = n) (hNV : es.length = nV) (hn8 : n + nV = 8) (hTM : TMem W base g c ps ts (.slice AV nV cV) es) (hF : Frst ts es)
    (hB7 : Blk W b7 35 #[.bool cut, .bool root, .int .i64 u, .int .i64 v]) (hB10 : Blk W b10 38 #[.int .i64 p, .int .i64 q, .int .i64 0]) (hpq : mkE u v = (p, q, 0)) (hu : 0 ≤ u ∧ u ≤ 7) (hv : 0 ≤ v ∧ v ≤ 7) (hbase : base ≤ W.heap.size)
    (hi : i < ts.length) (hj : j < ts.length) (hui : u ∈ ts[i]) (hvj : v ∈ ts[j]) (hij : i = j ↔ findT ts u 0 = findT ts v 0) (hroot : root = true)
    (c0 c1 c2 c5 c6 c12 c13 c14 c15 c16 c17 c18 c19 c20 c21 c22 c23 c24 c25 c26 c27 c28 c29 c30 c31 c32 c33 c34 c35 c36 c37 c38 c39 c40 c41 c42 c43 c44 c45 c46 c47 c48 c49 c50 c51 c52 c53 c54 c55 c56 c57 c58 c59 c60 c61 c62 c63 c64 c65 c66 c67 c68 c69 c70 c71 c72 c73 c74 c75 c76 c77 c78 c79 c80 c81 c82 c83 c84 c85 c86 c87 c88 c89 c90 c91 c92 c93 c94 c95 c96 c97 c98 c99 c100 c101 c102 c103 c104 c105 c106 c107 c108 c109 c110 c111 c112 c113 c114 c115 c116 c117 c118 c119 c120 c121 c122 c123 c124 c125 c126 c127 c128 c129 c130 c131 c132 c133 c134 c135 c136 c137 c138 c139 c140 c141 c142 c143 c144 c145 c146 c147 c148 c149 c150 c151 c152 c153 c154 c155 c156 c157 c158 c159 c160 c161 c162 c163 c164 c165 c166 c167 c168 c169 c170 c171 c172 c173 c174 c175 c176 c177 c178 c179 c180 c181 c182 c183 c184 c185 c186 c187 c188 c189 c190 c191 c192 c193 c194 c195 c196 c197 c198 c199 c200 c201 c202 c203 c204 c205 c206 c207 c208 c209 c210 c211 c212 c213 c214 c215 c216 c217 c218 c219 c220 c221 c222 c223 c224 c225 c226 c227 c228 c229 c230 c231 c232 c233 c234 c235 c236 c237 c238 c239 c240 c241 c242 c243 c244 c245 c246 c247 c248 c249 c250 c251 c252 c253 c254 c255 c256 c257 c258 c259 c260 c261 c262 c263 c264 c265 c266 c267 c268 c269 c270 : Value) (Q : Exit → Act → World → Prop)
    (hQ : ∀ (s3 s4 u2 u14 u15 u16 u17 u18 u19 u20 u100 u101 u102 u103 u104 u105 u106 u107 u108 u109 u110 u111 u112 u113 u114 u115 u116 u117 u118 u119 u120 u121 u122 u123 u124 u125 u126 u127 u128 u129 u130 u131 u132 u133 u134 u135 u136 u137 u138 u139 u140 u141 u142 u143 u144 u145 u146 u147 u148 u149 u150 u151 u152 u153 u154 u155 u156 u157 u158 u159 u160 u161 u162 u163 u164 u165 u166 u167 u168 u169 u170 u171 u172 u173 u174 u175 u176 u177 u178 u179 u180 u181 u182 u183 u184 u185 u186 u187 u188 u189 u190 u191 u192 u193 u194 u195 u196 u197 u198 u199 u200 u201 u202 u203 u204 u205 u206 u207 u208 u209 u210 u211 u212 u213 u214 u215 u216 u217 u218 u219 u220 u221 u222 u223 u224 u225 u226 u227 u228 u229 u230 u231 u232 u233 u234 u235 u236 u237 u238 u239 u240 u241 : Value) (w' : World), (∃ (g c n cV nV : Nat) (AV : Option Addr) (ts : List (List Int)) (es : List E3), s3 = .slice (some ⟨g, 0, none⟩) n c ∧ s4 = .slice AV nV cV ∧ Hid (ts.length = n) ∧ Hid (es.length = nV) ∧ Hid (∃ ps, TMem w' base g c ps ts (.slice AV nV cV) es) ∧ Hid (Frst ts es) ∧ Below base W w') → Q .normal ⟨#[c0, c1, u2, s3, s4, c5, c6, .pointer (some ⟨b7, 0, none⟩), .int .i64 (i : Int), .int .i64 (j : Int), .pointer (some ⟨b10, 0, none⟩), .int .i64 (thereI es (p, q, 0) nV), c12, c13, u14, u15, u16, u17, u18, u19, u20, c21, c22, c23, c24, c25, c26, c27, c28, c29, c30, c31, c32, c33, c34, c35, c36, c37, c38, c39, c40, c41, c42, c43, c44, c45, c46, c47, c48, c49, c50, c51, c52, c53, c54, c55, c56, c57, c58, c59, c60, c61, c62, c63, c64, c65, c66, c67, c68, c69, c70, c71, c72, c73, c74, c75, c76, c77, c78, c79, c80, c81, c82, c83, c84, c85, c86, c87, c88, c89, c90, c91, c92, c93, c94, c95, c96, c97, c98, c99, u100, u101, u102, u103, u104, u105, u106, u107, u108, u109, u110, u111, u112, u113, u114, u115, u116, u117, u118, u119, u120, u121, u122, u123, u124, u125, u126, u127, u128, u129, u130, u131, u132, u133, u134, u135, u136, u137, u138, u139, u140, u141, u142, u143, u144, u145, u146, u147, u148, u149, u150, u151, u152, u153, u154, u155, u156, u157, u158, u159, u160, u161, u162, u163, u164, u165, u166, u167, u168, u169, u170, u171, u172, u173, u174, u175, u176, u177, u178, u179, u180, u181, u182, u183, u184, u185, u186, u187, u188, u189, u190, u191, u192, u193, u194, u195, u196, u197, u198, u199, u200, u201, u202, u203, u204, u205, u206, u207, u208, u209, u210, u211, u212, u213, u214, u215, u216, u217, u218, u219, u220, u221, u222, u223, u224, u225, u226, u227, u228, u229, u230, u231, u232, u233, u234, u235, u236, u237, u238, u239, u240, u241, c242, c243, c244, c245, c246, c247, c248, c249, c250, c251, c252, c253, c254, c255, c256, c257, c258, c259, c260, c261, c262, c263, c264, c265, c266, c267, c268, c269, c270], []⟩ w') :
    Code.wp Try.prog (switchOf Try.f4.body) Q ⟨#[c0, c1, c2, .slice (some ⟨g, 0, none⟩) n c, .slice AV nV cV, c5, c6, .pointer (some ⟨b7, 0, none⟩), .int .i64 (i : Int), .int .i64 (j : Int), .pointer (some ⟨b10, 0, none⟩), .int .i64 (thereI es (p, q, 0) nV), c12, c13, c14, c15, c16, c17, c18, c19, c20, c21, c22, c23, c24, c25, c26, c27, c28, c29, c30, c31, c32, c33, c34, c35, c36, c37, c38, c39, c40, c41, c42, c43, c44, c45, c46, c47, c48, c49, c50, c51, c52, c53, c54, c55, c56, c57, c58, c59, c60, c61, c62, c63, c64, c65, c66, c67, c68, c69, c70, c71, c72, c73, c74, c75, c76, c77, c78, c79, c80, c81, c82, c83, c84, c85, c86, c87, c88, c89, c90, c91, c92, c93, c94, c95, c96, c97, c98, c99, c100, c101, c102, c103, c104, c105, c106, c107, c108, c109, c110, c111, c112, c113, c114, c115, c116, c117, c118, c119, c120, c121, c122, c123, c124, c125, c126, c127, c128, c129, c130, c131, c132, c133, c134, c135, c136, c137, c138, c139, c140, c141, c142, c143, c144, c145, c146, c147, c148, c149, c150, c151, c152, c153, c154, c155, c156, c157, c158, c159, c160, c161, c162, c163, c164, c165, c166, c167, c168, c169, c170, c171, c172, c173, c174, c175, c176, c177, c178, c179, c180, c181, c182, c183, c184, c185, c186, c187, c188, c189, c190, c191, c192, c193, c194, c195, c196, c197, c198, c199, c200, c201, c202, c203, c204, c205, c206, c207, c208, c209, c210, c211, c212, c213, c214, c215, c216, c217, c218, c219, c220, c221, c222, c223, c224, c225, c226, c227, c228, c229, c230, c231, c232, c233, c234, c235, c236, c237, c238, c239, c240, c241, c242, c243, c244, c245, c246, c247, c248, c249, c250, c251, c252, c253, c254, c255, c256, c257, c258, c259, c260, c261, c262, c263, c264, c265, c266, c267, c268, c269, c270], []⟩ W := by
  conv => arg 2; whnf
  subst hroot
  have hmem : ts[i] ∈ ts := List.getElem_mem hi
  have hit := hF.tour _ hmem
  have hwf := hF.wf hmem
  obtain ⟨hl15, _⟩ := hF.len hmem
  obtain ⟨B, d, c0, f0, hS⟩ := hTM.get hi
  obtain ⟨R, pR, pS⟩ := one_perm hi
  have hF2 : Frst (ts.set i (fromT ts[i] u)) es := (Frst.root (hF.perm pR.symm) hui).perm (pS _)
  obtain ⟨hrl, hr0, _, _⟩ := fromT_spec hit hui
  have hml : ∀ b ∈ g :: (Value.ownBlock (.slice AV nV cV)).toList, b < W.heap.size := fun b hb => by
    rcases List.mem_cons.1 hb with rfl | hb
    · exact hTM.glt.2
    · exact own_lt hTM.owE b hb
  have hrp : 0 < ts[i].length := isT_ne hit
  have HST := hide (fun W' (h : TMem W' base g c ps ts (.slice AV nV cV) es) R d' (hx : Sl W' (g :: (Value.ownBlock (.slice AV nV cV)).toList) 1 R ts[i].length d' (ints .i64 (fromT ts[i] u))) => (by
    have hx' : Sl W' (g :: (Value.ownBlock (.slice AV nV cV)).toList) 1 R (fromT ts[i] u).length d' (ints .i64 (fromT ts[i] u)) := by rw [hrl]; exact hx
    have h2 := h.set hi hx'
    rw [hrl] at h2
    exact h2 : TMem (W'.setCell ⟨g, i, none⟩ (.slice R ts[i].length d')) base g c (ps.set i (R, ts[i].length, d')) (ts.set i (fromT ts[i] u)) (.slice AV nV cV) es))
  have HL2 := hide (show (ts.set i (fromT ts[i] u)).length = n by rw [List.length_set]; exact hN)
  generalize ts.set i (fromT ts[i] u) = ts2 at *
  have qr := fun W' (hb : Below W.heap.size W W') => reroot_off ts[i] hwf u B ts[i].length d W' (Sl.less (hS.below hb) (by simp)) (by omega) _ (fun b hb' => Nat.lt_of_lt_of_le (hml b hb') hb.size) (hS.below hb)
  rw [outR_in hit hui] at qr
  simp only [] at qr
  rw [show rotT ts[i] (firstI ts[i] u 0).toNat = fromT ts[i] u from rfl, hrl] at qr
  have QR := hide qr
  have hin : i < n := by omega
  have HF2 := hide hF2
  have HTM := hide hTM
  have HNV := hide hNV
  have HQ := hide hQ
  have HB7 := hide hB7
  have hgl := hTM.glt.2
  have hbg := hTM.glt.1
  clear hF hF2 hN hNV hQ hB7 hB10 hpq hwf hit pR pS hml qr hmem hui hvj hij hS hTM
  generalize fromT ts[i] u = X at *
  generalize ts[i].length = mt at *
  obtain ⟨y0, y1, y2⟩ := HB7.out.facts
  go_wp2_with (fail)
  refine wp_region_lexD [6] (fun w' => Below (W).heap.size (W) w') (by kernel_rfl) (by kernel_rfl) (Below.refl _ _).drew ?_
  (repeat ((with_reducible refine wpLex_step (fun K hK => ?_)); go_simp; first | ((with_reducible refine hK _ _ ?_); clear hK K) | ((with_reducible apply Exists.intro); refine ⟨fun w' hw' => ?_, hK _ _ ?_⟩; (· (have hq := bcells hw'; apply valEq; (· (go_simp; first | done | (with_reducible rfl))); (· ((try go_bits); with_reducible rfl)))); clear hK K)))
  ((with_reducible refine wpLex_step (fun K hK => ?_)); go_simp; refine (QR.out W.drew (Below.refl W.heap.size W).drew).mono ?_; rintro e w7 ⟨R5, d5, rfl, N5, hbx⟩; have g7 := ((Below.refl W.heap.size W).drew).trans (hbx.mono ((Below.refl W.heap.size W).drew).size); skip; refine ⟨_, rfl, g7, hK _ _ ?_⟩; clear hK K hbx)
  (repeat ((with_reducible refine wpLex_step (fun K hK => ?_)); go_simp; first | ((with_reducible refine hK _ _ ?_); clear hK K) | ((with_reducible apply Exists.intro); refine ⟨fun w' hw' => ?_, hK _ _ ?_⟩; (· (have hq := bcells hw'; apply valEq; (· (go_simp; first | done | (with_reducible rfl))); (· ((try go_bits); with_reducible rfl)))); clear hK K)))
  refine wpLex_nil (fun _ => ?_)
  have c7 := (bcells g7 ⟨g, i, none⟩ hgl).trans c0
  have f7 := ((bcell g7).2 g i hgl).trans f0
  have HT7 := hide (HTM.out.below g7)
  obtain ⟨x0, x1, x2⟩ := (HB7.out.below g7 HB7.out.lt).facts
  obtain ⟨rd, hR5, hrd, _, hc⟩ := N5.at_ hrp
  have k0 := hc 0 (.int .i64 u) (by
    have hXl : 0 < X.length := by have := N5.len; simp at this; omega
    rw [ints_get hXl]
    have := hr0
    rw [atI_lt hXl] at this
    rw [this])
  rw [add_zero_] at k0
  subst hR5
  have H9 := hide (HST.out w7.drew (HT7.out.below (Below.refl w7.heap.size w7).drew) (some rd) d5 N5.drew)
  have hb9 := (((Below.refl base W).trans (g7.mono hbase)).drew).setCell (p := ⟨g, i, none⟩) hbg (.slice (some rd) mt d5)
  clear hc c0 f0 y0 y1 y2 HST HTM
  go_wp2_with (fail)
  refine wp_region_lex [] (fun w' => ∀ p, w'.cell? p = w7.cell? p) (by kernel_rfl) (by kernel_rfl) (fun _ => rfl) ?_
  (repeat ((with_reducible refine wpLex_step (fun K hK => ?_)); go_simp; first | ((with_reducible refine hK _ _ ?_); clear hK K) | ((with_reducible apply Exists.intro); refine ⟨fun w' hw' => ?_, hK _ _ ?_⟩; (· (apply valEq; (· (go_simp; first | done | (with_reducible rfl))); (· ((try go_bits); with_reducible rfl)))); clear hK K)))
  refine wpLex_nil (fun _ => ?_)
  have c8 : w7.drew.cell? ⟨g, i, none⟩ = some (.slice B mt d) := c7
  have f8 : w7.drew.frozen? ⟨g, i, none⟩ = false := f7
  clear k0
  go_wp2_with (fail)
  apply HQ.out
  exact ⟨g, c, n, cV, nV, AV, ts2, es, rfl, rfl, HL2, HNV, ⟨_, H9.out⟩, HF2, hb9⟩
end Go.Proofs.Ytbnkanhibjoleaa
