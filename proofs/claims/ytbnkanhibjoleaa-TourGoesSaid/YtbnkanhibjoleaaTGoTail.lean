/-
  TourGoes: what is asked behind each step, walked.
-/
import Derived.Test.YtbnkanhibjoleaaTGoCode
namespace Go.Proofs.Ytbnkanhibjoleaa
open Go Go.RowKit
attribute [local go_sem] Heavy heavyUpon
attribute [local go_sem ↓] edge_eql tsl_hi esl_hi esl_lo

set_option maxRecDepth 100000 in
set_option maxHeartbeats 6400000 in
theorem go_tail (W : World) (base g c n cV nV : Nat) (AV : Option Addr) (ps : List P3) (ts : List (List Int)) (es : List E3) (hN : ts.length = n) (hNV : es.length = nV) (hn8 : n + nV = 8) (hTM : TMem W base g c ps ts (.slice AV nV cV) es) (hF : Frst ts es)
    (c0 c1 c2 c5 c6 c7 c8 c9 c10 c11 c12 c13 c14 c15 c16 c17 c18 c19 c20 c21 c22 c23 c24 c25 c26 c27 c28 c29 c30 c31 c32 c33 c34 c35 c36 c37 c38 c39 c40 c41 c42 c43 c44 c45 c46 c47 c48 c49 c50 c51 c52 c53 c54 c55 c56 c57 c58 c59 c60 c61 c62 c63 c64 c65 c66 c67 c68 c69 c70 c71 c72 c73 c74 c75 c76 c77 c78 c79 c80 c81 c82 c83 c84 c85 c86 c87 c88 c89 c90 c91 c92 c93 c94 c95 c96 c97 c98 c99 c100 c101 c102 c103 c104 c105 c106 c107 c108 c109 c110 c111 c112 c113 c114 c115 c116 c117 c118 c119 c120 c121 c122 c123 c124 c125 c126 c127 c128 c129 c130 c131 c132 c133 c134 c135 c136 c137 c138 c139 c140 c141 c142 c143 c144 c145 c146 c147 c148 c149 c150 c151 c152 c153 c154 c155 c156 c157 c158 c159 c160 c161 c162 c163 c164 c165 c166 c167 c168 c169 c170 c171 c172 c173 c174 c175 c176 c177 c178 c179 c180 c181 c182 c183 c184 c185 c186 c187 c188 c189 c190 c191 c192 c193 c194 c195 c196 c197 c198 c199 c200 c201 c202 c203 c204 c205 c206 c207 c208 c209 c210 c211 c212 c213 c214 c215 c216 c217 c218 c219 c220 c221 c222 c223 c224 c225 c226 c227 c228 c229 c230 c231 c232 c233 c234 c235 c236 c237 c238 c239 c240 c241 c242 c243 c244 c245 c246 c247 c248 c249 c250 c251 c252 c253 c254 c255 c256 c257 c258 c259 c260 c261 c262 c263 c264 c265 c266 c267 c268 c269 c270 : Value) (Q : Exit → Act → World → Prop)
    (hQ : ∀ (u2 u21 u22 u24 u242 u243 u244 u245 u246 u247 u248 u249 u250 u251 u252 u253 u254 u255 u256 u257 u258 u259 u260 u261 u262 u263 u264 u265 u266 u267 u268 : Value) (w' : World), Below W.heap.size W w' → Q .normal ⟨#[c0, c1, u2, .slice (some ⟨g, 0, none⟩) n c, .slice AV nV cV, c5, c6, c7, c8, c9, c10, c11, c12, c13, c14, c15, c16, c17, c18, c19, c20, u21, u22, c23, u24, c25, c26, c27, c28, c29, c30, c31, c32, c33, c34, c35, c36, c37, c38, c39, c40, c41, c42, c43, c44, c45, c46, c47, c48, c49, c50, c51, c52, c53, c54, c55, c56, c57, c58, c59, c60, c61, c62, c63, c64, c65, c66, c67, c68, c69, c70, c71, c72, c73, c74, c75, c76, c77, c78, c79, c80, c81, c82, c83, c84, c85, c86, c87, c88, c89, c90, c91, c92, c93, c94, c95, c96, c97, c98, c99, c100, c101, c102, c103, c104, c105, c106, c107, c108, c109, c110, c111, c112, c113, c114, c115, c116, c117, c118, c119, c120, c121, c122, c123, c124, c125, c126, c127, c128, c129, c130, c131, c132, c133, c134, c135, c136, c137, c138, c139, c140, c141, c142, c143, c144, c145, c146, c147, c148, c149, c150, c151, c152, c153, c154, c155, c156, c157, c158, c159, c160, c161, c162, c163, c164, c165, c166, c167, c168, c169, c170, c171, c172, c173, c174, c175, c176, c177, c178, c179, c180, c181, c182, c183, c184, c185, c186, c187, c188, c189, c190, c191, c192, c193, c194, c195, c196, c197, c198, c199, c200, c201, c202, c203, c204, c205, c206, c207, c208, c209, c210, c211, c212, c213, c214, c215, c216, c217, c218, c219, c220, c221, c222, c223, c224, c225, c226, c227, c228, c229, c230, c231, c232, c233, c234, c235, c236, c237, c238, c239, c240, c241, u242, u243, u244, u245, u246, u247, u248, u249, u250, u251, u252, u253, u254, u255, u256, u257, u258, u259, u260, u261, u262, u263, u264, u265, u266, u267, u268, c269, c270], []⟩ w') :
    Code.wp Try.prog (tailOf Try.f4.body) Q ⟨#[c0, c1, c2, .slice (some ⟨g, 0, none⟩) n c, .slice AV nV cV, c5, c6, c7, c8, c9, c10, c11, c12, c13, c14, c15, c16, c17, c18, c19, c20, c21, c22, c23, c24, c25, c26, c27, c28, c29, c30, c31, c32, c33, c34, c35, c36, c37, c38, c39, c40, c41, c42, c43, c44, c45, c46, c47, c48, c49, c50, c51, c52, c53, c54, c55, c56, c57, c58, c59, c60, c61, c62, c63, c64, c65, c66, c67, c68, c69, c70, c71, c72, c73, c74, c75, c76, c77, c78, c79, c80, c81, c82, c83, c84, c85, c86, c87, c88, c89, c90, c91, c92, c93, c94, c95, c96, c97, c98, c99, c100, c101, c102, c103, c104, c105, c106, c107, c108, c109, c110, c111, c112, c113, c114, c115, c116, c117, c118, c119, c120, c121, c122, c123, c124, c125, c126, c127, c128, c129, c130, c131, c132, c133, c134, c135, c136, c137, c138, c139, c140, c141, c142, c143, c144, c145, c146, c147, c148, c149, c150, c151, c152, c153, c154, c155, c156, c157, c158, c159, c160, c161, c162, c163, c164, c165, c166, c167, c168, c169, c170, c171, c172, c173, c174, c175, c176, c177, c178, c179, c180, c181, c182, c183, c184, c185, c186, c187, c188, c189, c190, c191, c192, c193, c194, c195, c196, c197, c198, c199, c200, c201, c202, c203, c204, c205, c206, c207, c208, c209, c210, c211, c212, c213, c214, c215, c216, c217, c218, c219, c220, c221, c222, c223, c224, c225, c226, c227, c228, c229, c230, c231, c232, c233, c234, c235, c236, c237, c238, c239, c240, c241, c242, c243, c244, c245, c246, c247, c248, c249, c250, c251, c252, c253, c254, c255, c256, c257, c258, c259, c260, c261, c262, c263, c264, c265, c266, c267, c268, c269, c270], []⟩ W := by
  conv => arg 2; whnf
  obtain ⟨ie, hie, hze, he1, he2⟩ := info_parts edge_info
  have hne : (ts.flatMap edgesT).length = nV := by rw [← hF.edges.length_eq]; exact hNV
  have HGL := hide (show ∀ x, (gotE ts x).length ≤ nV from fun x => by rw [← hne]; exact gotE_le ts x)
  have HMV := hide (show ∀ x, manyV ts x = (gotE ts x).length + (ts.take x).length from fun x => manyV_eq hF.tour x)
  have HTM := hide hTM
  have HF := hide hF
  have HN := hide hN
  have HNV := hide hNV
  have HQ := hide hQ
  have O0 := hide (World.ownsRow_nil W W.heap.size 38 3)
  clear hTM hF hN hNV hQ hne
  go_wp2_with (fail)
  go_loopw [21, 22, 244] (fun a b i wr => ∃ (x y z : Nat) (AG : Option Addr) (cG : Nat), x ≤ n ∧ i = .int .i64 x ∧ a = .slice AG y cG ∧ b = .int .i64 z ∧ Hid (y = (gotE ts x).length) ∧ Hid (z = manyV ts x) ∧ Below W.heap.size W wr ∧ Hid (wr.ownsRow W.heap.size 38 3 (.slice AG y cG) y (ecells (gotE ts x)))) (fun _ _ i _ => n - (intOf i).toNat)
  case atStart => exact ⟨0, 0, 0, none, 0, Nat.zero_le _, rfl, rfl, rfl, hide rfl, hide rfl, Below.refl _ _, O0⟩
  case round =>
    clear O0
    obtain ⟨x, y, z, AG, cG, hx, rfl, rfl, rfl, HY, HZ, hbr, HO⟩ := hrel
    by_cases hlt : x < n
    · have hxt : x < ts.length := by have := HN.out; omega
      obtain ⟨B, d, c00, _, hS⟩ := HTM.out.get hxt
      have c0 := (bcells hbr ⟨g, x, none⟩ HTM.out.glt.2).trans c00
      clear c00
      have hmem : ts[x] ∈ ts := List.getElem_mem hxt
      have HGS := hide (gotE_step hxt)
      have HMS := hide (manyV_step hxt)
      generalize ts[x] = t at *
      have hit := HF.out.tour _ hmem
      have hwf := HF.out.wf hmem
      obtain ⟨hl15, he7⟩ := HF.out.len hmem
      have hvl := verts_len t (isT_ne hit)
      have QR := hide (fun W h => isT_any t hwf B t.length d W h (by omega))
      have QR2 : Hid (∀ W, Sl W [] 1 B t.length d (ints .i64 t) → Calls Try.prog 15 #[.slice B t.length d] W (Ret (.bool true) W)) := fun W h => by
        have := QR.out W h
        rwa [hit] at this
      have qe := fun W h => edges_any t hwf B t.length d W h (by omega)
      have qv := fun W h => verts_any t hwf B t.length d W h (by omega)
      rw [outD_in hit] at qe
      rw [outV_in hit] at qv
      have QE := hide qe
      have QV := hide qv
      have hy := HGL.out (x + 1)
      have hzz := HMV.out (x + 1)
      rw [HGS.out, List.length_append] at hy
      have hS0 := Sl.less hS (M' := []) (by simp)
      have HS := hide hS0
      have hz9 : z ≤ 16 ∧ (vertsT t).length ≤ 8 := by
        have h1 := HMV.out x
        have h2 := HGL.out x
        have h3 : (ts.take x).length ≤ 8 := by rw [List.length_take]; omega
        have h4 := HZ.out
        omega
      obtain ⟨hz9, hz10⟩ := hz9
      have hy9 : y + (edgesT t).length ≤ 8 := by have := HY.out; omega
      clear hwf hit hmem hxt qe qv QR hl15 hvl hS hS0 hy hzz
      generalize edgesT t = E at *
      generalize vertsT t = V at *
      go_wp2_with (fail)
      refine (QR2.out wr (HS.out.below hbr)).mono ?_
      rintro e w1 ⟨rfl, b1⟩
      have hb1 := hbr.trans (b1.mono hbr.size)
      have S1 := HS.out.below hb1
      have O1 := hide (own_keep HO.out b1)
      clear HO b1 c0
      go_wp2_with (fail)
      refine (QE.out w1 S1).mono ?_
      rintro e w2 ⟨R2, d2, rfl, Z2, b2⟩
      have hb2 := hb1.trans (b2.mono hb1.size)
      have O2 := hide (own_keep O1.out b2)
      clear O1 b2 S1 hb1
      (go_wp2_with (at_builtin; refine stopAt ?_); refine stopGo ?_)
      refine wpList_append_sl _ rfl (.tmp 251) (.tmp 253) _ rfl W.heap.size 38 ie _ 3 24 Try.underlying33 hie hze he1 he2 rfl (by omega) _ _ _ rfl O2.out [] _ E.length d2 (ecells E) rfl Z2 ecells_one (by simp only [maxLen]; omega) (by omega) hb2.size ?_
      intro A5 c5 w5 own5 g5 _
      rw [← ecells_append, ← HGS.out] at own5
      have hg5 := below_grown O2.out g5 (Nat.le_refl _) hb2.size
      have hb5 := hb2.trans hg5
      have O5 := hide own5
      clear own5 g5 hg5 O2 hb2 Z2 hbr
      go_wp2_with (fail)
      refine (QV.out w5 (HS.out.below hb5)).mono ?_
      rintro e w6 ⟨R6, d6, rfl, _, b6⟩
      have hb6 := hb5.trans (b6.mono hb5.size)
      have O6 := hide (own_keep O5.out b6)
      have HY6 := hide (show y + E.length = (gotE ts (x + 1)).length by rw [HGS.out, List.length_append, HY.out])
      have HZ6 := hide (show z + V.length = manyV ts (x + 1) by rw [HMS.out, HZ.out])
      clear O5 b6 hb5 HS QR2 QE QV
      go_wp2_with (fail)
      exact ⟨⟨x + 1, y + E.length, z + V.length, A5, c5, by omega, by go_num, rfl, by go_num, HY6, HZ6, hb6, O6⟩, by simp [intOf]; omega⟩
    · obtain rfl : x = n := by omega
      have e1 : gotE ts x = ts.flatMap edgesT := by unfold gotE; rw [List.take_of_length_le (by have := HN.out; omega)]
      have hz8 : z = 8 := by
        have h1 := HMV.out x
        have h2 := HF.out.edges.length_eq
        have h3 := HNV.out
        have h4 : (ts.take x).length = x := by rw [List.length_take]; have := HN.out; omega
        have h5 := HZ.out
        rw [e1] at h1
        omega
      subst hz8
      have hOs := own_sl HO.out [] (by simp)
      have HE := hide ((HTM.out.below hbr).esl HNV.out)
      have hp : (gotE ts x).Perm es := by rw [e1]; exact HF.out.edges.symm
      have hyn : y ≤ 8 := by have := HY.out; have := HGL.out x; omega
      have hz0 : ∀ e ∈ gotE ts x, e.2.2 = 0 := fun e he => by
        rw [e1] at he
        obtain ⟨t, _, ht⟩ := List.mem_flatMap.1 he
        exact edges_zero ht
      have HCALL := hide (ledges_yes (gotE ts x) es hp hz0 AG AV y cG nV cV wr hOs HE.out (by omega) (by omega))
      clear hp hz0 hOs HO e1
      go_wp2_with (fail)
      refine (HCALL.out).mono ?_
      rintro e w7 ⟨rfl, b7⟩
      have hb7 := hbr.trans (b7.mono hbr.size)
      clear HCALL hbr b7
      go_wp2_with (fail)
      apply HQ.out
      exact hb7
end Go.Proofs.Ytbnkanhibjoleaa
