/-
  tour.firsts, tour.Vertices and tour.Edges walked.
-/
import Derived.Test.YtbnkanhibjoleaaTRight
namespace Go.Proofs.Ytbnkanhibjoleaa
open Go Go.RowKit
attribute [local go_sem] Heavy heavyUpon
attribute [local go_sem ↓] isl_hi isl_lo

/-- What stands at a place. -/
def atI (l : List Int) (i : Nat) : Int := l.getD i 0
theorem atI_lt {l : List Int} {i : Nat} (h : i < l.length) : atI l i = l[i] := by simp [atI, List.getD, List.getElem?_eq_getElem h]
def newAt (l : List Int) (i : Nat) : Bool := decide (atI l i ∉ l.take i)
/-- The places at which something is named first. -/
def firstsN (l : List Int) (k : Nat) : List Nat := (List.range k).filter (newAt l)
theorem firstsN_step (l : List Int) (k : Nat) : firstsN l (k + 1) = firstsN l k ++ (if newAt l k = true then [k] else []) := by
  unfold firstsN
  rw [List.range_succ, List.filter_append]
  by_cases h : newAt l k = true
  · simp [h]
  · simp [h]
theorem firstsN_len (l : List Int) (k : Nat) : (firstsN l k).length ≤ k := by
  have := List.length_filter_le (newAt l) (List.range k)
  simpa [firstsN] using this
theorem firstsN_lt {l : List Int} {k i : Nat} (h : i ∈ firstsN l k) : i < k := by
  unfold firstsN at h
  simpa using (List.mem_filter.1 h).1
def natI (l : List Nat) : List Int := l.map Int.ofNat
theorem natI_get {l : List Nat} {i : Nat} (h : i < l.length) : (ints .i64 (natI l))[i]? = some (.int .i64 ((l[i] : Nat) : Int)) := by simp [ints, natI, h]
theorem natI_len (l : List Nat) : (natI l).length = l.length := by simp [natI]

set_option maxRecDepth 100000 in
set_option maxHeartbeats 3200000 in
theorem firsts_any (l : List Int) (hwf : ∀ x ∈ l, (Lit.int .i64 x).wf = true) (A : Option Addr) (m c : Nat) (w : World) (hS : Sl w [] 1 A m c (ints .i64 l)) (hm : m ≤ 4096) :
    Calls Try.prog 29 #[.slice A m c] w fun e w' => ∃ R d, e = .returned (.slice R (firstsN l m).length d) ∧ Sl w' [] 1 R (firstsN l m).length d (ints .i64 (natI (firstsN l m))) ∧ Below w.heap.size w w' := by
  have HL := hide (show l.length = m by have := hS.len; simpa using this)
  have HWF := hide hwf
  clear hwf
  obtain ⟨ie, hie, hze, he1, he2⟩ := info_parts int_info
  have hmk := @run_makeMap Try.prog
  obtain ⟨G, hG⟩ : ∃ G : Nat → List Nat, G = firstsN l := ⟨_, rfl⟩
  have HST := hide (show ∀ k, G (k + 1) = G k ++ (if newAt l k = true then [k] else []) from fun k => by rw [hG]; exact firstsN_step l k)
  have HLN := hide (show ∀ k, (G k).length ≤ k from fun k => by rw [hG]; exact firstsN_len l k)
  have H0 := hide (show G 0 = [] by rw [hG]; rfl)
  rw [← hG]
  clear hG
  have b0 := (Below.refl w.heap.size w).alloc (Nat.le_refl _) (.map #[] 0)
  have seen0 := Seen.made w
  go_enter Try.func29, Try.ntmps29
  go_wp2_with (fail)
  go_loopw [4, 10] (fun a i wr => ∃ (k : Nat) (Ao : Option Addr) (co : Nat), k ≤ m ∧ i = .int .i64 k ∧ a = .slice Ao (G k).length co ∧ Below w.heap.size w wr ∧ Seen wr w.heap.size k (l.take k) ∧
      wr.ownsRow (w.heap.size + 1) 3 1 (.slice Ao (G k).length co) (G k).length (ints .i64 (natI (G k)))) (fun _ i _ => m - (intOf i).toNat)
  case atStart => exact ⟨0, none, 0, Nat.zero_le _, rfl, by rw [H0.out]; rfl, b0, by simpa using seen0, by rw [H0.out]; exact World.ownsRow_nil _ _ _ _⟩
  case round =>
    obtain ⟨k, Ao, co, hk, rfl, rfl, hbr, hseen, hown⟩ := hrel
    have hlen := HLN.out k
    by_cases hlt : k < m
    · have hx : k < l.length := by have := HL.out; omega
      obtain ⟨ad, hA, had, _, hc⟩ := (hS.below hbr).at_ (by omega)
      subst hA
      have c0 := hc k (.int .i64 l[k]) (ints_get hx)
      have hwv := HWF.out _ (List.getElem_mem hx)
      have HP := hide (show ∀ x, x ∈ l[k] :: l.take k ↔ x ∈ l.take (k + 1) from fun x => by rw [List.take_succ_eq_append_getElem hx, List.mem_append, List.mem_cons, List.mem_singleton]; exact Or.comm)
      have HN := hide (show newAt l k = decide (l[k] ∉ l.take k) by unfold newAt; rw [atI_lt hx])
      have HU := hide (HST.out k)
      have hk3 := Seen.lt hseen
      clear hc
      generalize l[k] = v at *
      have HOW := hide hown
      have HSE := hide hseen
      clear hown hseen
      have HRV := hide (show ∃ A c, (Value.slice Ao (G k).length co) = .slice A (G k).length c from ⟨_, _, rfl⟩)
      have hwz := hbr.size
      generalize Value.slice Ao (G k).length co = RV at *
      (go_wp2_with (with_reducible refine stopLook ?_); refine stopGo ?_)
      refine wpList_seen_look rfl (.tmp 15) (.tmp 16) rfl w.heap.size _ _ rfl HSE.out v rfl hwv ?_
      by_cases hv : v ∈ l.take k
      · rw [if_pos hv]
        have HF := hide (show G (k + 1) = G k by rw [HU.out, if_neg (by rw [HN.out]; simpa using hv), List.append_nil])
        have SE2 := hide ((HSE.out.mono (Nat.le_succ k)).congr (fun x => by rw [← HP.out, List.mem_cons]; exact ⟨.inr, fun h => h.elim (fun h => h ▸ hv) id⟩))
        clear hv HSE
        go_wp2_with (fail)
        obtain ⟨A6, c6, rfl⟩ := HRV.out
        exact ⟨⟨k + 1, A6, c6, by omega, by go_num, by rw [HF.out], hbr, SE2.out, by rw [HF.out]; exact HOW.out⟩, by simp [intOf]; omega⟩
      · rw [if_neg hv]
        have HF := hide (show G (k + 1) = G k ++ [k] by rw [HU.out, if_pos (by rw [HN.out]; simpa using hv)])
        have HNE := hide (own_ne HOW.out)
        clear hv
        (go_wp2_with (with_reducible refine stopPut ?_); refine stopGo ?_)
        refine wpList_seen_put rfl (.tmp 19) (.tmp 20) _ rfl w.heap.size _ _ rfl HSE.out (by unfold maxLen; omega) v rfl rfl hwv ?_
        intro w3 seen3 g3
        have hb3 : Below w.heap.size w w3 := hbr.grown g3 hbr.size (fun k hk => by cases hk; exact Nat.le_refl _)
        have own3 := World.ownsRow.kept HOW.out g3 (.inr (fun e => HNE.out e.symm))
        have SE3 := hide (seen3.congr HP.out)
        have OW3 := hide own3
        have hk3 := Seen.lt seen3
        clear seen3 own3 g3 HOW HSE c0
        ((go_wp2_with (at_builtin; refine stopAt ?_); refine stopGo ?_); have N2 : Sl ((w3).alloc (.cells #[.int .i64 (k : Int)] 3)) [] 1 (some ⟨(w3).heap.size, 0, none⟩) 1 1 (ints .i64 [(k : Int)]) := i1_new (w3) (k : Int); have O2 := (OW3.out).alloc (.cells #[.int .i64 (k : Int)] 3); have hb2 := (hb3).alloc (hb3).size (.cells #[.int .i64 (k : Int)] 3); have szl := hb2.size; (try rw [heap_alloc_size] at N2); refine wpList_append_sl _ rfl (.tmp 21) (.tmp 23) _ rfl (w.heap.size + 1) 3 ie _ 1 8 Try.underlying22 hie hze he1 he2 rfl (by omega) RV _ _ rfl O2 [] _ 1 1 (ints .i64 [(k : Int)]) rfl N2 ints_one (by simp only [maxLen]; omega) (by omega) (by first | omega | (simp; done) | (simp; omega)) ?_; intro A5 c5 w5 own5 g5 _; rw [← ints_append] at own5)
        have SE5 := hide ((SE3.out.alloc (.cells #[.int .i64 (k : Int)] 3)).grown g5 HNE.out)
        have hg5 := below_grown O2 g5 (Nat.le_succ w.heap.size) (by first | omega | (simp; omega))
        have hb5 := hb2.trans hg5
        have e1 : natI (G k) ++ [(k : Int)] = natI (G (k + 1)) := by rw [HF.out]; simp [natI]
        rw [e1] at own5
        have hl5 : (G k).length + 1 = (G (k + 1)).length := by rw [HF.out, List.length_append]; rfl
        rw [hl5] at own5 ⊢
        have OW5 := hide own5
        clear own5 g5 hg5 O2 N2 e1 hl5
        go_wp2_with (fail)
        exact ⟨⟨k + 1, A5, c5, by omega, by go_num, rfl, hb5, SE5.out, OW5.out⟩, by simp [intOf]; omega⟩
    · have hkm : k = m := by omega
      subst hkm
      have N5 := hide (own_sl hown [] (by simp))
      clear hown hseen
      go_wp2_with (fail)
      go_ret
      exact ⟨Ao, co, rfl, N5.out, hbr⟩

/-- The vertices of a tour, and its edges: as the program tells them. -/
def vertsT (l : List Int) : List Int := (firstsN l l.length).map (atI l)
def mkE (a b : Int) : E3 := if a < b then (a, b, 0) else (b, a, 0)
def edgeAt (l : List Int) (i : Nat) : E3 := mkE (atI l i) (atI l (i - 1))
def edgesT (l : List Int) : List E3 := ((firstsN l l.length).drop 1).map (edgeAt l)
def outV (l : List Int) : List Int := if isT l = true then vertsT l else []
def outD (l : List Int) : List E3 := if isT l = true then edgesT l else []
theorem map_step {α β : Type} (f : α → β) (l : List α) {k : Nat} (h : k < l.length) : (l.take (k + 1)).map f = (l.take k).map f ++ [f l[k]] := by
  rw [List.take_succ_eq_append_getElem h, List.map_append]; rfl

set_option maxRecDepth 100000 in
set_option maxHeartbeats 3200000 in
theorem verts_any (l : List Int) (hwf : ∀ x ∈ l, (Lit.int .i64 x).wf = true) (A : Option Addr) (m c : Nat) (w : World) (hS : Sl w [] 1 A m c (ints .i64 l)) (hm : m ≤ 4096) :
    Calls Try.prog 17 #[.slice A m c] w fun e w' => ∃ R d, e = .returned (.slice R (outV l).length d) ∧ Sl w' [] 1 R (outV l).length d (ints .i64 (outV l)) ∧ Below w.heap.size w w' := by
  have HL := hide (show l.length = m by have := hS.len; simpa using this)
  have qr := fun W h => isT_any l hwf A m c W h hm
  have QF := hide (fun W h => firsts_any l hwf A m c W h hm)
  unfold outV
  cases hr : isT l
  case false =>
    rw [hr] at qr
    have QR := hide qr
    clear qr hr hwf
    go_enter Try.func17, Try.ntmps17
    go_wp2_with (fail)
    refine (QR.out w hS).mono ?_
    rintro e w1 ⟨rfl, b1⟩
    go_wp2_with (fail)
    go_ret
    exact ⟨none, 0, rfl, Sl.nil_ _ _ _, b1⟩
  case true =>
    rw [hr] at qr
    have QR := hide qr
    clear qr hr hwf
    rw [if_pos rfl]
    obtain ⟨ie, hie, hze, he1, he2⟩ := info_parts int_info
    have HFL := hide (firstsN_len l m)
    have HFT := hide (fun i (h : i ∈ firstsN l m) => firstsN_lt h)
    unfold vertsT
    rw [HL.out]
    generalize firstsN l m = F at *
    obtain ⟨G, hG⟩ : ∃ G : Nat → List Int, G = fun k => (F.take k).map (atI l) := ⟨_, rfl⟩
    have H0 := hide (show G 0 = [] by rw [hG]; rfl)
    have HST := hide (show ∀ (k : Nat) (h : k < F.length), G (k + 1) = G k ++ [atI l F[k]] from fun k h => by rw [hG]; exact map_step _ F h)
    have HLN := hide (show ∀ k, (G k).length ≤ k from fun k => by rw [hG]; simp; omega)
    have HE := hide (show G F.length = F.map (atI l) by rw [hG]; simp)
    clear hG
    go_enter Try.func17, Try.ntmps17
    go_wp2_with (fail)
    refine (QR.out w hS).mono ?_
    rintro e w1 ⟨rfl, b1⟩
    go_wp2_with (fail)
    refine (QF.out w1 (hS.below b1)).mono ?_
    rintro e w2 ⟨R2, d2, rfl, N2', b2⟩
    have hb2' := b1.trans (b2.mono b1.size)
    clear b1 b2
    have hfl := HFL.out
    go_wp2_with (fail)
    go_loopw [3, 12] (fun a i wr => ∃ (k : Nat) (Ao : Option Addr) (co : Nat), k ≤ F.length ∧ i = .int .i64 k ∧ a = .slice Ao (G k).length co ∧ Below w2.heap.size w2 wr ∧
        wr.ownsRow w2.heap.size 3 1 (.slice Ao (G k).length co) (G k).length (ints .i64 (G k))) (fun _ i _ => F.length - (intOf i).toNat)
    case atStart => exact ⟨0, none, 0, Nat.zero_le _, rfl, by rw [H0.out]; rfl, Below.refl _ _, by rw [H0.out]; exact World.ownsRow_nil _ _ _ _⟩
    case round =>
      obtain ⟨k, Ao, co, hk, rfl, rfl, hbr, hown⟩ := hrel
      have hlen := HLN.out k
      have Sr := hS.below (hb2'.trans (hbr.mono hb2'.size))
      by_cases hlt : k < F.length
      · obtain ⟨fd, hF, hfd, _, hc⟩ := (N2'.below hbr).at_ (by omega)
        subst hF
        have c0 := hc k _ (natI_get hlt)
        have hpl := HFT.out _ (List.getElem_mem hlt)
        have HU := hide (HST.out k hlt)
        clear hc
        generalize F[k] = p at *
        obtain ⟨ad, hA, had, _, hc⟩ := Sr.at_ (by omega)
        subst hA
        have hp : p < l.length := by have := HL.out; omega
        have c1 := hc p (.int .i64 l[p]) (ints_get hp)
        rw [← atI_lt hp] at c1
        clear hc
        generalize atI l p = v at *
        have hpm : (p : Int) < (m : Int) := by omega
        have HOW := hide hown
        clear hown
        generalize Value.slice Ao (G k).length co = RV at *
        ((go_wp2_with (at_builtin; refine stopAt ?_); refine stopGo ?_); have N2 : Sl ((wr).alloc (.cells #[.int .i64 v] 3)) [] 1 (some ⟨(wr).heap.size, 0, none⟩) 1 1 (ints .i64 [v]) := i1_new (wr) v; have O2 := (HOW.out).alloc (.cells #[.int .i64 v] 3); have hb2 := (hbr).alloc (hbr).size (.cells #[.int .i64 v] 3); have szl := hb2.size; (try rw [heap_alloc_size] at N2); refine wpList_append_sl _ rfl (.tmp 16) (.tmp 21) _ rfl w2.heap.size 3 ie _ 1 8 Try.underlying22 hie hze he1 he2 rfl (by omega) RV _ _ rfl O2 [] _ 1 1 (ints .i64 [v]) rfl N2 ints_one (by simp only [maxLen]; omega) (by omega) (by first | omega | (simp; done) | (simp; omega)) ?_; intro A5 c5 w5 own5 g5 _; rw [← ints_append] at own5)
        rw [← HU.out] at own5
        have hl5 : (G k).length + 1 = (G (k + 1)).length := by rw [HU.out, List.length_append]; rfl
        rw [hl5] at own5 ⊢
        have hg5 := below_grown O2 g5 (Nat.le_refl _) (by first | omega | (simp; omega))
        have hb5 := hb2.trans hg5
        have OW5 := hide own5
        clear own5 g5 hg5 O2 N2 hl5 c0 c1
        go_wp2_with (fail)
        exact ⟨⟨k + 1, A5, c5, by omega, by go_num, rfl, hb5, OW5.out⟩, by simp [intOf]; omega⟩
      · have hkm : k = F.length := by omega
        subst hkm
        have N5 := hide (own_sl hown [] (by simp))
        rw [HE.out] at N5
        rw [HE.out]
        clear hown
        go_wp2_with (fail)
        go_ret
        exact ⟨Ao, co, rfl, N5.out, hb2'.trans (hbr.mono hb2'.size)⟩
end Go.Proofs.Ytbnkanhibjoleaa
