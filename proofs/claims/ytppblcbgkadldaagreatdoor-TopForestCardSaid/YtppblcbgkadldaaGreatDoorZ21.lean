/-
  A part of the proof that the law TopForest returns true for every input and leaves its arguments as they were: Mod, Mul, Sketch.
-/
import Derived.Test.YtppblcbgkadldaaGreatDoorZ00
import Derived.Test.YtppblcbgkadldaaGreatDoorZ02
import Derived.Test.YtppblcbgkadldaaGreatDoorZ03
import Derived.Test.YtppblcbgkadldaaGreatDoorZ06
import Derived.BigQuiet
import Derived.Deep.LoopGhost
import Derived.IntWalk
import Derived.Laws.Bits64
import Derived.Laws.Closers25b
import Derived.WalkKit
set_option linter.all false
namespace Go.Proofs.YtppblcbgkadldaaGreatDoor
open Go Go.RowKit
set_option maxRecDepth 100000
attribute [local go_sem] Heavy heavyUpon
theorem modOf_ok (x:Int) (h0:0 ≤ x) (h1:x < 18446744073709551616) (w:World):Calls Tryz.prog 154 #[.int .u64 x] w (Ret (.int .u64 (x % 2305843009213693951)) w):=by
  go_enter Tryz.func154,Tryz.ntmps154
  go_wp2_with (fail)
  go_ret
  exact ⟨rfl,Below.refl _ _⟩
theorem modAdd_ok (x y:Int) (h0:0 ≤ x) (h1:x < 18446744073709551616) (h2:0 ≤ y) (h3:y < 18446744073709551616) (w:World):Calls Tryz.prog 118 #[.int .u64 x,.int .u64 y] w fun e w'=>∃ z:Int,e=.returned (.int .u64 z) ∧ 0 ≤ z ∧ z < 2305843009213693951 ∧ Below w.heap.size w w':=by
  have QX:=hide (fun W=>modOf_ok x h0 h1 W)
  have QY:=hide (fun W=>modOf_ok y h2 h3 W)
  obtain ⟨a,ha⟩:∃ a,a=x % 2305843009213693951:=⟨_,rfl⟩
  obtain ⟨b,hb⟩:∃ b,b=y % 2305843009213693951:=⟨_,rfl⟩
  rw [← ha] at QX
  rw [← hb] at QY
  have a0:0 ≤ a:=by omega
  have a1:a < 2305843009213693951:=by omega
  have b0:0 ≤ b:=by omega
  have b1:b < 2305843009213693951:=by omega
  clear ha hb h0 h1 h2 h3
  go_enter Tryz.func118,Tryz.ntmps118
  go_wp2_with (fail)
  refine (QX.out _).mono ?_
  rintro e w1 ⟨rfl,c1⟩
  go_wp2_with (fail)
  refine (QY.out _).mono ?_
  rintro e w2 ⟨rfl,c2⟩
  have hb2:=c1.trans (c2.mono c1.size)
  go_wp2_with (fail)
  go_ret
  exact ⟨_,rfl,by omega,by omega,hb2⟩
def U64 (v:Value):Prop:=∃ x:Int,v=.int .u64 x ∧ 0 ≤ x ∧ x < 18446744073709551616
def Rem1 (v:Value) (w:World) (w':World):Prop:=∃ a b:Value,v=.tuple #[a,b] ∧ U64 a ∧ U64 b ∧ Below w.heap.size w w'
theorem wrapU (x:Int):0 ≤ IntKind.u64.wrap x ∧ IntKind.u64.wrap x < 18446744073709551616:=by
  rw [IntKind.wrap_u64];omega
theorem divStep {gk:Nat} {b:Int} (h:gk=2 ∨ (gk=1 ∧ b < 4294967296) ∨ (gk=0 ∧ b=4294967295)) (b0:0 ≤ b) (b1:b < 18446744073709551616) (hl:IntKind.u64.wrap (b + 4294967295) < 4294967296) :
    ∃ gk',gk' < gk ∧ (gk'=2 ∨ (gk'=1 ∧ IntKind.u64.wrap (b + 4294967295) < 4294967296) ∨ (gk'=0 ∧ IntKind.u64.wrap (b + 4294967295)=4294967295)):=by
  rcases h with rfl | ⟨rfl,h⟩ | ⟨rfl,h⟩
  · exact ⟨1,by omega,.inr (.inl ⟨rfl,hl⟩)⟩
  · rw [IntKind.wrap_u64] at hl ⊢
    exact ⟨0,by omega,.inr (.inr ⟨rfl,by omega⟩)⟩
  · rw [IntKind.wrap_u64] at hl
    omega
set_option maxHeartbeats 12800000 in
theorem div64_ok (hi lo:Int) (h0:0 ≤ hi) (h1:hi < 2305843009213693951) (h2:0 ≤ lo) (h3:lo < 18446744073709551616) (w:World) :
    Calls Tryz.prog 186 #[.int .u64 hi,.int .u64 lo,.int .u64 2305843009213693951] w fun e w'=>∃ v,e=.returned v ∧ Rem1 v w w':=by
  have QZ:=hide (fun W=>Tryz.bits_LeadingZeros64 2305843009213693951 W (by omega) (by omega))
  have hz:(64 - (Lib.bitLen (2305843009213693951:Int).toNat:Int))=3:=by decide
  rw [hz] at QZ
  clear hz
  by_cases hh:hi=0
  · subst hh
    have hbd:decide ((2305843009213693951:Int) ≤ 0)=false:=by decide
    have q0:0 ≤ lo / 2305843009213693951:=by omega
    have q1:lo / 2305843009213693951 < 18446744073709551616:=by omega
    have q2:0 ≤ lo % 2305843009213693951:=by omega
    have q3:lo % 2305843009213693951 < 18446744073709551616:=by omega
    go_enter Tryz.func186,Tryz.ntmps186
    go_wp2_with (fail)
    refine wp_region_lexD [] (fun w'=>Below (w).heap.size (w) w') (by kernel_rfl) (by kernel_rfl) (Below.refl _ _).drew ?_
    (repeat ((with_reducible refine wpLex_step (fun K hK=>?_));go_simp;first | ((with_reducible refine hK _ _ ?_);clear hK K) | ((with_reducible apply Exists.intro);refine ⟨fun w' hw'=>?_,hK _ _ ?_⟩;(· (have hq:=bcells hw';apply valEq;(· (go_simp;first | done | (with_reducible rfl)));(· ((try go_bits);with_reducible rfl))));clear hK K)))
    refine wpLex_nil (fun hbr=>?_)
    go_wp2_with (fail)
    go_ret2
    exact ⟨_,rfl,_,_,rfl,⟨_,rfl,q0,q1⟩,⟨_,rfl,q2,q3⟩,hbr⟩
  · have hd1:decide ((2305843009213693951:Int) ≤ hi)=false:=by simp;omega
    have hd2:(hi == 0)=false:=by simpa using hh
    go_enter Tryz.func186,Tryz.ntmps186
    go_wp2_with (fail)
    refine (QZ.out _).mono ?_
    rintro e w1 ⟨rfl,rfl⟩
    go_wp2_with (fail)
    generalize bits BinOp.or IntKind.u64 (hi * 8) (lo / 2305843009213693952)=X at *
    generalize bits BinOp.and IntKind.u64 18446744073709551608 4294967295=Y at *
    generalize bits BinOp.and IntKind.u64 (IntKind.u64.wrap (lo * 8)) 4294967295=Z at *
    generalize IntKind.u64.wrap (lo * 8)=V at *
    have hw1:=wrapU (X.tdiv 4294967295)
    generalize IntKind.u64.wrap (X.tdiv 4294967295)=q0 at *
    have hw2:=wrapU (X - IntKind.u64.wrap (q0 * 4294967295))
    generalize IntKind.u64.wrap (X - IntKind.u64.wrap (q0 * 4294967295))=r0 at *
    generalize IntKind.u64.wrap (q0 * 4294967295)=s0 at *
    go_loopg [15,16] 2 (fun gk q r wr=>∃ a b:Int,Below w1.heap.size w1 wr ∧ q=.int .u64 a ∧ r=.int .u64 b ∧ 0 ≤ a ∧ a < 18446744073709551616 ∧ 0 ≤ b ∧ b < 18446744073709551616 ∧ (gk=2 ∨ (gk=1 ∧ b < 4294967296) ∨ (gk=0 ∧ b=4294967295)))
    case atStart=>exact ⟨q0,r0,Below.refl _ _,rfl,rfl,hw1.1,hw1.2,hw2.1,hw2.2,.inl rfl⟩
    case round =>
      obtain ⟨a,b,hbr,rfl,rfl,a0,a1,b0,b1,hst⟩:=hrel
      have HST:=hide hst
      clear hst
      go_wp2_with (fail)
      all_goals
        first
        | (have hlt:IntKind.u64.wrap (b + 4294967295) < 4294967296:=(by assumption);obtain ⟨gk',hgk,hst'⟩:=divStep HST.out b0 b1 hlt;clear HST hlt;go_roundg gk';(case measure=>exact hgk);(case rel=>exact ⟨_,_,hbr,rfl,rfl,(by first | exact (wrapU _).1 | omega),(by first | exact (wrapU _).2 | omega),(wrapU _).1,(wrapU _).2,hst'⟩))
        | (((try generalize decide (4294967296 ≤ a)=B1 at *);(try generalize decide (IntKind.u64.wrap (IntKind.u64.wrap (4294967296 * b) + V / 4294967296) < IntKind.u64.wrap (a * Y))=B2 at *);(try generalize decide (4294967296 ≤ IntKind.u64.wrap (b + 4294967295))=B3 at *))
           go_loopg [16,18] 2 (fun gk r q wr=>∃ a b:Int,Below w1.heap.size w1 wr ∧ q=.int .u64 a ∧ r=.int .u64 b ∧ 0 ≤ a ∧ a < 18446744073709551616 ∧ 0 ≤ b ∧ b < 18446744073709551616 ∧ (gk=2 ∨ (gk=1 ∧ b < 4294967296) ∨ (gk=0 ∧ b=4294967295)))
           case atStart=>exact ⟨_,_,hbr,rfl,rfl,(wrapU _).1,(wrapU _).2,(wrapU _).1,(wrapU _).2,.inl rfl⟩
           case round =>
             clear HST hbr
             obtain ⟨a2,b2,hbr,rfl,rfl,a20,a21,b20,b21,hst⟩:=hrel
             have HST:=hide hst
             clear hst
             go_wp2_with (fail)
             all_goals
               first
               | (have hlt:IntKind.u64.wrap (b2 + 4294967295) < 4294967296:=(by assumption);obtain ⟨gk',hgk,hst'⟩:=divStep HST.out b20 b21 hlt;clear HST hlt;go_roundg gk';(case measure=>exact hgk);(case rel=>exact ⟨_,_,hbr,rfl,rfl,(by first | exact (wrapU _).1 | omega),(by first | exact (wrapU _).2 | omega),(wrapU _).1,(wrapU _).2,hst'⟩))
               | (refine bodyPost_ret (by simp [results,Tryz.results186,go_sem];rfl) rfl ?_;refine ⟨_,rfl,_,_,rfl,⟨_,rfl,?_,?_⟩,⟨_,rfl,?_,?_⟩,hbr⟩ <;> (first | exact (wrapU _).1 | exact (wrapU _).2 | exact Int.ediv_nonneg (wrapU _).1 (by decide) | exact Int.lt_of_le_of_lt (Int.ediv_le_self _ (wrapU _).1) (wrapU _).2 | omega)))
end Go.Proofs.YtppblcbgkadldaaGreatDoor
namespace Go.Proofs.YtppblcbgkadldaaGreatDoor
open Go Go.RowKit
set_option maxRecDepth 100000
attribute [local go_sem] Heavy heavyUpon
def RetU (b:Int) (w:World) (e:Ending) (w':World):Prop:=∃ z:Int,e=.returned (.int .u64 z) ∧ 0 ≤ z ∧ z < b ∧ Below w.heap.size w w'
set_option maxHeartbeats 1600000 in
theorem rem64_ok (hi lo:Int) (h0:0 ≤ hi) (h1:hi < 18446744073709551616) (h2:0 ≤ lo) (h3:lo < 18446744073709551616) (w:World) :
    Calls Tryz.prog 156 #[.int .u64 hi,.int .u64 lo,.int .u64 2305843009213693951] w (RetU 18446744073709551616 w):=by
  have QD:=hide (fun W=>div64_ok (hi % 2305843009213693951) lo (by omega) (by omega) h2 h3 W)
  go_enter Tryz.func156,Tryz.ntmps156
  go_wp2_with (fail)
  refine (QD.out _).mono ?_
  rintro e w1 ⟨v,rfl,a,b,rfl,⟨x,rfl,x0,x1⟩,⟨y,rfl,y0,y1⟩,b1⟩
  go_wp2_with (fail)
  go_ret
  exact ⟨y,rfl,y0,y1,b1⟩
set_option maxHeartbeats 1600000 in
theorem modMul_ok (x y:Int) (h0:0 ≤ x) (h1:x < 18446744073709551616) (h2:0 ≤ y) (h3:y < 18446744073709551616) (w:World) :
    Calls Tryz.prog 119 #[.int .u64 x,.int .u64 y] w (RetU 18446744073709551616 w):=by
  have QX:=hide (fun W=>modOf_ok x h0 h1 W)
  have QY:=hide (fun W=>modOf_ok y h2 h3 W)
  obtain ⟨a,ha⟩:=Int.eq_ofNat_of_zero_le (show 0 ≤ x % 2305843009213693951 by omega)
  obtain ⟨b,hb⟩:=Int.eq_ofNat_of_zero_le (show 0 ≤ y % 2305843009213693951 by omega)
  rw [ha] at QX
  rw [hb] at QY
  have QM:=hide (fun W=>Tryz.bits_Mul64 a b (by omega) (by omega) W)
  have QR:=hide (fun W=>rem64_ok ((a * b / 18446744073709551616:Nat):Int) ((a * b % 18446744073709551616:Nat):Int) (by omega) (by
    have h4:a < 18446744073709551616:=by omega
    have h5:b < 18446744073709551616:=by omega
    have h6:a * b < 18446744073709551616 * 18446744073709551616:=Nat.mul_lt_mul'' h4 h5
    have h7:a * b / 18446744073709551616 < 18446744073709551616:=Nat.div_lt_of_lt_mul h6
    omega) (by omega) (by omega) W)
  generalize a * b / 18446744073709551616=p at *
  generalize a * b % 18446744073709551616=q at *
  clear ha hb h0 h1 h2 h3
  go_enter Tryz.func119,Tryz.ntmps119
  go_wp2_with (fail)
  refine (QX.out _).mono ?_
  rintro e w1 ⟨rfl,c1⟩
  go_wp2_with (fail)
  refine (QY.out _).mono ?_
  rintro e w2 ⟨rfl,c2⟩
  have hb2:=c1.trans (c2.mono c1.size)
  clear c1 c2
  go_wp2_with (fail)
  refine (QM.out _).mono ?_
  rintro e w3 ⟨rfl,rfl⟩
  go_wp2_with (fail)
  refine (QR.out _).mono ?_
  rintro e w4 ⟨z,rfl,z0,z1,b4⟩
  go_wp2_with (fail)
  go_ret
  exact ⟨z,rfl,z0,z1,hb2.trans (b4.mono hb2.size)⟩
def HOK (h:Int × Int):Prop:=0 ≤ h.1 ∧ h.1 < 2305843009213693951 ∧ 0 ≤ h.2 ∧ h.2 < 2305843009213693951
set_option maxHeartbeats 1600000 in
theorem value_ok (A B name:Int) (hh:HOK (A,B)) (h0:0 ≤ name) (h1:name < 18446744073709551616) (w:World) :
    Calls Tryz.prog 228 #[.agg #[.int .u64 A,.int .u64 B],.int .u64 name] w (RetU 2305843009213693951 w):=by
  obtain ⟨a0,a1,b0,b1⟩:=hh
  have QM:=hide (fun W=>modMul_ok A name a0 (by simp only [] at a1;omega) h0 h1 W)
  have QA:=hide (fun z W (z0:0 ≤ z) (z1:z < 18446744073709551616)=>modAdd_ok z B z0 z1 b0 (by simp only [] at b1;omega) W)
  clear a0 a1 b0 b1
  have HB:=Blk.new w 79 #[.int .u64 A,.int .u64 B]
  have hb0:=(Below.refl w.heap.size w).alloc (Nat.le_refl _) (.cells #[.int .u64 A,.int .u64 B] 79)
  go_enter Tryz.func228,Tryz.ntmps228
  go_wp2_with (fail)
  generalize (w.alloc (.cells #[.int .u64 A,.int .u64 B] 79))=W0 at *
  obtain ⟨r0,e0,s0⟩:=HB.facts
  have x0:W0.cell? ⟨w.heap.size,0,none⟩=some (.int .u64 A):=r0 0
  have x1:W0.cell? ⟨w.heap.size,1,none⟩=some (.int .u64 B):=r0 1
  clear r0
  refine wp_region_lexD [3,6] (fun w'=>Below (W0).heap.size (W0) w') (by kernel_rfl) (by kernel_rfl) (Below.refl _ _).drew ?_
  (repeat ((with_reducible refine wpLex_step (fun K hK=>?_));go_simp;first | ((with_reducible refine hK _ _ ?_);clear hK K) | ((with_reducible apply Exists.intro);refine ⟨fun w' hw'=>?_,hK _ _ ?_⟩;(· (have hq:=bcells hw';apply valEq;(· (go_simp;first | done | (with_reducible rfl)));(· ((try go_bits);with_reducible rfl))));clear hK K)))
  ((with_reducible refine wpLex_step (fun K hK=>?_));go_simp;refine (QM.out _).mono ?_;rintro e w1 ⟨z,rfl,z0,z1,hbx⟩;have g1:=((Below.refl (W0).heap.size W0).drew).trans (hbx.mono ((Below.refl (W0).heap.size W0).drew).size);refine ⟨_,rfl,g1,hK _ _ ?_⟩;clear hK K hbx)
  (repeat ((with_reducible refine wpLex_step (fun K hK=>?_));go_simp;first | ((with_reducible refine hK _ _ ?_);clear hK K) | ((with_reducible apply Exists.intro);refine ⟨fun w' hw'=>?_,hK _ _ ?_⟩;(· (have hq:=bcells hw';apply valEq;(· (go_simp;first | done | (with_reducible rfl)));(· ((try go_bits);with_reducible rfl))));clear hK K)))
  ((with_reducible refine wpLex_step (fun K hK=>?_));go_simp;refine (QA.out _ _ z0 z1).mono ?_;rintro e w2 ⟨y,rfl,y0,y1,hbx⟩;have g2:=g1.trans (hbx.mono g1.size);refine ⟨_,rfl,g2,hK _ _ ?_⟩;clear hK K hbx)
  (repeat ((with_reducible refine wpLex_step (fun K hK=>?_));go_simp;first | ((with_reducible refine hK _ _ ?_);clear hK K) | ((with_reducible apply Exists.intro);refine ⟨fun w' hw'=>?_,hK _ _ ?_⟩;(· (have hq:=bcells hw';apply valEq;(· (go_simp;first | done | (with_reducible rfl)));(· ((try go_bits);with_reducible rfl))));clear hK K)))
  refine wpLex_nil (fun _=>?_)
  go_wp2_with (fail)
  go_ret
  exact ⟨y,rfl,y0,y1,hb0.trans (g2.mono hb0.size)⟩
theorem bound_zero (w:World):Calls Tryz.prog 229 #[.int .i64 0] w (Ret (.int .u64 2305843009213693951) w):=by
  go_enter Tryz.func229,Tryz.ntmps229
  go_wp2_with (fail)
  go_ret
  exact ⟨rfl,Below.refl _ _⟩
set_option maxHeartbeats 1600000 in
theorem bound_some (k:Nat) (hk:k < 61) (w:World):Calls Tryz.prog 229 #[.int .i64 k] w fun e w'=>∃ z:Int,e=.returned (.int .u64 z) ∧ Below w.heap.size w w':=by
  have h1:(k:Int) < 61:=by omega
  have h2:decide ((61:Int) ≤ (k:Int))=false:=by simp;omega
  go_enter Tryz.func229,Tryz.ntmps229
  go_wp2_with (fail)
  go_ret
  exact ⟨_,rfl,Below.refl _ _⟩
set_option maxHeartbeats 3200000 in
theorem deep_ok (A B name:Int) (hh:HOK (A,B)) (h0:0 ≤ name) (h1:name < 18446744073709551616) (L:Nat) (hL:1 ≤ L) (hL2:L ≤ 60) (w:World) :
    Calls Tryz.prog 226 #[.agg #[.int .u64 A,.int .u64 B],.int .u64 name,.int .i64 L] w fun e w'=>∃ d:Nat,e=.returned (.int .i64 d) ∧ 1 ≤ d ∧ d ≤ L ∧ Below w.heap.size w w':=by
  have QV:=hide (fun W=>value_ok A B name hh h0 h1 W)
  have HB:=Blk.new w 79 #[.int .u64 A,.int .u64 B]
  have hb0:=(Below.refl w.heap.size w).alloc (Nat.le_refl _) (.cells #[.int .u64 A,.int .u64 B] 79)
  clear hh h0 h1
  go_enter Tryz.func226,Tryz.ntmps226
  go_wp2_with (fail)
  generalize (w.alloc (.cells #[.int .u64 A,.int .u64 B] 79))=W0 at *
  refine (QV.out _).mono ?_
  rintro e w1 ⟨v,rfl,v0,v1,b1⟩
  have hb1:=hb0.trans (b1.mono hb0.size)
  clear b1 hb0 HB
  go_wp2_with (fail)
  go_loopw [8] (fun i wr=>∃ k:Nat,k ≤ L ∧ i=.int .i64 k ∧ Below w.heap.size w wr) (fun i _=>L - (intOf i).toNat)
  case atStart=>exact ⟨0,Nat.zero_le _,rfl,hb1⟩
  case round =>
    clear hb1
    obtain ⟨k,hk,rfl,hbr⟩:=hrel
    have hL3:(L:Int) < 61:=by omega
    by_cases hlt:k < L
    · by_cases hk0:k=0
      · subst hk0
        have hd:decide (v < 2305843009213693951)=true:=by simpa using v1
        go_wp2_with (fail)
        refine (bound_zero _).mono ?_
        rintro e w2 ⟨rfl,b2⟩
        have hb2:=hbr.trans (b2.mono hbr.size)
        clear b2
        go_wp2_with (fail)
        exact ⟨⟨1,by omega,rfl,hb2⟩,by simp [intOf];omega⟩
      · have QB:=hide (fun W=>bound_some k (by omega) W)
        go_wp2_with (fail)
        refine (QB.out _).mono ?_
        rintro e w2 ⟨z,rfl,b2⟩
        have hb2:=hbr.trans (b2.mono hbr.size)
        clear b2
        by_cases hvz:v < z
        · have hd:decide (v < z)=true:=by simpa using hvz
          go_wp2_with (fail)
          exact ⟨⟨k + 1,by omega,by go_num,hb2⟩,by simp [intOf];omega⟩
        · have hd:decide (v < z)=false:=by simpa using hvz
          go_wp2_with (fail)
          go_ret
          exact ⟨k,rfl,by omega,hk,hb2⟩
    · obtain rfl:k=L:=by omega
      go_wp2_with (fail)
      go_ret
      exact ⟨k,rfl,hL,Nat.le_refl _,hbr⟩
set_option maxHeartbeats 1600000 in
theorem levels_ok (n:Nat) (h1:1 ≤ n) (h2:n ≤ 1024) (w:World) :
    Calls Tryz.prog 214 #[.int .i64 n] w fun e w'=>∃ d:Nat,e=.returned (.int .i64 d) ∧ 1 ≤ d ∧ d ≤ 60 ∧ Below w.heap.size w w':=by
  have QL:=hide (fun W=>Tryz.bits_Len ((n:Int) - 1) W (by omega) (by omega))
  have hb:Lib.bitLen ((n:Int) - 1).toNat ≤ 20:=by
    have:((n:Int) - 1).toNat ≤ 1023:=by omega
    generalize ((n:Int) - 1).toNat=x at *
    by_cases hx:x < 256
    · have:=Lib.bitLen_le8 ⟨x,hx⟩
      simp only [] at this;omega
    · rw [Lib.bitLen_shift8 x (by omega) (by omega)]
      have:=Lib.bitLen_le8 ⟨x / 256,by omega⟩
      simp only [] at this;omega
  generalize Lib.bitLen ((n:Int) - 1).toNat=y at *
  have hn:(1:Int) ≤ (n:Int):=by omega
  have hd:decide ((n:Int) < 1)=false:=by simp;omega
  go_enter Tryz.func214,Tryz.ntmps214
  go_wp2_with (fail)
  refine (QL.out _).mono ?_
  rintro e w1 ⟨rfl,rfl⟩
  go_wp2_with (fail)
  go_ret
  exact ⟨2 * y + 2,rfl,by omega,by omega,Below.refl _ _⟩
end Go.Proofs.YtppblcbgkadldaaGreatDoor
namespace Go.Proofs.YtppblcbgkadldaaGreatDoor
open Go Go.RowKit
set_option maxRecDepth 100000
attribute [local go_sem] Heavy heavyUpon
theorem sz_set (w:World) (a:Addr) (u:Value):(w.setCell a u).heap.size=w.heap.size:=by simp [World.setCell]
def WOK (l:List Int):Prop:=∀ x ∈ l,0 ≤ x ∧ x < 18446744073709551616
theorem ksized_yes (r v:Nat) (r1:1 ≤ r) (r2:r ≤ 8) (v1:1 ≤ v) (v2:v ≤ 60) (w:World):Calls Tryz.prog 223 #[.int .i64 r,.int .i64 v] w (Ret (.bool true) w):=by
  have h1:(1:Int) ≤ (r:Int):=by omega
  have h2:(r:Int) ≤ 8:=by omega
  have h3:(1:Int) ≤ (v:Int):=by omega
  have h4:(v:Int) ≤ 61:=by omega
  have d4:decide ((v:Int) ≤ 61)=true:=by simpa using h4
  go_enter Tryz.func223,Tryz.ntmps223
  go_wp2_with (fail)
  go_ret
  exact ⟨rfl,Below.refl _ _⟩
def skV (r v:Nat) (A:Option Addr) (n d:Nat):Value:=.agg #[.int .i64 r,.int .i64 v,.slice A n d]
set_option maxHeartbeats 1600000 in
theorem kright_yes (r v n d:Nat) (A:Option Addr) (r1:1 ≤ r) (r2:r ≤ 8) (v1:1 ≤ v) (v2:v ≤ 60) (hn:n=r * v) (w:World):Calls Tryz.prog 212 #[skV r v A n d] w (Ret (.bool true) w):=by
  have QS:=hide (fun W=>ksized_yes r v r1 r2 v1 v2 W)
  have hm:r * v ≤ 8 * 60:=Nat.mul_le_mul r2 v2
  have HM:=(show (r:Int) * (v:Int)=(n:Int) by rw [hn];simp)
  have hn2:n ≤ 480:=by omega
  have HW:=hide hn
  have HB:=(Blk.new w 260 #[.int .i64 r,.int .i64 v,.slice A n d])
  have hb0:=(Below.refl w.heap.size w).alloc (Nat.le_refl _) (.cells #[.int .i64 r,.int .i64 v,.slice A n d] 260)
  clear hn hm
  unfold skV
  go_enter Tryz.func212,Tryz.ntmps212
  go_wp2_with (fail)
  generalize (w.alloc (.cells #[.int .i64 r,.int .i64 v,.slice A n d] 260))=W0 at *
  refine (QS.out _).mono ?_
  rintro e w1 ⟨rfl,b1⟩
  have hb1:=hb0.trans (b1.mono hb0.size)
  have B1:=HB.below b1 HB.lt
  obtain ⟨r0,e0,s0⟩:=B1.facts
  have x0:w1.cell? ⟨w.heap.size,0,none⟩=some (.int .i64 r):=r0 0
  have x1:w1.cell? ⟨w.heap.size,1,none⟩=some (.int .i64 v):=r0 1
  have x2:w1.cell? ⟨w.heap.size,2,none⟩=some (.slice A n d):=r0 2
  clear r0 HB B1 b1 hb0
  go_wp2_with (fail)
  go_ret
  exact ⟨rfl,hb1⟩
theorem build_sketch (W:World) (r v:Int) (A:Option Addr) (n d:Nat):(Instr.build 260 #[(0,.int .i64 r),(1,.int .i64 v),(2,.slice A n d)]).run Tryz.prog W=.ok (.agg #[.int .i64 r,.int .i64 v,.slice A n d]) W:=by kernel_rfl
theorem u64_made (n:Nat):madeCells (Value.int .u64 0).cells n=(ints .u64 (List.replicate n 0)).toArray:=by
  apply Array.ext'
  apply List.ext_getElem?
  intro j
  by_cases hj:j < n
  · simp [madeCells,Value.cells,ints,hj,Nat.mod_one]
  · simp [madeCells,Value.cells,ints,hj]
set_option maxHeartbeats 1600000 in
theorem knew_ok (r v n:Nat) (r1:1 ≤ r) (r2:r ≤ 8) (v1:1 ≤ v) (v2:v ≤ 60) (hn:n=r * v) (w:World) (KL:List Nat) (hK:∀ x ∈ KL,x < w.heap.size) :
    Calls Tryz.prog 213 #[.int .i64 r,.int .i64 v] w fun e w'=>∃ A,e=.returned (.tuple #[skV r v A n n,.int .i64 0]) ∧ Sl w' KL 1 A n n (ints .u64 (List.replicate n 0)) ∧ Below w.heap.size w w':=by
  have HKK:=hide hK
  clear hK
  have QS:=hide (fun W=>ksized_yes r v r1 r2 v1 v2 W)
  have hm:r * v ≤ 8 * 60:=Nat.mul_le_mul r2 v2
  have HM:=(show (r:Int) * (v:Int)=(n:Int) by rw [hn];simp)
  have hn2:n ≤ 480:=by omega
  have HW:=hide hn
  obtain ⟨i0,hi0,hz0,hz1,hz2⟩:=info_parts u64_info
  have hmk:=fun W=>run_make_rowN (P:=Tryz.prog) 24 43 i0 _ Tryz.underlying24 hi0 hz0 .i64 .i64 n n (Nat.le_refl _) (by rw [hz2];omega) (by omega) W
  rw [hz1,Nat.mul_one,u64_made] at hmk
  have hbd:=fun W=>build_sketch W r v
  clear hn hm hi0 hz0 hz1 hz2
  unfold skV
  have B0:=Blk.new w 260 #[.int .i64 0,.int .i64 0,.slice none 0 0]
  have hb0:=(Below.refl w.heap.size w).alloc (Nat.le_refl _) (.cells #[.int .i64 0,.int .i64 0,.slice none 0 0] 260)
  go_enter Tryz.func213,Tryz.ntmps213
  go_wp2_with (fail)
  generalize (w.alloc (.cells #[.int .i64 0,.int .i64 0,.slice none 0 0] 260))=W0 at *
  refine (QS.out _).mono ?_
  rintro e w1 ⟨rfl,b1⟩
  have hb1:=hb0.trans (b1.mono hb0.size)
  have B1:=B0.below b1 B0.lt
  have hne:w1.heap.size ≠ w.heap.size:=by have:=hb1.size;have:=B1.lt;omega
  obtain ⟨r0,e0,s0⟩:=B1.facts
  have x0:w1.cell? ⟨w.heap.size,0,none⟩=some (.int .i64 0):=r0 0
  have x1:w1.cell? ⟨w.heap.size,1,none⟩=some (.int .i64 0):=r0 1
  have x2:w1.cell? ⟨w.heap.size,2,none⟩=some (.slice none 0 0):=r0 2
  have z0:(w1.setCell ⟨w.heap.size,0,none⟩ (.int .i64 (r:Int))).cell? ⟨w.heap.size,0,none⟩=some (.int .i64 (r:Int)):=(B1.set_ 0 (.int .i64 (r:Int))).cell 0
  have z1:((w1.setCell ⟨w.heap.size,0,none⟩ (.int .i64 (r:Int))).setCell ⟨w.heap.size,1,none⟩ (.int .i64 (v:Int))).cell? ⟨w.heap.size,1,none⟩=some (.int .i64 (v:Int)):=((B1.set_ 0 (.int .i64 (r:Int))).set_ 1 (.int .i64 (v:Int))).cell 1
  have z2:(((w1.setCell ⟨w.heap.size,0,none⟩ (.int .i64 (r:Int))).setCell ⟨w.heap.size,1,none⟩ (.int .i64 (v:Int))).setCell ⟨w.heap.size,2,none⟩ (.slice (some ⟨w1.heap.size,0,none⟩) n n)).cell? ⟨w.heap.size,2,none⟩=some (.slice (some ⟨w1.heap.size,0,none⟩) n n):=
    (B1.set3 (x:=.int .i64 (r:Int)) (y:=.int .i64 (v:Int)) (z:=.slice (some ⟨w1.heap.size,0,none⟩) n n)).cell 2
  have Z:=hide (And.intro z0 (And.intro z1 z2))
  have HSZ:=hide hb1.size
  have hb3:=hide (((hb1.setCell (p:=⟨w.heap.size,0,none⟩) (Nat.le_refl _) (.int .i64 (r:Int))).setCell (p:=⟨w.heap.size,1,none⟩) (Nat.le_refl _) (.int .i64 (v:Int))).setCell (p:=⟨w.heap.size,2,none⟩) (Nat.le_refl _) (.slice (some ⟨w1.heap.size,0,none⟩) n n))
  have Z2:=hide (show Blk (((((w1.setCell ⟨w.heap.size,0,none⟩ (.int .i64 (r:Int))).setCell ⟨w.heap.size,1,none⟩ (.int .i64 (v:Int))).setCell ⟨w.heap.size,2,none⟩ (.slice (some ⟨w1.heap.size,0,none⟩) n n))).alloc (.cells (ints .u64 (List.replicate n 0)).toArray 43)) w1.heap.size 43 (ints .u64 (List.replicate n 0)).toArray by
    have h9:=Blk.new (((w1.setCell ⟨w.heap.size,0,none⟩ (.int .i64 (r:Int))).setCell ⟨w.heap.size,1,none⟩ (.int .i64 (v:Int))).setCell ⟨w.heap.size,2,none⟩ (.slice (some ⟨w1.heap.size,0,none⟩) n n)) 43 (ints .u64 (List.replicate n 0)).toArray
    simpa only [sz_set] using h9)
  clear r0 B0 B1 b1 hb0 hb1 z0 z1 z2
  go_wp2_with (fail)
  refine bodyPost_ret (v:=.tuple #[.agg #[.int .i64 r,.int .i64 v,.slice (some ⟨w1.heap.size,0,none⟩) n n],.int .i64 0]) (by simp [results,Tryz.results213,go_sem,s0,Z.out.1,Z.out.2.1,Z.out.2.2]) rfl ⟨_,rfl,?_,hb3.out.alloc hb3.out.size _⟩
  exact Sl.of_blk Z2.out (by simp) (fun x hx=>by simp) (fun hx=>by have:=HKK.out _ hx;have:=HSZ.out;omega) (by unfold maxLen;omega)
end Go.Proofs.YtppblcbgkadldaaGreatDoor
