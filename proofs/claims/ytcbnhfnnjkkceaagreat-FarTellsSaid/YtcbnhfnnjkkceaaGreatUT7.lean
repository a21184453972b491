/- For the statement of the row : what its proof needs of the text T7. -/
import Derived.Test.YtcbnhfnnjkkceaaGreatUT1
import Derived.Test.YtcbnhfnnjkkceaaGreatUT2
import Derived.Test.YtcbnhfnnjkkceaaGreatUT3
import Derived.Test.YtcbnhfnnjkkceaaGreatUT4
import Derived.Test.YtcbnhfnnjkkceaaGreatUT5
import Derived.Test.YtcbnhfnnjkkceaaGreatUT6
set_option maxHeartbeats 8000000
set_option maxRecDepth 100000
set_option linter.unusedSimpArgs false
set_option linter.unusedVariables false

section
namespace Go.Proofs.YtcbnhfnnjkkceaaGreat.X
open Go.RowKit Go.Proofs.YtcbnhfnnjkkceaaGreatW.PrintWords Go.Proofs.YtcbnhfnnjkkceaaGreatW.PrintLast Go.Proofs.YtcbnhfnnjkkceaaGreatW.PrintMore
attribute [local go_sem] z29 z2b z2g z2h z1y z1x z2a z27
def z0t.l0:Nat→Int→List Int→Int→Int→Int→Int→List Int→List Int→List (S79)→Option (List Int)
 | 0,_,_,_,_,_,_,_,_,_=>none
 | k+1,x1,x5,x6,xaa,xab,xac,xad,xae,xaf=>if x6 < (xaf.length:Int) then ((z0s.f k xaa xab xac xad xae xaf x1 x6).bind fun t256=>(if t256=true then (if x5.length < 17592186044416 then (z0t.l0 k x1 (x5 ++ [x6]) (wrap64 (x6+1)) xaa xab xac xad xae xaf) else (none)) else (z0t.l0 k x1 x5 (wrap64 (x6+1)) xaa xab xac xad xae xaf))) else (some x5)
def z0t.f (k:Nat) (a0_0:Int) (a0_1:Int) (a0_2:Int) (l0_3:List Int) (l0_4:List Int) (l0_5:List (S79)) (a1:Int):Option (List Int):=z0t.l0 k a1 ([]:List Int) 0 a0_0 a0_1 a0_2 l0_3 l0_4 l0_5
theorem z0t.mono_l:∀ k,(∀ y0 y1 y2 y3 y4 y5 y6 y7 y8,LeO (z0t.l0 k y0 y1 y2 y3 y4 y5 y6 y7 y8) (z0t.l0 (k+1) y0 y1 y2 y3 y4 y5 y6 y7 y8))
 | 0=>fun _ _ _ _ _ _ _ _ _ r h=>by simp [z0t.l0] at h
 | k+1=>by
  have ih0:=z0t.mono_l k
  ·intro y0 y1 y2 y3 y4 y5 y6 y7 y8;unfold z0t.l0
   repeat' first|exact ih0 _ _ _ _ _ _ _ _ _|exact z0s.mono _ _ _ _ _ _ _ _ _|exact LeO.none _|refine LeO.ite ?_ ?_|refine LeO.bind ?_ (fun _=>?_)|exact LeO.refl _
theorem z0t.mono:∀ a0 a1 a2 a3 a4 a5 a6 k,LeO (z0t.f k a0 a1 a2 a3 a4 a5 a6) (z0t.f (k+1) a0 a1 a2 a3 a4 a5 a6):=by
 intro a0 a1 a2 a3 a4 a5 a6 k;have ih0:=z0t.mono_l k;unfold z0t.f
 repeat' first|exact ih0 _ _ _ _ _ _ _ _ _|exact z0s.mono _ _ _ _ _ _ _ _ _|exact LeO.none _|refine LeO.ite ?_ ?_|refine LeO.bind ?_ (fun _=>?_)|exact LeO.refl _
theorem z0t.calls (k:Nat) (a0_0:Int) (a0_1:Int) (a0_2:Int) (A0_3:Option Addr) (c0_3:Nat) (l0_3:List Int) (A0_4:Option Addr) (c0_4:Nat) (l0_4:List Int) (A0_5:Option Addr) (c0_5:Nat) (l0_5:List (S79)) (a1:Int) (r:List Int) (w:World) (hr0_3:Kd.C (Kd.int .u8) w A0_3 l0_3.length l0_3) (hc0_3:l0_3.length≤c0_3) (hr0_4:Kd.C (Kd.int .i64) w A0_4 l0_4.length l0_4) (hc0_4:l0_4.length≤c0_4) (hr0_5:Kd.C k79 w A0_5 l0_5.length l0_5) (hc0_5:l0_5.length≤c0_5) (h:z0t.f k a0_0 a0_1 a0_2 l0_3 l0_4 l0_5 a1=some r) :
  Calls Tryz.prog 21 #[.agg #[.int .i64 a0_0,.int .i64 a0_1,.int .i64 a0_2,.slice A0_3 l0_3.length c0_3,.slice A0_4 l0_4.length c0_4,.slice A0_5 l0_5.length c0_5],.int .i64 a1] w fun e w'=>∃ v0_:Value,e=.returned (v0_)∧Kd.R (Kd.int .i64) 3 w' w.heap.size (fun _=>True) v0_ r∧Below w.heap.size w w':=by
 have hu26:=Tryz.underlying26;have HR0_3:=Aside0.mk hr0_3;have HC0_3:=Aside0.mk hc0_3;clear hr0_3 hc0_3;have HR0_4:=Aside0.mk hr0_4;have HC0_4:=Aside0.mk hc0_4;clear hr0_4 hc0_4;have HR0_5:=Aside0.mk hr0_5;have HC0_5:=Aside0.mk hc0_5;clear hr0_5 hc0_5;have HB:=Aside0.mk (Below.refl w.heap.size w);have H:(z0t.l0 k a1 ([]:List Int) 0 a0_0 a0_1 a0_2 l0_3 l0_4 l0_5)=some r:=h;clear h;have H':=Aside0.mk H;clear H
 go_enter Tryz.func21,Tryz.ntmps21
 go_wp2_with (first|((with_reducible refine z12 (N:=2) rfl ?_);refine z17 ?hg (N:=2) ?hd (cs:=#[.int .i64 a0_0,.int .i64 a0_1,.int .i64 a0_2,.slice A0_3 l0_3.length c0_3,.slice A0_4 l0_4.length c0_4,.slice A0_5 l0_5.length c0_5]) (t:=26) ?hr ?_;(case hd=>rfl);(case hg=>rfl);(case hr=>first|(go_simp;done)|(go_simp;rfl));intro gb255 hg w3 hbox hb;have n0_:=Aside0.mk (z0o (by repeat (first|exact HB.out|apply z04|apply z03|apply z05)) hb);have n1_:=Aside0.mk (hbox);have n2_:=Aside0.mk ((by rw [hg];exact (z0h (by repeat (first|exact HB.out|apply z04|apply z03|apply z05))):w.heap.size≤gb255));have n3_:=Aside0.mk ((by rw [hg];exact (z0h (by repeat (first|exact HB.out|apply z04|apply z03|apply z05))):w.heap.size≤gb255));clear HB;have HB:=n0_;have BK255:=n1_;have GW255:=n2_;have GE255:=n3_;clear n0_ n1_ n2_ n3_;clear hb hbox hg))
 go_loopg [5,6] k (fun kq v5 v6 w'=>∃ (x5_1:List Int) (x6_1:Int),v6=.int .i64 x6_1∧Aside0 (z0t.l0 kq a1 x5_1 x6_1 a0_0 a0_1 a0_2 l0_3 l0_4 l0_5=some r)∧Aside0 (kq≤k)∧Aside0 (Kd.R (Kd.int .i64) 3 w' w.heap.size (fun _=>True) v5 x5_1)∧Aside0 (w'.heap[gb255]?=some (.cells #[.int .i64 a0_0,.int .i64 a0_1,.int .i64 a0_2,(.slice A0_3 l0_3.length c0_3),(.slice A0_4 l0_4.length c0_4),(.slice A0_5 l0_5.length c0_5)] 26 (0,0)))∧Aside0 (Below w.heap.size w w'))
 case atStart=>exact ⟨(([]:List Int)),(0),(by first|rfl|(simp;done)|(simp [*];done)),H',⟨Nat.le_refl _⟩,⟨by first|exact Kd.R_nil _ _ _ _ _|exact Kd.N_nil _ _ _ _ _|exact Kd.V_nil _ _ _ _ _|exact Kd.Q_nil _ _ _ _ _|exact Kd.S_nil _ _ _ _ _⟩,⟨by (with_reducible repeat (first|refine z09 ?_ _|refine z0a ?_|refine z08 ?_ _));exact BK255.out⟩,⟨by repeat (first|(with_reducible first|exact HB.out|apply z04|apply z03|apply z05|refine z07 ?_ GE255.out)|exact HB.out)⟩⟩
 case round =>
  clear H';obtain ⟨x5_1,x6_1,rfl,HA,HK1,HO_5,BK255,HB⟩:=hrel;cases gk with
  | zero=>exact absurd HA.out (by simp [z0t.l0])
  | succ k1 =>
   have H:=HA.out;clear HA;simp only [z0t.l0] at H
   by_cases c4:x6_1 < (l0_5.length:Int)
   ·rw [if_pos c4] at H;have c4b0:decide (x6_1 < (l0_5.length:Int))=true:=decide_eq_true c4;clear c4;replace H:=Option.bind_eq_some_iff.mp H;obtain ⟨t256,A50,H⟩:=H;skip;have A5:=Aside0.mk A50;clear A50
    by_cases c6:t256=true
    ·subst c6;have H1:(if x5_1.length < 17592186044416 then (z0t.l0 k1 a1 (x5_1 ++ [x6_1]) (wrap64 (x6_1+1)) a0_0 a0_1 a0_2 l0_3 l0_4 l0_5) else (none))=some r:=(by rw [if_pos rfl] at H;exact H);clear H;have H:=H1;clear H1
     by_cases c7:x5_1.length < 17592186044416
     ·rw [if_pos c7] at H;have LMc7:=Aside0.mk c7;clear c7;obtain ⟨y257,hy257⟩:∃ y_:List Int,y_=(x5_1 ++ [x6_1]):=⟨_,rfl⟩;replace H:(z0t.l0 k1 a1 y257 (wrap64 (x6_1+1)) a0_0 a0_1 a0_2 l0_3 l0_4 l0_5)=some r:=by first|(rw [hy257];with_reducible exact H)|(have H2_:=(Option.bind_some _ _).symm.trans H;rw [hy257];with_reducible exact H2_)|(have H2_:=(Option.bind_some _ _).symm.trans H;with_reducible exact H2_)|with_reducible exact H|(rw [hy257];exact H)|exact H
      have Ny257:=Aside0.mk hy257;clear hy257;have H':=Aside0.mk H;clear H;have hcz8_0:wr.cell? ⟨gb255,0,none⟩=some (.int .i64 a0_0):=(z02 BK255.out 0).trans rfl;have hcz8_1:wr.cell? ⟨gb255,1,none⟩=some (.int .i64 a0_1):=(z02 BK255.out 1).trans rfl;have hcz8_2:wr.cell? ⟨gb255,2,none⟩=some (.int .i64 a0_2):=(z02 BK255.out 2).trans rfl;have hcz8_3:wr.cell? ⟨gb255,3,none⟩=some (.slice A0_3 l0_3.length c0_3):=(z02 BK255.out 3).trans rfl;have hcz8_4:wr.cell? ⟨gb255,4,none⟩=some (.slice A0_4 l0_4.length c0_4):=(z02 BK255.out 4).trans rfl;have hcz8_5:wr.cell? ⟨gb255,5,none⟩=some (.slice A0_5 l0_5.length c0_5):=(z02 BK255.out 5).trans rfl;have hfz8_0:=z01 BK255.out 0;have hfz8_1:=z01 BK255.out 1;have hfz8_2:=z01 BK255.out 2;have hfz8_3:=z01 BK255.out 3;have hfz8_4:=z01 BK255.out 4;have hfz8_5:=z01 BK255.out 5
      go_wp2_with (first|((with_reducible refine z0x (f:=61) rfl ?_);refine z1e (some 17) rfl rfl Tryz.func61 (by kernel_rfl) rfl #[.agg #[.int .i64 a0_0,.int .i64 a0_1,.int .i64 a0_2,.slice A0_3 l0_3.length c0_3,.slice A0_4 l0_4.length c0_4,.slice A0_5 l0_5.length c0_5],.int .i64 a1,.int .i64 x6_1] rfl (by (try simp only [List.map_toArray,List.map_cons,List.map_nil]);first|done|rfl) ?_;(with_reducible refine (z0s.calls k1 a0_0 a0_1 a0_2 _ _ l0_3 _ _ l0_4 _ _ l0_5 a1 x6_1 true _ ?side1 ?side2 ?side3 ?side4 ?side5 ?side6 A5.out).mono ?_);(case side1=>repeat (first|exact (Kd.C_below HR0_3.out HB.out)|(with_reducible refine Kd.C_alloc ?_ _)|(with_reducible refine Kd.C_drewN ?_ _)|(with_reducible refine Kd.C_drew ?_)));(case side2=>exact HC0_3.out);(case side3=>repeat (first|exact (Kd.C_below HR0_4.out HB.out)|(with_reducible refine Kd.C_alloc ?_ _)|(with_reducible refine Kd.C_drewN ?_ _)|(with_reducible refine Kd.C_drew ?_)));(case side4=>exact HC0_4.out);(case side5=>repeat (first|exact (Kd.C_below HR0_5.out HB.out)|(with_reducible refine Kd.C_alloc ?_ _)|(with_reducible refine Kd.C_drewN ?_ _)|(with_reducible refine Kd.C_drew ?_)));(case side6=>exact HC0_5.out);rintro e w9 ⟨rfl,hb⟩;refine ⟨_,rfl,?_⟩;have n0_:=Aside0.mk (Kd.R_below (by (with_reducible repeat (first|apply Kd.R_alloc|apply Kd.R_drewN|apply Kd.R_drew));exact HO_5.out) hb);have n1_:=Aside0.mk (z0z (g:=gb255) (o:=.cells #[.int .i64 a0_0,.int .i64 a0_1,.int .i64 a0_2,.slice A0_3 l0_3.length c0_3,.slice A0_4 l0_4.length c0_4,.slice A0_5 l0_5.length c0_5] 26 (0,0)) (by (with_reducible repeat (first|refine z09 ?_ _|refine z0a ?_|refine z08 ?_ _));exact BK255.out) hb);have n2_:=Aside0.mk (z0o (by repeat (first|(with_reducible first|exact HB.out|apply z04|apply z03|apply z05|refine z07 ?_ GE255.out)|exact HB.out)) hb);clear HO_5;clear BK255;clear HB;have HO_5:=n0_;have BK255:=n1_;have HB:=n2_;clear n0_ n1_ n2_;(try clear hb);(try clear hb2);(try clear hk);(try clear hi))|((with_reducible refine z2d (b:=.append) (xs:=#[.tmp 18,.tmp 20]) rfl ?_);at_builtin;refine Kd.R_append (Kd.int .i64) (w0:=w) w.heap.size rfl (.tmp 18) (.tmp 20) 23 3 (.int .i64 0) 8 rfl Tryz.underlying23 info3 rfl (by decide) (by omega) u5 x5_1 x6_1 [.int .i64 x6_1] (fun _=>True) (fun _=>False) rfl rfl ?aP (fun _ hk=>hk.elim) ?aF ?aO ?aB ?aS ?aL ?_;(case aP=>exact rfl);(case aB=>exact (by repeat (first|(with_reducible first|exact HB.out|apply z04|apply z03|apply z05|refine z07 ?_ GE255.out)|exact HB.out)));(case aF=>exact (fun _ _=>trivial));(case aO=>exact (by (with_reducible repeat (first|apply Kd.R_alloc|apply Kd.R_drewN|apply Kd.R_drew));exact HO_5.out));(case aS=>exact (z0h (by repeat (first|(with_reducible first|exact HB.out|apply z04|apply z03|apply z05|refine z07 ?_ GE255.out)|exact HB.out))));(case aL=>have:=LMc7.out;omega);intro v258 w10 ho hb hg hat;rw [← Ny257.out] at ho;have n0_:=Aside0.mk (z1v (g:=gb255) (o:=.cells #[.int .i64 a0_0,.int .i64 a0_1,.int .i64 a0_2,.slice A0_3 l0_3.length c0_3,.slice A0_4 l0_4.length c0_4,.slice A0_5 l0_5.length c0_5] 26 (0,0)) (by (with_reducible repeat (first|refine z09 ?_ _|refine z0a ?_|refine z08 ?_ _));exact BK255.out) hg (Kd.R_ne HO_5.out BK255.out (by decide)));have n1_:=Aside0.mk (hb);have n2_:=Aside0.mk (ho);clear BK255;clear HB;clear HO_5;have BK255:=n0_;have HB:=n1_;have HO259:=n2_;clear n0_ n1_ n2_;clear ho hb hg hat))
      go_roundg k1
      case measure=>have:=HK1.out;omega
      case rel=>exact ⟨(y257),(wrap64 (x6_1+1)),(by first|rfl|(simp;done)|(simp [*];done)),H',⟨by have:=HK1.out;omega⟩,⟨by (with_reducible repeat (first|apply Kd.R_alloc|apply Kd.R_drewN|apply Kd.R_drew));exact HO259.out⟩,⟨by (with_reducible repeat (first|refine z09 ?_ _|refine z0a ?_|refine z08 ?_ _));exact BK255.out⟩,⟨by repeat (first|(with_reducible first|exact HB.out|apply z04|apply z03|apply z05|refine z07 ?_ GE255.out)|exact HB.out)⟩⟩
     ·rw [if_neg c7] at H;exact absurd H (by simp)
    ·replace c6:=Bool.eq_false_iff.mpr c6;subst c6;have H1:(z0t.l0 k1 a1 x5_1 (wrap64 (x6_1+1)) a0_0 a0_1 a0_2 l0_3 l0_4 l0_5)=some r:=(by rw [if_neg (show ¬ (false=true) by decide)] at H;exact H);clear H;have H:=H1;clear H1;have H':=Aside0.mk H;clear H;have hcz11_0:wr.cell? ⟨gb255,0,none⟩=some (.int .i64 a0_0):=(z02 BK255.out 0).trans rfl;have hcz11_1:wr.cell? ⟨gb255,1,none⟩=some (.int .i64 a0_1):=(z02 BK255.out 1).trans rfl;have hcz11_2:wr.cell? ⟨gb255,2,none⟩=some (.int .i64 a0_2):=(z02 BK255.out 2).trans rfl;have hcz11_3:wr.cell? ⟨gb255,3,none⟩=some (.slice A0_3 l0_3.length c0_3):=(z02 BK255.out 3).trans rfl;have hcz11_4:wr.cell? ⟨gb255,4,none⟩=some (.slice A0_4 l0_4.length c0_4):=(z02 BK255.out 4).trans rfl;have hcz11_5:wr.cell? ⟨gb255,5,none⟩=some (.slice A0_5 l0_5.length c0_5):=(z02 BK255.out 5).trans rfl;have hfz11_0:=z01 BK255.out 0;have hfz11_1:=z01 BK255.out 1;have hfz11_2:=z01 BK255.out 2;have hfz11_3:=z01 BK255.out 3;have hfz11_4:=z01 BK255.out 4;have hfz11_5:=z01 BK255.out 5
     go_wp2_with (first|((with_reducible refine z0x (f:=61) rfl ?_);refine z1e (some 17) rfl rfl Tryz.func61 (by kernel_rfl) rfl #[.agg #[.int .i64 a0_0,.int .i64 a0_1,.int .i64 a0_2,.slice A0_3 l0_3.length c0_3,.slice A0_4 l0_4.length c0_4,.slice A0_5 l0_5.length c0_5],.int .i64 a1,.int .i64 x6_1] rfl (by (try simp only [List.map_toArray,List.map_cons,List.map_nil]);first|done|rfl) ?_;(with_reducible refine (z0s.calls k1 a0_0 a0_1 a0_2 _ _ l0_3 _ _ l0_4 _ _ l0_5 a1 x6_1 false _ ?side1 ?side2 ?side3 ?side4 ?side5 ?side6 A5.out).mono ?_);(case side1=>repeat (first|exact (Kd.C_below HR0_3.out HB.out)|(with_reducible refine Kd.C_alloc ?_ _)|(with_reducible refine Kd.C_drewN ?_ _)|(with_reducible refine Kd.C_drew ?_)));(case side2=>exact HC0_3.out);(case side3=>repeat (first|exact (Kd.C_below HR0_4.out HB.out)|(with_reducible refine Kd.C_alloc ?_ _)|(with_reducible refine Kd.C_drewN ?_ _)|(with_reducible refine Kd.C_drew ?_)));(case side4=>exact HC0_4.out);(case side5=>repeat (first|exact (Kd.C_below HR0_5.out HB.out)|(with_reducible refine Kd.C_alloc ?_ _)|(with_reducible refine Kd.C_drewN ?_ _)|(with_reducible refine Kd.C_drew ?_)));(case side6=>exact HC0_5.out);rintro e w12 ⟨rfl,hb⟩;refine ⟨_,rfl,?_⟩;have n0_:=Aside0.mk (Kd.R_below (by (with_reducible repeat (first|apply Kd.R_alloc|apply Kd.R_drewN|apply Kd.R_drew));exact HO_5.out) hb);have n1_:=Aside0.mk (z0z (g:=gb255) (o:=.cells #[.int .i64 a0_0,.int .i64 a0_1,.int .i64 a0_2,.slice A0_3 l0_3.length c0_3,.slice A0_4 l0_4.length c0_4,.slice A0_5 l0_5.length c0_5] 26 (0,0)) (by (with_reducible repeat (first|refine z09 ?_ _|refine z0a ?_|refine z08 ?_ _));exact BK255.out) hb);have n2_:=Aside0.mk (z0o (by repeat (first|(with_reducible first|exact HB.out|apply z04|apply z03|apply z05|refine z07 ?_ GE255.out)|exact HB.out)) hb);clear HO_5;clear BK255;clear HB;have HO_5:=n0_;have BK255:=n1_;have HB:=n2_;clear n0_ n1_ n2_;(try clear hb);(try clear hb2);(try clear hk);(try clear hi)))
     go_roundg k1
     case measure=>have:=HK1.out;omega
     case rel=>exact ⟨(x5_1),(wrap64 (x6_1+1)),(by first|rfl|(simp;done)|(simp [*];done)),H',⟨by have:=HK1.out;omega⟩,⟨by (with_reducible repeat (first|apply Kd.R_alloc|apply Kd.R_drewN|apply Kd.R_drew));exact HO_5.out⟩,⟨by (with_reducible repeat (first|refine z09 ?_ _|refine z0a ?_|refine z08 ?_ _));exact BK255.out⟩,⟨by repeat (first|(with_reducible first|exact HB.out|apply z04|apply z03|apply z05|refine z07 ?_ GE255.out)|exact HB.out)⟩⟩
   ·rw [if_neg c4] at H;have c4b0:decide (x6_1 < (l0_5.length:Int))=false:=decide_eq_false c4;clear c4;obtain rfl:=Option.some.inj H;have hcz13_0:wr.cell? ⟨gb255,0,none⟩=some (.int .i64 a0_0):=(z02 BK255.out 0).trans rfl;have hcz13_1:wr.cell? ⟨gb255,1,none⟩=some (.int .i64 a0_1):=(z02 BK255.out 1).trans rfl;have hcz13_2:wr.cell? ⟨gb255,2,none⟩=some (.int .i64 a0_2):=(z02 BK255.out 2).trans rfl;have hcz13_3:wr.cell? ⟨gb255,3,none⟩=some (.slice A0_3 l0_3.length c0_3):=(z02 BK255.out 3).trans rfl;have hcz13_4:wr.cell? ⟨gb255,4,none⟩=some (.slice A0_4 l0_4.length c0_4):=(z02 BK255.out 4).trans rfl;have hcz13_5:wr.cell? ⟨gb255,5,none⟩=some (.slice A0_5 l0_5.length c0_5):=(z02 BK255.out 5).trans rfl;have hfz13_0:=z01 BK255.out 0;have hfz13_1:=z01 BK255.out 1;have hfz13_2:=z01 BK255.out 2;have hfz13_3:=z01 BK255.out 3;have hfz13_4:=z01 BK255.out 4;have hfz13_5:=z01 BK255.out 5;go_wp2;go_ret
    exact ⟨_,by first|rfl|(simp [z0g,z0f] <;> rfl)|(simp [*,z0g,z0f] <;> rfl),by (with_reducible repeat (first|apply Kd.R_alloc|apply Kd.R_drewN|apply Kd.R_drew));exact HO_5.out,by repeat (first|(with_reducible first|exact HB.out|apply z04|apply z03|apply z05|refine z07 ?_ GE255.out)|exact HB.out)⟩
def z14.l0:Nat→Int→List Int→Int→Int→Int→Int→List Int→List Int→List (S79)→Option (List Int)
 | 0,_,_,_,_,_,_,_,_,_=>none
 | k+1,x1,x5,x6,xag,xah,xai,xaj,xak,xal=>if x6 < (xal.length:Int) then ((z0s.f k xag xah xai xaj xak xal x6 x1).bind fun t261=>(if t261=true then (if x5.length < 17592186044416 then (z14.l0 k x1 (x5 ++ [x6]) (wrap64 (x6+1)) xag xah xai xaj xak xal) else (none)) else (z14.l0 k x1 x5 (wrap64 (x6+1)) xag xah xai xaj xak xal))) else (some x5)
def z14.f (k:Nat) (a0_0:Int) (a0_1:Int) (a0_2:Int) (l0_3:List Int) (l0_4:List Int) (l0_5:List (S79)) (a1:Int):Option (List Int):=z14.l0 k a1 ([]:List Int) 0 a0_0 a0_1 a0_2 l0_3 l0_4 l0_5
theorem z14.mono_l:∀ k,(∀ y0 y1 y2 y3 y4 y5 y6 y7 y8,LeO (z14.l0 k y0 y1 y2 y3 y4 y5 y6 y7 y8) (z14.l0 (k+1) y0 y1 y2 y3 y4 y5 y6 y7 y8))
 | 0=>fun _ _ _ _ _ _ _ _ _ r h=>by simp [z14.l0] at h
 | k+1=>by
  have ih0:=z14.mono_l k
  ·intro y0 y1 y2 y3 y4 y5 y6 y7 y8;unfold z14.l0
   repeat' first|exact ih0 _ _ _ _ _ _ _ _ _|exact z0s.mono _ _ _ _ _ _ _ _ _|exact LeO.none _|refine LeO.ite ?_ ?_|refine LeO.bind ?_ (fun _=>?_)|exact LeO.refl _
theorem z14.mono:∀ a0 a1 a2 a3 a4 a5 a6 k,LeO (z14.f k a0 a1 a2 a3 a4 a5 a6) (z14.f (k+1) a0 a1 a2 a3 a4 a5 a6):=by
 intro a0 a1 a2 a3 a4 a5 a6 k;have ih0:=z14.mono_l k;unfold z14.f
 repeat' first|exact ih0 _ _ _ _ _ _ _ _ _|exact z0s.mono _ _ _ _ _ _ _ _ _|exact LeO.none _|refine LeO.ite ?_ ?_|refine LeO.bind ?_ (fun _=>?_)|exact LeO.refl _
theorem z14.calls (k:Nat) (a0_0:Int) (a0_1:Int) (a0_2:Int) (A0_3:Option Addr) (c0_3:Nat) (l0_3:List Int) (A0_4:Option Addr) (c0_4:Nat) (l0_4:List Int) (A0_5:Option Addr) (c0_5:Nat) (l0_5:List (S79)) (a1:Int) (r:List Int) (w:World) (hr0_3:Kd.C (Kd.int .u8) w A0_3 l0_3.length l0_3) (hc0_3:l0_3.length≤c0_3) (hr0_4:Kd.C (Kd.int .i64) w A0_4 l0_4.length l0_4) (hc0_4:l0_4.length≤c0_4) (hr0_5:Kd.C k79 w A0_5 l0_5.length l0_5) (hc0_5:l0_5.length≤c0_5) (h:z14.f k a0_0 a0_1 a0_2 l0_3 l0_4 l0_5 a1=some r) :
  Calls Tryz.prog 23 #[.agg #[.int .i64 a0_0,.int .i64 a0_1,.int .i64 a0_2,.slice A0_3 l0_3.length c0_3,.slice A0_4 l0_4.length c0_4,.slice A0_5 l0_5.length c0_5],.int .i64 a1] w fun e w'=>∃ v0_:Value,e=.returned (v0_)∧Kd.R (Kd.int .i64) 3 w' w.heap.size (fun _=>True) v0_ r∧Below w.heap.size w w':=by
 have hu26:=Tryz.underlying26;have HR0_3:=Aside0.mk hr0_3;have HC0_3:=Aside0.mk hc0_3;clear hr0_3 hc0_3;have HR0_4:=Aside0.mk hr0_4;have HC0_4:=Aside0.mk hc0_4;clear hr0_4 hc0_4;have HR0_5:=Aside0.mk hr0_5;have HC0_5:=Aside0.mk hc0_5;clear hr0_5 hc0_5;have HB:=Aside0.mk (Below.refl w.heap.size w);have H:(z14.l0 k a1 ([]:List Int) 0 a0_0 a0_1 a0_2 l0_3 l0_4 l0_5)=some r:=h;clear h;have H':=Aside0.mk H;clear H
 go_enter Tryz.func23,Tryz.ntmps23
 go_wp2_with (first|((with_reducible refine z12 (N:=2) rfl ?_);refine z17 ?hg (N:=2) ?hd (cs:=#[.int .i64 a0_0,.int .i64 a0_1,.int .i64 a0_2,.slice A0_3 l0_3.length c0_3,.slice A0_4 l0_4.length c0_4,.slice A0_5 l0_5.length c0_5]) (t:=26) ?hr ?_;(case hd=>rfl);(case hg=>rfl);(case hr=>first|(go_simp;done)|(go_simp;rfl));intro gb260 hg w3 hbox hb;have n0_:=Aside0.mk (z0o (by repeat (first|exact HB.out|apply z04|apply z03|apply z05)) hb);have n1_:=Aside0.mk (hbox);have n2_:=Aside0.mk ((by rw [hg];exact (z0h (by repeat (first|exact HB.out|apply z04|apply z03|apply z05))):w.heap.size≤gb260));have n3_:=Aside0.mk ((by rw [hg];exact (z0h (by repeat (first|exact HB.out|apply z04|apply z03|apply z05))):w.heap.size≤gb260));clear HB;have HB:=n0_;have BK260:=n1_;have GW260:=n2_;have GE260:=n3_;clear n0_ n1_ n2_ n3_;clear hb hbox hg))
 go_loopg [5,6] k (fun kq v5 v6 w'=>∃ (x5_1:List Int) (x6_1:Int),v6=.int .i64 x6_1∧Aside0 (z14.l0 kq a1 x5_1 x6_1 a0_0 a0_1 a0_2 l0_3 l0_4 l0_5=some r)∧Aside0 (kq≤k)∧Aside0 (Kd.R (Kd.int .i64) 3 w' w.heap.size (fun _=>True) v5 x5_1)∧Aside0 (w'.heap[gb260]?=some (.cells #[.int .i64 a0_0,.int .i64 a0_1,.int .i64 a0_2,(.slice A0_3 l0_3.length c0_3),(.slice A0_4 l0_4.length c0_4),(.slice A0_5 l0_5.length c0_5)] 26 (0,0)))∧Aside0 (Below w.heap.size w w'))
 case atStart=>exact ⟨(([]:List Int)),(0),(by first|rfl|(simp;done)|(simp [*];done)),H',⟨Nat.le_refl _⟩,⟨by first|exact Kd.R_nil _ _ _ _ _|exact Kd.N_nil _ _ _ _ _|exact Kd.V_nil _ _ _ _ _|exact Kd.Q_nil _ _ _ _ _|exact Kd.S_nil _ _ _ _ _⟩,⟨by (with_reducible repeat (first|refine z09 ?_ _|refine z0a ?_|refine z08 ?_ _));exact BK260.out⟩,⟨by repeat (first|(with_reducible first|exact HB.out|apply z04|apply z03|apply z05|refine z07 ?_ GE260.out)|exact HB.out)⟩⟩
 case round =>
  clear H';obtain ⟨x5_1,x6_1,rfl,HA,HK1,HO_5,BK260,HB⟩:=hrel;cases gk with
  | zero=>exact absurd HA.out (by simp [z14.l0])
  | succ k1 =>
   have H:=HA.out;clear HA;simp only [z14.l0] at H
   by_cases c4:x6_1 < (l0_5.length:Int)
   ·rw [if_pos c4] at H;have c4b0:decide (x6_1 < (l0_5.length:Int))=true:=decide_eq_true c4;clear c4;replace H:=Option.bind_eq_some_iff.mp H;obtain ⟨t261,A50,H⟩:=H;skip;have A5:=Aside0.mk A50;clear A50
    by_cases c6:t261=true
    ·subst c6;have H1:(if x5_1.length < 17592186044416 then (z14.l0 k1 a1 (x5_1 ++ [x6_1]) (wrap64 (x6_1+1)) a0_0 a0_1 a0_2 l0_3 l0_4 l0_5) else (none))=some r:=(by rw [if_pos rfl] at H;exact H);clear H;have H:=H1;clear H1
     by_cases c7:x5_1.length < 17592186044416
     ·rw [if_pos c7] at H;have LMc7:=Aside0.mk c7;clear c7;obtain ⟨y262,hy262⟩:∃ y_:List Int,y_=(x5_1 ++ [x6_1]):=⟨_,rfl⟩;replace H:(z14.l0 k1 a1 y262 (wrap64 (x6_1+1)) a0_0 a0_1 a0_2 l0_3 l0_4 l0_5)=some r:=by first|(rw [hy262];with_reducible exact H)|(have H2_:=(Option.bind_some _ _).symm.trans H;rw [hy262];with_reducible exact H2_)|(have H2_:=(Option.bind_some _ _).symm.trans H;with_reducible exact H2_)|with_reducible exact H|(rw [hy262];exact H)|exact H
      have Ny262:=Aside0.mk hy262;clear hy262;have H':=Aside0.mk H;clear H;have hcz8_0:wr.cell? ⟨gb260,0,none⟩=some (.int .i64 a0_0):=(z02 BK260.out 0).trans rfl;have hcz8_1:wr.cell? ⟨gb260,1,none⟩=some (.int .i64 a0_1):=(z02 BK260.out 1).trans rfl;have hcz8_2:wr.cell? ⟨gb260,2,none⟩=some (.int .i64 a0_2):=(z02 BK260.out 2).trans rfl;have hcz8_3:wr.cell? ⟨gb260,3,none⟩=some (.slice A0_3 l0_3.length c0_3):=(z02 BK260.out 3).trans rfl;have hcz8_4:wr.cell? ⟨gb260,4,none⟩=some (.slice A0_4 l0_4.length c0_4):=(z02 BK260.out 4).trans rfl;have hcz8_5:wr.cell? ⟨gb260,5,none⟩=some (.slice A0_5 l0_5.length c0_5):=(z02 BK260.out 5).trans rfl;have hfz8_0:=z01 BK260.out 0;have hfz8_1:=z01 BK260.out 1;have hfz8_2:=z01 BK260.out 2;have hfz8_3:=z01 BK260.out 3;have hfz8_4:=z01 BK260.out 4;have hfz8_5:=z01 BK260.out 5
      go_wp2_with (first|((with_reducible refine z0x (f:=61) rfl ?_);refine z1e (some 17) rfl rfl Tryz.func61 (by kernel_rfl) rfl #[.agg #[.int .i64 a0_0,.int .i64 a0_1,.int .i64 a0_2,.slice A0_3 l0_3.length c0_3,.slice A0_4 l0_4.length c0_4,.slice A0_5 l0_5.length c0_5],.int .i64 x6_1,.int .i64 a1] rfl (by (try simp only [List.map_toArray,List.map_cons,List.map_nil]);first|done|rfl) ?_;(with_reducible refine (z0s.calls k1 a0_0 a0_1 a0_2 _ _ l0_3 _ _ l0_4 _ _ l0_5 x6_1 a1 true _ ?side1 ?side2 ?side3 ?side4 ?side5 ?side6 A5.out).mono ?_);(case side1=>repeat (first|exact (Kd.C_below HR0_3.out HB.out)|(with_reducible refine Kd.C_alloc ?_ _)|(with_reducible refine Kd.C_drewN ?_ _)|(with_reducible refine Kd.C_drew ?_)));(case side2=>exact HC0_3.out);(case side3=>repeat (first|exact (Kd.C_below HR0_4.out HB.out)|(with_reducible refine Kd.C_alloc ?_ _)|(with_reducible refine Kd.C_drewN ?_ _)|(with_reducible refine Kd.C_drew ?_)));(case side4=>exact HC0_4.out);(case side5=>repeat (first|exact (Kd.C_below HR0_5.out HB.out)|(with_reducible refine Kd.C_alloc ?_ _)|(with_reducible refine Kd.C_drewN ?_ _)|(with_reducible refine Kd.C_drew ?_)));(case side6=>exact HC0_5.out);rintro e w9 ⟨rfl,hb⟩;refine ⟨_,rfl,?_⟩;have n0_:=Aside0.mk (Kd.R_below (by (with_reducible repeat (first|apply Kd.R_alloc|apply Kd.R_drewN|apply Kd.R_drew));exact HO_5.out) hb);have n1_:=Aside0.mk (z0z (g:=gb260) (o:=.cells #[.int .i64 a0_0,.int .i64 a0_1,.int .i64 a0_2,.slice A0_3 l0_3.length c0_3,.slice A0_4 l0_4.length c0_4,.slice A0_5 l0_5.length c0_5] 26 (0,0)) (by (with_reducible repeat (first|refine z09 ?_ _|refine z0a ?_|refine z08 ?_ _));exact BK260.out) hb);have n2_:=Aside0.mk (z0o (by repeat (first|(with_reducible first|exact HB.out|apply z04|apply z03|apply z05|refine z07 ?_ GE260.out)|exact HB.out)) hb);clear HO_5;clear BK260;clear HB;have HO_5:=n0_;have BK260:=n1_;have HB:=n2_;clear n0_ n1_ n2_;(try clear hb);(try clear hb2);(try clear hk);(try clear hi))|((with_reducible refine z2d (b:=.append) (xs:=#[.tmp 18,.tmp 20]) rfl ?_);at_builtin;refine Kd.R_append (Kd.int .i64) (w0:=w) w.heap.size rfl (.tmp 18) (.tmp 20) 23 3 (.int .i64 0) 8 rfl Tryz.underlying23 info3 rfl (by decide) (by omega) u5 x5_1 x6_1 [.int .i64 x6_1] (fun _=>True) (fun _=>False) rfl rfl ?aP (fun _ hk=>hk.elim) ?aF ?aO ?aB ?aS ?aL ?_;(case aP=>exact rfl);(case aB=>exact (by repeat (first|(with_reducible first|exact HB.out|apply z04|apply z03|apply z05|refine z07 ?_ GE260.out)|exact HB.out)));(case aF=>exact (fun _ _=>trivial));(case aO=>exact (by (with_reducible repeat (first|apply Kd.R_alloc|apply Kd.R_drewN|apply Kd.R_drew));exact HO_5.out));(case aS=>exact (z0h (by repeat (first|(with_reducible first|exact HB.out|apply z04|apply z03|apply z05|refine z07 ?_ GE260.out)|exact HB.out))));(case aL=>have:=LMc7.out;omega);intro v263 w10 ho hb hg hat;rw [← Ny262.out] at ho;have n0_:=Aside0.mk (z1v (g:=gb260) (o:=.cells #[.int .i64 a0_0,.int .i64 a0_1,.int .i64 a0_2,.slice A0_3 l0_3.length c0_3,.slice A0_4 l0_4.length c0_4,.slice A0_5 l0_5.length c0_5] 26 (0,0)) (by (with_reducible repeat (first|refine z09 ?_ _|refine z0a ?_|refine z08 ?_ _));exact BK260.out) hg (Kd.R_ne HO_5.out BK260.out (by decide)));have n1_:=Aside0.mk (hb);have n2_:=Aside0.mk (ho);clear BK260;clear HB;clear HO_5;have BK260:=n0_;have HB:=n1_;have HO264:=n2_;clear n0_ n1_ n2_;clear ho hb hg hat))
      go_roundg k1
      case measure=>have:=HK1.out;omega
      case rel=>exact ⟨(y262),(wrap64 (x6_1+1)),(by first|rfl|(simp;done)|(simp [*];done)),H',⟨by have:=HK1.out;omega⟩,⟨by (with_reducible repeat (first|apply Kd.R_alloc|apply Kd.R_drewN|apply Kd.R_drew));exact HO264.out⟩,⟨by (with_reducible repeat (first|refine z09 ?_ _|refine z0a ?_|refine z08 ?_ _));exact BK260.out⟩,⟨by repeat (first|(with_reducible first|exact HB.out|apply z04|apply z03|apply z05|refine z07 ?_ GE260.out)|exact HB.out)⟩⟩
     ·rw [if_neg c7] at H;exact absurd H (by simp)
    ·replace c6:=Bool.eq_false_iff.mpr c6;subst c6;have H1:(z14.l0 k1 a1 x5_1 (wrap64 (x6_1+1)) a0_0 a0_1 a0_2 l0_3 l0_4 l0_5)=some r:=(by rw [if_neg (show ¬ (false=true) by decide)] at H;exact H);clear H;have H:=H1;clear H1;have H':=Aside0.mk H;clear H;have hcz11_0:wr.cell? ⟨gb260,0,none⟩=some (.int .i64 a0_0):=(z02 BK260.out 0).trans rfl;have hcz11_1:wr.cell? ⟨gb260,1,none⟩=some (.int .i64 a0_1):=(z02 BK260.out 1).trans rfl;have hcz11_2:wr.cell? ⟨gb260,2,none⟩=some (.int .i64 a0_2):=(z02 BK260.out 2).trans rfl;have hcz11_3:wr.cell? ⟨gb260,3,none⟩=some (.slice A0_3 l0_3.length c0_3):=(z02 BK260.out 3).trans rfl;have hcz11_4:wr.cell? ⟨gb260,4,none⟩=some (.slice A0_4 l0_4.length c0_4):=(z02 BK260.out 4).trans rfl;have hcz11_5:wr.cell? ⟨gb260,5,none⟩=some (.slice A0_5 l0_5.length c0_5):=(z02 BK260.out 5).trans rfl;have hfz11_0:=z01 BK260.out 0;have hfz11_1:=z01 BK260.out 1;have hfz11_2:=z01 BK260.out 2;have hfz11_3:=z01 BK260.out 3;have hfz11_4:=z01 BK260.out 4;have hfz11_5:=z01 BK260.out 5
     go_wp2_with (first|((with_reducible refine z0x (f:=61) rfl ?_);refine z1e (some 17) rfl rfl Tryz.func61 (by kernel_rfl) rfl #[.agg #[.int .i64 a0_0,.int .i64 a0_1,.int .i64 a0_2,.slice A0_3 l0_3.length c0_3,.slice A0_4 l0_4.length c0_4,.slice A0_5 l0_5.length c0_5],.int .i64 x6_1,.int .i64 a1] rfl (by (try simp only [List.map_toArray,List.map_cons,List.map_nil]);first|done|rfl) ?_;(with_reducible refine (z0s.calls k1 a0_0 a0_1 a0_2 _ _ l0_3 _ _ l0_4 _ _ l0_5 x6_1 a1 false _ ?side1 ?side2 ?side3 ?side4 ?side5 ?side6 A5.out).mono ?_);(case side1=>repeat (first|exact (Kd.C_below HR0_3.out HB.out)|(with_reducible refine Kd.C_alloc ?_ _)|(with_reducible refine Kd.C_drewN ?_ _)|(with_reducible refine Kd.C_drew ?_)));(case side2=>exact HC0_3.out);(case side3=>repeat (first|exact (Kd.C_below HR0_4.out HB.out)|(with_reducible refine Kd.C_alloc ?_ _)|(with_reducible refine Kd.C_drewN ?_ _)|(with_reducible refine Kd.C_drew ?_)));(case side4=>exact HC0_4.out);(case side5=>repeat (first|exact (Kd.C_below HR0_5.out HB.out)|(with_reducible refine Kd.C_alloc ?_ _)|(with_reducible refine Kd.C_drewN ?_ _)|(with_reducible refine Kd.C_drew ?_)));(case side6=>exact HC0_5.out);rintro e w12 ⟨rfl,hb⟩;refine ⟨_,rfl,?_⟩;have n0_:=Aside0.mk (Kd.R_below (by (with_reducible repeat (first|apply Kd.R_alloc|apply Kd.R_drewN|apply Kd.R_drew));exact HO_5.out) hb);have n1_:=Aside0.mk (z0z (g:=gb260) (o:=.cells #[.int .i64 a0_0,.int .i64 a0_1,.int .i64 a0_2,.slice A0_3 l0_3.length c0_3,.slice A0_4 l0_4.length c0_4,.slice A0_5 l0_5.length c0_5] 26 (0,0)) (by (with_reducible repeat (first|refine z09 ?_ _|refine z0a ?_|refine z08 ?_ _));exact BK260.out) hb);have n2_:=Aside0.mk (z0o (by repeat (first|(with_reducible first|exact HB.out|apply z04|apply z03|apply z05|refine z07 ?_ GE260.out)|exact HB.out)) hb);clear HO_5;clear BK260;clear HB;have HO_5:=n0_;have BK260:=n1_;have HB:=n2_;clear n0_ n1_ n2_;(try clear hb);(try clear hb2);(try clear hk);(try clear hi)))
     go_roundg k1
     case measure=>have:=HK1.out;omega
     case rel=>exact ⟨(x5_1),(wrap64 (x6_1+1)),(by first|rfl|(simp;done)|(simp [*];done)),H',⟨by have:=HK1.out;omega⟩,⟨by (with_reducible repeat (first|apply Kd.R_alloc|apply Kd.R_drewN|apply Kd.R_drew));exact HO_5.out⟩,⟨by (with_reducible repeat (first|refine z09 ?_ _|refine z0a ?_|refine z08 ?_ _));exact BK260.out⟩,⟨by repeat (first|(with_reducible first|exact HB.out|apply z04|apply z03|apply z05|refine z07 ?_ GE260.out)|exact HB.out)⟩⟩
   ·rw [if_neg c4] at H;have c4b0:decide (x6_1 < (l0_5.length:Int))=false:=decide_eq_false c4;clear c4;obtain rfl:=Option.some.inj H;have hcz13_0:wr.cell? ⟨gb260,0,none⟩=some (.int .i64 a0_0):=(z02 BK260.out 0).trans rfl;have hcz13_1:wr.cell? ⟨gb260,1,none⟩=some (.int .i64 a0_1):=(z02 BK260.out 1).trans rfl;have hcz13_2:wr.cell? ⟨gb260,2,none⟩=some (.int .i64 a0_2):=(z02 BK260.out 2).trans rfl;have hcz13_3:wr.cell? ⟨gb260,3,none⟩=some (.slice A0_3 l0_3.length c0_3):=(z02 BK260.out 3).trans rfl;have hcz13_4:wr.cell? ⟨gb260,4,none⟩=some (.slice A0_4 l0_4.length c0_4):=(z02 BK260.out 4).trans rfl;have hcz13_5:wr.cell? ⟨gb260,5,none⟩=some (.slice A0_5 l0_5.length c0_5):=(z02 BK260.out 5).trans rfl;have hfz13_0:=z01 BK260.out 0;have hfz13_1:=z01 BK260.out 1;have hfz13_2:=z01 BK260.out 2;have hfz13_3:=z01 BK260.out 3;have hfz13_4:=z01 BK260.out 4;have hfz13_5:=z01 BK260.out 5;go_wp2;go_ret
    exact ⟨_,by first|rfl|(simp [z0g,z0f] <;> rfl)|(simp [*,z0g,z0f] <;> rfl),by (with_reducible repeat (first|apply Kd.R_alloc|apply Kd.R_drewN|apply Kd.R_drew));exact HO_5.out,by repeat (first|(with_reducible first|exact HB.out|apply z04|apply z03|apply z05|refine z07 ?_ GE260.out)|exact HB.out)⟩
def z19.l0:Nat→Int→List Int→Int→Int→Int→Int→List Int→List Int→List (S79)→Option (List Int)
 | 0,_,_,_,_,_,_,_,_,_=>none
 | k+1,x1,x5,x6,xam,xan,xao,xap,xaq,xar=>if x6 < (xar.length:Int) then (if 0≤x6 then (if ((z06 xar x6).f0)=23 then (if (wrap64 ((z06 xar x6).f4))=x1 then (if x5.length < 17592186044416 then (z19.l0 k x1 (x5 ++ [x6]) (wrap64 (x6+1)) xam xan xao xap xaq xar) else (none)) else (z19.l0 k x1 x5 (wrap64 (x6+1)) xam xan xao xap xaq xar)) else (z19.l0 k x1 x5 (wrap64 (x6+1)) xam xan xao xap xaq xar)) else (none)) else (some x5)
def z19.f (k:Nat) (a0_0:Int) (a0_1:Int) (a0_2:Int) (l0_3:List Int) (l0_4:List Int) (l0_5:List (S79)) (a1:Int):Option (List Int):=z19.l0 k a1 ([]:List Int) 0 a0_0 a0_1 a0_2 l0_3 l0_4 l0_5
theorem z19.mono_l:∀ k,(∀ y0 y1 y2 y3 y4 y5 y6 y7 y8,LeO (z19.l0 k y0 y1 y2 y3 y4 y5 y6 y7 y8) (z19.l0 (k+1) y0 y1 y2 y3 y4 y5 y6 y7 y8))
 | 0=>fun _ _ _ _ _ _ _ _ _ r h=>by simp [z19.l0] at h
 | k+1=>by
  have ih0:=z19.mono_l k
  ·intro y0 y1 y2 y3 y4 y5 y6 y7 y8;unfold z19.l0
   repeat' first|exact ih0 _ _ _ _ _ _ _ _ _|exact LeO.none _|refine LeO.ite ?_ ?_|refine LeO.bind ?_ (fun _=>?_)|exact LeO.refl _
theorem z19.mono:∀ a0 a1 a2 a3 a4 a5 a6 k,LeO (z19.f k a0 a1 a2 a3 a4 a5 a6) (z19.f (k+1) a0 a1 a2 a3 a4 a5 a6):=by
 intro a0 a1 a2 a3 a4 a5 a6 k;have ih0:=z19.mono_l k;unfold z19.f
 repeat' first|exact ih0 _ _ _ _ _ _ _ _ _|exact LeO.none _|refine LeO.ite ?_ ?_|refine LeO.bind ?_ (fun _=>?_)|exact LeO.refl _
theorem z19.calls (k:Nat) (a0_0:Int) (a0_1:Int) (a0_2:Int) (A0_3:Option Addr) (c0_3:Nat) (l0_3:List Int) (A0_4:Option Addr) (c0_4:Nat) (l0_4:List Int) (A0_5:Option Addr) (c0_5:Nat) (l0_5:List (S79)) (a1:Int) (r:List Int) (w:World) (hr0_3:Kd.C (Kd.int .u8) w A0_3 l0_3.length l0_3) (hc0_3:l0_3.length≤c0_3) (hr0_4:Kd.C (Kd.int .i64) w A0_4 l0_4.length l0_4) (hc0_4:l0_4.length≤c0_4) (hr0_5:Kd.C k79 w A0_5 l0_5.length l0_5) (hc0_5:l0_5.length≤c0_5) (h:z19.f k a0_0 a0_1 a0_2 l0_3 l0_4 l0_5 a1=some r) :
  Calls Tryz.prog 25 #[.agg #[.int .i64 a0_0,.int .i64 a0_1,.int .i64 a0_2,.slice A0_3 l0_3.length c0_3,.slice A0_4 l0_4.length c0_4,.slice A0_5 l0_5.length c0_5],.int .i64 a1] w fun e w'=>∃ v0_:Value,e=.returned (v0_)∧Kd.R (Kd.int .i64) 3 w' w.heap.size (fun _=>True) v0_ r∧Below w.heap.size w w':=by
 have hu26:=Tryz.underlying26;have HR0_3:=Aside0.mk hr0_3;have HC0_3:=Aside0.mk hc0_3;clear hr0_3 hc0_3;have HR0_4:=Aside0.mk hr0_4;have HC0_4:=Aside0.mk hc0_4;clear hr0_4 hc0_4;have HR0_5:=Aside0.mk hr0_5;have HC0_5:=Aside0.mk hc0_5;clear hr0_5 hc0_5;have HB:=Aside0.mk (Below.refl w.heap.size w);have H:(z19.l0 k a1 ([]:List Int) 0 a0_0 a0_1 a0_2 l0_3 l0_4 l0_5)=some r:=h;clear h;have H':=Aside0.mk H;clear H
 go_enter Tryz.func25,Tryz.ntmps25
 go_wp2_with (first|((with_reducible refine z12 (N:=2) rfl ?_);refine z17 ?hg (N:=2) ?hd (cs:=#[.int .i64 a0_0,.int .i64 a0_1,.int .i64 a0_2,.slice A0_3 l0_3.length c0_3,.slice A0_4 l0_4.length c0_4,.slice A0_5 l0_5.length c0_5]) (t:=26) ?hr ?_;(case hd=>rfl);(case hg=>rfl);(case hr=>first|(go_simp;done)|(go_simp;rfl));intro gb265 hg w3 hbox hb;have n0_:=Aside0.mk (z0o (by repeat (first|exact HB.out|apply z04|apply z03|apply z05)) hb);have n1_:=Aside0.mk (hbox);have n2_:=Aside0.mk ((by rw [hg];exact (z0h (by repeat (first|exact HB.out|apply z04|apply z03|apply z05))):w.heap.size≤gb265));have n3_:=Aside0.mk ((by rw [hg];exact (z0h (by repeat (first|exact HB.out|apply z04|apply z03|apply z05))):w.heap.size≤gb265));clear HB;have HB:=n0_;have BK265:=n1_;have GW265:=n2_;have GE265:=n3_;clear n0_ n1_ n2_ n3_;clear hb hbox hg))
 go_loopg [5,6] k (fun kq v5 v6 w'=>∃ (x5_1:List Int) (x6_1:Int),v6=.int .i64 x6_1∧Aside0 (z19.l0 kq a1 x5_1 x6_1 a0_0 a0_1 a0_2 l0_3 l0_4 l0_5=some r)∧Aside0 (kq≤k)∧Aside0 (Kd.R (Kd.int .i64) 3 w' w.heap.size (fun _=>True) v5 x5_1)∧Aside0 (w'.heap[gb265]?=some (.cells #[.int .i64 a0_0,.int .i64 a0_1,.int .i64 a0_2,(.slice A0_3 l0_3.length c0_3),(.slice A0_4 l0_4.length c0_4),(.slice A0_5 l0_5.length c0_5)] 26 (0,0)))∧Aside0 (Below w.heap.size w w'))
 case atStart=>exact ⟨(([]:List Int)),(0),(by first|rfl|(simp;done)|(simp [*];done)),H',⟨Nat.le_refl _⟩,⟨by first|exact Kd.R_nil _ _ _ _ _|exact Kd.N_nil _ _ _ _ _|exact Kd.V_nil _ _ _ _ _|exact Kd.Q_nil _ _ _ _ _|exact Kd.S_nil _ _ _ _ _⟩,⟨by (with_reducible repeat (first|refine z09 ?_ _|refine z0a ?_|refine z08 ?_ _));exact BK265.out⟩,⟨by repeat (first|(with_reducible first|exact HB.out|apply z04|apply z03|apply z05|refine z07 ?_ GE265.out)|exact HB.out)⟩⟩
 case round =>
  clear H';obtain ⟨x5_1,x6_1,rfl,HA,HK1,HO_5,BK265,HB⟩:=hrel;cases gk with
  | zero=>exact absurd HA.out (by simp [z19.l0])
  | succ k1 =>
   have H:=HA.out;clear HA;simp only [z19.l0] at H
   by_cases c4:x6_1 < (l0_5.length:Int)
   ·rw [if_pos c4] at H;have c4b0:decide (x6_1 < (l0_5.length:Int))=true:=decide_eq_true c4;clear c4
    by_cases c5:0≤x6_1
    ·rw [if_pos c5] at H;have c5b0:decide (0≤x6_1)=true:=decide_eq_true c5;clear c5
     by_cases c6:((z06 l0_5 x6_1).f0)=23
     ·rw [if_pos c6] at H;have c6b0:(((z06 l0_5 x6_1).f0) == 23)=true:=beq_iff_eq.mpr c6;have c6b1:(((z06 l0_5 x6_1).f0) != 23)=false:=bne_eq_false_iff_eq.mpr c6;clear c6
      by_cases c7:(wrap64 ((z06 l0_5 x6_1).f4))=a1
      ·rw [if_pos c7] at H;have c7b0:((wrap64 ((z06 l0_5 x6_1).f4)) == a1)=true:=beq_iff_eq.mpr c7;have c7b1:((wrap64 ((z06 l0_5 x6_1).f4)) != a1)=false:=bne_eq_false_iff_eq.mpr c7;clear c7
       by_cases c8:x5_1.length < 17592186044416
       ·rw [if_pos c8] at H;have LMc8:=Aside0.mk c8;clear c8;obtain ⟨y268,hy268⟩:∃ y_:List Int,y_=(x5_1 ++ [x6_1]):=⟨_,rfl⟩;replace H:(z19.l0 k1 a1 y268 (wrap64 (x6_1+1)) a0_0 a0_1 a0_2 l0_3 l0_4 l0_5)=some r:=by first|(rw [hy268];with_reducible exact H)|(have H2_:=(Option.bind_some _ _).symm.trans H;rw [hy268];with_reducible exact H2_)|(have H2_:=(Option.bind_some _ _).symm.trans H;with_reducible exact H2_)|with_reducible exact H|(rw [hy268];exact H)|exact H
        have Ny268:=Aside0.mk hy268;clear hy268;have H':=Aside0.mk H;clear H;have hcz9_0:wr.cell? ⟨gb265,0,none⟩=some (.int .i64 a0_0):=(z02 BK265.out 0).trans rfl;have hcz9_1:wr.cell? ⟨gb265,1,none⟩=some (.int .i64 a0_1):=(z02 BK265.out 1).trans rfl;have hcz9_2:wr.cell? ⟨gb265,2,none⟩=some (.int .i64 a0_2):=(z02 BK265.out 2).trans rfl;have hcz9_3:wr.cell? ⟨gb265,3,none⟩=some (.slice A0_3 l0_3.length c0_3):=(z02 BK265.out 3).trans rfl;have hcz9_4:wr.cell? ⟨gb265,4,none⟩=some (.slice A0_4 l0_4.length c0_4):=(z02 BK265.out 4).trans rfl;have hcz9_5:wr.cell? ⟨gb265,5,none⟩=some (.slice A0_5 l0_5.length c0_5):=(z02 BK265.out 5).trans rfl;have hfz9_0:=z01 BK265.out 0;have hfz9_1:=z01 BK265.out 1;have hfz9_2:=z01 BK265.out 2;have hfz9_3:=z01 BK265.out 3;have hfz9_4:=z01 BK265.out 4;have hfz9_5:=z01 BK265.out 5;have p266:0≤(x6_1:Int):=of_decide_eq_true (by assumption);have q266:x6_1 < (l0_5.length:Int):=of_decide_eq_true (by assumption);obtain ⟨ad266,e266,hx266_0,hx266_1,hx266_2,hx266_3,hx266_4⟩:=z22 HR0_5.out x6_1 p266 q266;cases e266;replace hx266_0:=(HB.out.cell (World.block_lt_of_cell? w _ hx266_0)).trans hx266_0;replace hx266_1:=(HB.out.cell (World.block_lt_of_cell? w _ hx266_1)).trans hx266_1;replace hx266_2:=(HB.out.cell (World.block_lt_of_cell? w _ hx266_2)).trans hx266_2;replace hx266_3:=(HB.out.cell (World.block_lt_of_cell? w _ hx266_3)).trans hx266_3;replace hx266_4:=(HB.out.cell (World.block_lt_of_cell? w _ hx266_4)).trans hx266_4;replace p266:=eq_true p266;replace q266:=eq_true q266;have p267:0≤(x6_1:Int):=of_decide_eq_true (by assumption);have q267:x6_1 < (l0_5.length:Int):=of_decide_eq_true (by assumption);obtain ⟨ad267,e267,hx267_0,hx267_1,hx267_2,hx267_3,hx267_4⟩:=z22 HR0_5.out x6_1 p267 q267;obtain rfl:ad266=ad267:=(by injection e267);replace hx267_0:=(HB.out.cell (World.block_lt_of_cell? w _ hx267_0)).trans hx267_0;replace hx267_1:=(HB.out.cell (World.block_lt_of_cell? w _ hx267_1)).trans hx267_1;replace hx267_2:=(HB.out.cell (World.block_lt_of_cell? w _ hx267_2)).trans hx267_2;replace hx267_3:=(HB.out.cell (World.block_lt_of_cell? w _ hx267_3)).trans hx267_3;replace hx267_4:=(HB.out.cell (World.block_lt_of_cell? w _ hx267_4)).trans hx267_4;replace p267:=eq_true p267;replace q267:=eq_true q267
        go_wp2_with (first|((with_reducible refine z2d (b:=.append) (xs:=#[.tmp 32,.tmp 34]) rfl ?_);at_builtin;refine Kd.R_append (Kd.int .i64) (w0:=w) w.heap.size rfl (.tmp 32) (.tmp 34) 23 3 (.int .i64 0) 8 rfl Tryz.underlying23 info3 rfl (by decide) (by omega) u5 x5_1 x6_1 [.int .i64 x6_1] (fun _=>True) (fun _=>False) rfl rfl ?aP (fun _ hk=>hk.elim) ?aF ?aO ?aB ?aS ?aL ?_;(case aP=>exact rfl);(case aB=>exact (by repeat (first|(with_reducible first|exact HB.out|apply z04|apply z03|apply z05|refine z07 ?_ GE265.out)|exact HB.out)));(case aF=>exact (fun _ _=>trivial));(case aO=>exact (by (with_reducible repeat (first|apply Kd.R_alloc|apply Kd.R_drewN|apply Kd.R_drew));exact HO_5.out));(case aS=>exact (z0h (by repeat (first|(with_reducible first|exact HB.out|apply z04|apply z03|apply z05|refine z07 ?_ GE265.out)|exact HB.out))));(case aL=>have:=LMc8.out;omega);intro v269 w10 ho hb hg hat;rw [← Ny268.out] at ho;have n0_:=Aside0.mk (z1v (g:=gb265) (o:=.cells #[.int .i64 a0_0,.int .i64 a0_1,.int .i64 a0_2,.slice A0_3 l0_3.length c0_3,.slice A0_4 l0_4.length c0_4,.slice (some ad266) l0_5.length c0_5] 26 (0,0)) (by (with_reducible repeat (first|refine z09 ?_ _|refine z0a ?_|refine z08 ?_ _));exact BK265.out) hg (Kd.R_ne HO_5.out BK265.out (by decide)));have n1_:=Aside0.mk (hb);have n2_:=Aside0.mk (ho);clear BK265;clear HB;clear HO_5;have BK265:=n0_;have HB:=n1_;have HO270:=n2_;clear n0_ n1_ n2_;clear ho hb hg hat))
        go_roundg k1
        case measure=>have:=HK1.out;omega
        case rel=>exact ⟨(y268),(wrap64 (x6_1+1)),(by first|rfl|(simp;done)|(simp [*];done)),H',⟨by have:=HK1.out;omega⟩,⟨by (with_reducible repeat (first|apply Kd.R_alloc|apply Kd.R_drewN|apply Kd.R_drew));exact HO270.out⟩,⟨by (with_reducible repeat (first|refine z09 ?_ _|refine z0a ?_|refine z08 ?_ _));exact BK265.out⟩,⟨by repeat (first|(with_reducible first|exact HB.out|apply z04|apply z03|apply z05|refine z07 ?_ GE265.out)|exact HB.out)⟩⟩
       ·rw [if_neg c8] at H;exact absurd H (by simp)
      ·rw [if_neg c7] at H;have c7b0:((wrap64 ((z06 l0_5 x6_1).f4)) == a1)=false:=beq_eq_false_iff_ne.mpr c7;have c7b1:((wrap64 ((z06 l0_5 x6_1).f4)) != a1)=true:=bne_iff_ne.mpr c7;have H':=Aside0.mk H;clear H;have hcz11_0:wr.cell? ⟨gb265,0,none⟩=some (.int .i64 a0_0):=(z02 BK265.out 0).trans rfl;have hcz11_1:wr.cell? ⟨gb265,1,none⟩=some (.int .i64 a0_1):=(z02 BK265.out 1).trans rfl;have hcz11_2:wr.cell? ⟨gb265,2,none⟩=some (.int .i64 a0_2):=(z02 BK265.out 2).trans rfl;have hcz11_3:wr.cell? ⟨gb265,3,none⟩=some (.slice A0_3 l0_3.length c0_3):=(z02 BK265.out 3).trans rfl;have hcz11_4:wr.cell? ⟨gb265,4,none⟩=some (.slice A0_4 l0_4.length c0_4):=(z02 BK265.out 4).trans rfl;have hcz11_5:wr.cell? ⟨gb265,5,none⟩=some (.slice A0_5 l0_5.length c0_5):=(z02 BK265.out 5).trans rfl;have hfz11_0:=z01 BK265.out 0;have hfz11_1:=z01 BK265.out 1;have hfz11_2:=z01 BK265.out 2;have hfz11_3:=z01 BK265.out 3;have hfz11_4:=z01 BK265.out 4;have hfz11_5:=z01 BK265.out 5;have p266:0≤(x6_1:Int):=of_decide_eq_true (by assumption);have q266:x6_1 < (l0_5.length:Int):=of_decide_eq_true (by assumption);obtain ⟨ad266,e266,hx266_0,hx266_1,hx266_2,hx266_3,hx266_4⟩:=z22 HR0_5.out x6_1 p266 q266;cases e266;replace hx266_0:=(HB.out.cell (World.block_lt_of_cell? w _ hx266_0)).trans hx266_0;replace hx266_1:=(HB.out.cell (World.block_lt_of_cell? w _ hx266_1)).trans hx266_1;replace hx266_2:=(HB.out.cell (World.block_lt_of_cell? w _ hx266_2)).trans hx266_2;replace hx266_3:=(HB.out.cell (World.block_lt_of_cell? w _ hx266_3)).trans hx266_3;replace hx266_4:=(HB.out.cell (World.block_lt_of_cell? w _ hx266_4)).trans hx266_4;replace p266:=eq_true p266;replace q266:=eq_true q266;have p267:0≤(x6_1:Int):=of_decide_eq_true (by assumption);have q267:x6_1 < (l0_5.length:Int):=of_decide_eq_true (by assumption);obtain ⟨ad267,e267,hx267_0,hx267_1,hx267_2,hx267_3,hx267_4⟩:=z22 HR0_5.out x6_1 p267 q267;obtain rfl:ad266=ad267:=(by injection e267);replace hx267_0:=(HB.out.cell (World.block_lt_of_cell? w _ hx267_0)).trans hx267_0;replace hx267_1:=(HB.out.cell (World.block_lt_of_cell? w _ hx267_1)).trans hx267_1;replace hx267_2:=(HB.out.cell (World.block_lt_of_cell? w _ hx267_2)).trans hx267_2;replace hx267_3:=(HB.out.cell (World.block_lt_of_cell? w _ hx267_3)).trans hx267_3;replace hx267_4:=(HB.out.cell (World.block_lt_of_cell? w _ hx267_4)).trans hx267_4;replace p267:=eq_true p267;replace q267:=eq_true q267;go_wp2
       go_roundg k1
       case measure=>have:=HK1.out;omega
       case rel=>exact ⟨(x5_1),(wrap64 (x6_1+1)),(by first|rfl|(simp;done)|(simp [*];done)),H',⟨by have:=HK1.out;omega⟩,⟨by (with_reducible repeat (first|apply Kd.R_alloc|apply Kd.R_drewN|apply Kd.R_drew));exact HO_5.out⟩,⟨by (with_reducible repeat (first|refine z09 ?_ _|refine z0a ?_|refine z08 ?_ _));exact BK265.out⟩,⟨by repeat (first|(with_reducible first|exact HB.out|apply z04|apply z03|apply z05|refine z07 ?_ GE265.out)|exact HB.out)⟩⟩
     ·rw [if_neg c6] at H;have c6b0:(((z06 l0_5 x6_1).f0) == 23)=false:=beq_eq_false_iff_ne.mpr c6;have c6b1:(((z06 l0_5 x6_1).f0) != 23)=true:=bne_iff_ne.mpr c6;have H':=Aside0.mk H;clear H;have hcz12_0:wr.cell? ⟨gb265,0,none⟩=some (.int .i64 a0_0):=(z02 BK265.out 0).trans rfl;have hcz12_1:wr.cell? ⟨gb265,1,none⟩=some (.int .i64 a0_1):=(z02 BK265.out 1).trans rfl;have hcz12_2:wr.cell? ⟨gb265,2,none⟩=some (.int .i64 a0_2):=(z02 BK265.out 2).trans rfl;have hcz12_3:wr.cell? ⟨gb265,3,none⟩=some (.slice A0_3 l0_3.length c0_3):=(z02 BK265.out 3).trans rfl;have hcz12_4:wr.cell? ⟨gb265,4,none⟩=some (.slice A0_4 l0_4.length c0_4):=(z02 BK265.out 4).trans rfl;have hcz12_5:wr.cell? ⟨gb265,5,none⟩=some (.slice A0_5 l0_5.length c0_5):=(z02 BK265.out 5).trans rfl;have hfz12_0:=z01 BK265.out 0;have hfz12_1:=z01 BK265.out 1;have hfz12_2:=z01 BK265.out 2;have hfz12_3:=z01 BK265.out 3;have hfz12_4:=z01 BK265.out 4;have hfz12_5:=z01 BK265.out 5;have p266:0≤(x6_1:Int):=of_decide_eq_true (by assumption);have q266:x6_1 < (l0_5.length:Int):=of_decide_eq_true (by assumption);obtain ⟨ad266,e266,hx266_0,hx266_1,hx266_2,hx266_3,hx266_4⟩:=z22 HR0_5.out x6_1 p266 q266;cases e266;replace hx266_0:=(HB.out.cell (World.block_lt_of_cell? w _ hx266_0)).trans hx266_0;replace hx266_1:=(HB.out.cell (World.block_lt_of_cell? w _ hx266_1)).trans hx266_1;replace hx266_2:=(HB.out.cell (World.block_lt_of_cell? w _ hx266_2)).trans hx266_2;replace hx266_3:=(HB.out.cell (World.block_lt_of_cell? w _ hx266_3)).trans hx266_3;replace hx266_4:=(HB.out.cell (World.block_lt_of_cell? w _ hx266_4)).trans hx266_4;replace p266:=eq_true p266;replace q266:=eq_true q266;go_wp2
      go_roundg k1
      case measure=>have:=HK1.out;omega
      case rel=>exact ⟨(x5_1),(wrap64 (x6_1+1)),(by first|rfl|(simp;done)|(simp [*];done)),H',⟨by have:=HK1.out;omega⟩,⟨by (with_reducible repeat (first|apply Kd.R_alloc|apply Kd.R_drewN|apply Kd.R_drew));exact HO_5.out⟩,⟨by (with_reducible repeat (first|refine z09 ?_ _|refine z0a ?_|refine z08 ?_ _));exact BK265.out⟩,⟨by repeat (first|(with_reducible first|exact HB.out|apply z04|apply z03|apply z05|refine z07 ?_ GE265.out)|exact HB.out)⟩⟩
    ·rw [if_neg c5] at H;exact absurd H (by simp)
   ·rw [if_neg c4] at H;have c4b0:decide (x6_1 < (l0_5.length:Int))=false:=decide_eq_false c4;clear c4;obtain rfl:=Option.some.inj H;have hcz13_0:wr.cell? ⟨gb265,0,none⟩=some (.int .i64 a0_0):=(z02 BK265.out 0).trans rfl;have hcz13_1:wr.cell? ⟨gb265,1,none⟩=some (.int .i64 a0_1):=(z02 BK265.out 1).trans rfl;have hcz13_2:wr.cell? ⟨gb265,2,none⟩=some (.int .i64 a0_2):=(z02 BK265.out 2).trans rfl;have hcz13_3:wr.cell? ⟨gb265,3,none⟩=some (.slice A0_3 l0_3.length c0_3):=(z02 BK265.out 3).trans rfl;have hcz13_4:wr.cell? ⟨gb265,4,none⟩=some (.slice A0_4 l0_4.length c0_4):=(z02 BK265.out 4).trans rfl;have hcz13_5:wr.cell? ⟨gb265,5,none⟩=some (.slice A0_5 l0_5.length c0_5):=(z02 BK265.out 5).trans rfl;have hfz13_0:=z01 BK265.out 0;have hfz13_1:=z01 BK265.out 1;have hfz13_2:=z01 BK265.out 2;have hfz13_3:=z01 BK265.out 3;have hfz13_4:=z01 BK265.out 4;have hfz13_5:=z01 BK265.out 5;go_wp2;go_ret
    exact ⟨_,by first|rfl|(simp [z0g,z0f] <;> rfl)|(simp [*,z0g,z0f] <;> rfl),by (with_reducible repeat (first|apply Kd.R_alloc|apply Kd.R_drewN|apply Kd.R_drew));exact HO_5.out,by repeat (first|(with_reducible first|exact HB.out|apply z04|apply z03|apply z05|refine z07 ?_ GE265.out)|exact HB.out)⟩
def z13.l0:Nat→Int→List Int→Int→Int→Int→Int→List Int→List Int→List (S79)→Option (List Int)
 | 0,_,_,_,_,_,_,_,_,_=>none
 | k+1,x1,x5,x6,xas,xat,xau,xav,xaw,xay=>if x6 < (xay.length:Int) then (if 0≤x6 then (if ((z06 xay x6).f0)=24 then ((z0i.f k xas xat xau xav xaw xay x6).bind fun t273=>(if t273=x1 then (if x5.length < 17592186044416 then (z13.l0 k x1 (x5 ++ [x6]) (wrap64 (x6+1)) xas xat xau xav xaw xay) else (none)) else (z13.l0 k x1 x5 (wrap64 (x6+1)) xas xat xau xav xaw xay))) else (z13.l0 k x1 x5 (wrap64 (x6+1)) xas xat xau xav xaw xay)) else (none)) else (some x5)
def z13.f (k:Nat) (a0_0:Int) (a0_1:Int) (a0_2:Int) (l0_3:List Int) (l0_4:List Int) (l0_5:List (S79)) (a1:Int):Option (List Int):=z13.l0 k a1 ([]:List Int) 0 a0_0 a0_1 a0_2 l0_3 l0_4 l0_5
theorem z13.mono_l:∀ k,(∀ y0 y1 y2 y3 y4 y5 y6 y7 y8,LeO (z13.l0 k y0 y1 y2 y3 y4 y5 y6 y7 y8) (z13.l0 (k+1) y0 y1 y2 y3 y4 y5 y6 y7 y8))
 | 0=>fun _ _ _ _ _ _ _ _ _ r h=>by simp [z13.l0] at h
 | k+1=>by
  have ih0:=z13.mono_l k
  ·intro y0 y1 y2 y3 y4 y5 y6 y7 y8;unfold z13.l0
   repeat' first|exact ih0 _ _ _ _ _ _ _ _ _|exact z0i.mono _ _ _ _ _ _ _ _|exact LeO.none _|refine LeO.ite ?_ ?_|refine LeO.bind ?_ (fun _=>?_)|exact LeO.refl _
theorem z13.mono:∀ a0 a1 a2 a3 a4 a5 a6 k,LeO (z13.f k a0 a1 a2 a3 a4 a5 a6) (z13.f (k+1) a0 a1 a2 a3 a4 a5 a6):=by
 intro a0 a1 a2 a3 a4 a5 a6 k;have ih0:=z13.mono_l k;unfold z13.f
 repeat' first|exact ih0 _ _ _ _ _ _ _ _ _|exact z0i.mono _ _ _ _ _ _ _ _|exact LeO.none _|refine LeO.ite ?_ ?_|refine LeO.bind ?_ (fun _=>?_)|exact LeO.refl _
theorem z13.calls (k:Nat) (a0_0:Int) (a0_1:Int) (a0_2:Int) (A0_3:Option Addr) (c0_3:Nat) (l0_3:List Int) (A0_4:Option Addr) (c0_4:Nat) (l0_4:List Int) (A0_5:Option Addr) (c0_5:Nat) (l0_5:List (S79)) (a1:Int) (r:List Int) (w:World) (hr0_3:Kd.C (Kd.int .u8) w A0_3 l0_3.length l0_3) (hc0_3:l0_3.length≤c0_3) (hr0_4:Kd.C (Kd.int .i64) w A0_4 l0_4.length l0_4) (hc0_4:l0_4.length≤c0_4) (hr0_5:Kd.C k79 w A0_5 l0_5.length l0_5) (hc0_5:l0_5.length≤c0_5) (h:z13.f k a0_0 a0_1 a0_2 l0_3 l0_4 l0_5 a1=some r) :
  Calls Tryz.prog 27 #[.agg #[.int .i64 a0_0,.int .i64 a0_1,.int .i64 a0_2,.slice A0_3 l0_3.length c0_3,.slice A0_4 l0_4.length c0_4,.slice A0_5 l0_5.length c0_5],.int .i64 a1] w fun e w'=>∃ v0_:Value,e=.returned (v0_)∧Kd.R (Kd.int .i64) 3 w' w.heap.size (fun _=>True) v0_ r∧Below w.heap.size w w':=by
 have hu26:=Tryz.underlying26;have HR0_3:=Aside0.mk hr0_3;have HC0_3:=Aside0.mk hc0_3;clear hr0_3 hc0_3;have HR0_4:=Aside0.mk hr0_4;have HC0_4:=Aside0.mk hc0_4;clear hr0_4 hc0_4;have HR0_5:=Aside0.mk hr0_5;have HC0_5:=Aside0.mk hc0_5;clear hr0_5 hc0_5;have HB:=Aside0.mk (Below.refl w.heap.size w);have H:(z13.l0 k a1 ([]:List Int) 0 a0_0 a0_1 a0_2 l0_3 l0_4 l0_5)=some r:=h;clear h;have H':=Aside0.mk H;clear H
 go_enter Tryz.func27,Tryz.ntmps27
 go_wp2_with (first|((with_reducible refine z12 (N:=2) rfl ?_);refine z17 ?hg (N:=2) ?hd (cs:=#[.int .i64 a0_0,.int .i64 a0_1,.int .i64 a0_2,.slice A0_3 l0_3.length c0_3,.slice A0_4 l0_4.length c0_4,.slice A0_5 l0_5.length c0_5]) (t:=26) ?hr ?_;(case hd=>rfl);(case hg=>rfl);(case hr=>first|(go_simp;done)|(go_simp;rfl));intro gb271 hg w3 hbox hb;have n0_:=Aside0.mk (z0o (by repeat (first|exact HB.out|apply z04|apply z03|apply z05)) hb);have n1_:=Aside0.mk (hbox);have n2_:=Aside0.mk ((by rw [hg];exact (z0h (by repeat (first|exact HB.out|apply z04|apply z03|apply z05))):w.heap.size≤gb271));have n3_:=Aside0.mk ((by rw [hg];exact (z0h (by repeat (first|exact HB.out|apply z04|apply z03|apply z05))):w.heap.size≤gb271));clear HB;have HB:=n0_;have BK271:=n1_;have GW271:=n2_;have GE271:=n3_;clear n0_ n1_ n2_ n3_;clear hb hbox hg))
 go_loopg [5,6] k (fun kq v5 v6 w'=>∃ (x5_1:List Int) (x6_1:Int),v6=.int .i64 x6_1∧Aside0 (z13.l0 kq a1 x5_1 x6_1 a0_0 a0_1 a0_2 l0_3 l0_4 l0_5=some r)∧Aside0 (kq≤k)∧Aside0 (Kd.R (Kd.int .i64) 3 w' w.heap.size (fun _=>True) v5 x5_1)∧Aside0 (w'.heap[gb271]?=some (.cells #[.int .i64 a0_0,.int .i64 a0_1,.int .i64 a0_2,(.slice A0_3 l0_3.length c0_3),(.slice A0_4 l0_4.length c0_4),(.slice A0_5 l0_5.length c0_5)] 26 (0,0)))∧Aside0 (Below w.heap.size w w'))
 case atStart=>exact ⟨(([]:List Int)),(0),(by first|rfl|(simp;done)|(simp [*];done)),H',⟨Nat.le_refl _⟩,⟨by first|exact Kd.R_nil _ _ _ _ _|exact Kd.N_nil _ _ _ _ _|exact Kd.V_nil _ _ _ _ _|exact Kd.Q_nil _ _ _ _ _|exact Kd.S_nil _ _ _ _ _⟩,⟨by (with_reducible repeat (first|refine z09 ?_ _|refine z0a ?_|refine z08 ?_ _));exact BK271.out⟩,⟨by repeat (first|(with_reducible first|exact HB.out|apply z04|apply z03|apply z05|refine z07 ?_ GE271.out)|exact HB.out)⟩⟩
 case round =>
  clear H';obtain ⟨x5_1,x6_1,rfl,HA,HK1,HO_5,BK271,HB⟩:=hrel;cases gk with
  | zero=>exact absurd HA.out (by simp [z13.l0])
  | succ k1 =>
   have H:=HA.out;clear HA;simp only [z13.l0] at H
   by_cases c4:x6_1 < (l0_5.length:Int)
   ·rw [if_pos c4] at H;have c4b0:decide (x6_1 < (l0_5.length:Int))=true:=decide_eq_true c4;clear c4
    by_cases c5:0≤x6_1
    ·rw [if_pos c5] at H;have c5b0:decide (0≤x6_1)=true:=decide_eq_true c5;clear c5
     by_cases c6:((z06 l0_5 x6_1).f0)=24
     ·rw [if_pos c6] at H;have c6b0:(((z06 l0_5 x6_1).f0) == 24)=true:=beq_iff_eq.mpr c6;have c6b1:(((z06 l0_5 x6_1).f0) != 24)=false:=bne_eq_false_iff_eq.mpr c6;clear c6;replace H:=Option.bind_eq_some_iff.mp H;obtain ⟨t273,A70,H⟩:=H;skip;have A7:=Aside0.mk A70;clear A70
      by_cases c8:t273=a1
      ·rw [if_pos c8] at H;have c8b0:(t273 == a1)=true:=beq_iff_eq.mpr c8;have c8b1:(t273 != a1)=false:=bne_eq_false_iff_eq.mpr c8;clear c8
       by_cases c9:x5_1.length < 17592186044416
       ·rw [if_pos c9] at H;have LMc9:=Aside0.mk c9;clear c9;obtain ⟨y274,hy274⟩:∃ y_:List Int,y_=(x5_1 ++ [x6_1]):=⟨_,rfl⟩;replace H:(z13.l0 k1 a1 y274 (wrap64 (x6_1+1)) a0_0 a0_1 a0_2 l0_3 l0_4 l0_5)=some r:=by first|(rw [hy274];with_reducible exact H)|(have H2_:=(Option.bind_some _ _).symm.trans H;rw [hy274];with_reducible exact H2_)|(have H2_:=(Option.bind_some _ _).symm.trans H;with_reducible exact H2_)|with_reducible exact H|(rw [hy274];exact H)|exact H
        have Ny274:=Aside0.mk hy274;clear hy274;have H':=Aside0.mk H;clear H;have hcz10_0:wr.cell? ⟨gb271,0,none⟩=some (.int .i64 a0_0):=(z02 BK271.out 0).trans rfl;have hcz10_1:wr.cell? ⟨gb271,1,none⟩=some (.int .i64 a0_1):=(z02 BK271.out 1).trans rfl;have hcz10_2:wr.cell? ⟨gb271,2,none⟩=some (.int .i64 a0_2):=(z02 BK271.out 2).trans rfl;have hcz10_3:wr.cell? ⟨gb271,3,none⟩=some (.slice A0_3 l0_3.length c0_3):=(z02 BK271.out 3).trans rfl;have hcz10_4:wr.cell? ⟨gb271,4,none⟩=some (.slice A0_4 l0_4.length c0_4):=(z02 BK271.out 4).trans rfl;have hcz10_5:wr.cell? ⟨gb271,5,none⟩=some (.slice A0_5 l0_5.length c0_5):=(z02 BK271.out 5).trans rfl;have hfz10_0:=z01 BK271.out 0;have hfz10_1:=z01 BK271.out 1;have hfz10_2:=z01 BK271.out 2;have hfz10_3:=z01 BK271.out 3;have hfz10_4:=z01 BK271.out 4;have hfz10_5:=z01 BK271.out 5;have p272:0≤(x6_1:Int):=of_decide_eq_true (by assumption);have q272:x6_1 < (l0_5.length:Int):=of_decide_eq_true (by assumption);obtain ⟨ad272,e272,hx272_0,hx272_1,hx272_2,hx272_3,hx272_4⟩:=z22 HR0_5.out x6_1 p272 q272;cases e272;replace hx272_0:=(HB.out.cell (World.block_lt_of_cell? w _ hx272_0)).trans hx272_0;replace hx272_1:=(HB.out.cell (World.block_lt_of_cell? w _ hx272_1)).trans hx272_1;replace hx272_2:=(HB.out.cell (World.block_lt_of_cell? w _ hx272_2)).trans hx272_2;replace hx272_3:=(HB.out.cell (World.block_lt_of_cell? w _ hx272_3)).trans hx272_3;replace hx272_4:=(HB.out.cell (World.block_lt_of_cell? w _ hx272_4)).trans hx272_4;replace p272:=eq_true p272;replace q272:=eq_true q272
        go_wp2_with (first|(go_at_call 65;(with_reducible refine (z0i.calls k1 a0_0 a0_1 a0_2 _ _ l0_3 _ _ l0_4 _ _ l0_5 x6_1 t273 _ ?side1 ?side2 ?side3 ?side4 ?side5 ?side6 A7.out).mono ?_);(case side1=>repeat (first|exact (Kd.C_below HR0_3.out HB.out)|(with_reducible refine Kd.C_alloc ?_ _)|(with_reducible refine Kd.C_drewN ?_ _)|(with_reducible refine Kd.C_drew ?_)));(case side2=>exact HC0_3.out);(case side3=>repeat (first|exact (Kd.C_below HR0_4.out HB.out)|(with_reducible refine Kd.C_alloc ?_ _)|(with_reducible refine Kd.C_drewN ?_ _)|(with_reducible refine Kd.C_drew ?_)));(case side4=>exact HC0_4.out);(case side5=>repeat (first|exact (Kd.C_below HR0_5.out HB.out)|(with_reducible refine Kd.C_alloc ?_ _)|(with_reducible refine Kd.C_drewN ?_ _)|(with_reducible refine Kd.C_drew ?_)));(case side6=>exact HC0_5.out);rintro e w11 ⟨rfl,hb⟩;have n0_:=Aside0.mk (Kd.R_below (by (with_reducible repeat (first|apply Kd.R_alloc|apply Kd.R_drewN|apply Kd.R_drew));exact HO_5.out) hb);have n1_:=Aside0.mk (z0z (g:=gb271) (o:=.cells #[.int .i64 a0_0,.int .i64 a0_1,.int .i64 a0_2,.slice A0_3 l0_3.length c0_3,.slice A0_4 l0_4.length c0_4,.slice (some ad272) l0_5.length c0_5] 26 (0,0)) (by (with_reducible repeat (first|refine z09 ?_ _|refine z0a ?_|refine z08 ?_ _));exact BK271.out) hb);have n2_:=Aside0.mk (z0o (by repeat (first|(with_reducible first|exact HB.out|apply z04|apply z03|apply z05|refine z07 ?_ GE271.out)|exact HB.out)) hb);clear HO_5;clear BK271;clear HB;have HO_5:=n0_;have BK271:=n1_;have HB:=n2_;clear n0_ n1_ n2_;(try clear hb);(try clear hb2);(try clear hk);(try clear hi))|((with_reducible refine z2d (b:=.append) (xs:=#[.tmp 28,.tmp 30]) rfl ?_);at_builtin;refine Kd.R_append (Kd.int .i64) (w0:=w) w.heap.size rfl (.tmp 28) (.tmp 30) 23 3 (.int .i64 0) 8 rfl Tryz.underlying23 info3 rfl (by decide) (by omega) u5 x5_1 x6_1 [.int .i64 x6_1] (fun _=>True) (fun _=>False) rfl rfl ?aP (fun _ hk=>hk.elim) ?aF ?aO ?aB ?aS ?aL ?_;(case aP=>exact rfl);(case aB=>exact (by repeat (first|(with_reducible first|exact HB.out|apply z04|apply z03|apply z05|refine z07 ?_ GE271.out)|exact HB.out)));(case aF=>exact (fun _ _=>trivial));(case aO=>exact (by (with_reducible repeat (first|apply Kd.R_alloc|apply Kd.R_drewN|apply Kd.R_drew));exact HO_5.out));(case aS=>exact (z0h (by repeat (first|(with_reducible first|exact HB.out|apply z04|apply z03|apply z05|refine z07 ?_ GE271.out)|exact HB.out))));(case aL=>have:=LMc9.out;omega);intro v275 w12 ho hb hg hat;rw [← Ny274.out] at ho;have n0_:=Aside0.mk (z1v (g:=gb271) (o:=.cells #[.int .i64 a0_0,.int .i64 a0_1,.int .i64 a0_2,.slice A0_3 l0_3.length c0_3,.slice A0_4 l0_4.length c0_4,.slice (some ad272) l0_5.length c0_5] 26 (0,0)) (by (with_reducible repeat (first|refine z09 ?_ _|refine z0a ?_|refine z08 ?_ _));exact BK271.out) hg (Kd.R_ne HO_5.out BK271.out (by decide)));have n1_:=Aside0.mk (hb);have n2_:=Aside0.mk (ho);clear BK271;clear HB;clear HO_5;have BK271:=n0_;have HB:=n1_;have HO276:=n2_;clear n0_ n1_ n2_;clear ho hb hg hat))
        go_roundg k1
        case measure=>have:=HK1.out;omega
        case rel=>exact ⟨(y274),(wrap64 (x6_1+1)),(by first|rfl|(simp;done)|(simp [*];done)),H',⟨by have:=HK1.out;omega⟩,⟨by (with_reducible repeat (first|apply Kd.R_alloc|apply Kd.R_drewN|apply Kd.R_drew));exact HO276.out⟩,⟨by (with_reducible repeat (first|refine z09 ?_ _|refine z0a ?_|refine z08 ?_ _));exact BK271.out⟩,⟨by repeat (first|(with_reducible first|exact HB.out|apply z04|apply z03|apply z05|refine z07 ?_ GE271.out)|exact HB.out)⟩⟩
       ·rw [if_neg c9] at H;exact absurd H (by simp)
      ·rw [if_neg c8] at H;have c8b0:(t273 == a1)=false:=beq_eq_false_iff_ne.mpr c8;have c8b1:(t273 != a1)=true:=bne_iff_ne.mpr c8;have H':=Aside0.mk H;clear H;have hcz13_0:wr.cell? ⟨gb271,0,none⟩=some (.int .i64 a0_0):=(z02 BK271.out 0).trans rfl;have hcz13_1:wr.cell? ⟨gb271,1,none⟩=some (.int .i64 a0_1):=(z02 BK271.out 1).trans rfl;have hcz13_2:wr.cell? ⟨gb271,2,none⟩=some (.int .i64 a0_2):=(z02 BK271.out 2).trans rfl;have hcz13_3:wr.cell? ⟨gb271,3,none⟩=some (.slice A0_3 l0_3.length c0_3):=(z02 BK271.out 3).trans rfl;have hcz13_4:wr.cell? ⟨gb271,4,none⟩=some (.slice A0_4 l0_4.length c0_4):=(z02 BK271.out 4).trans rfl;have hcz13_5:wr.cell? ⟨gb271,5,none⟩=some (.slice A0_5 l0_5.length c0_5):=(z02 BK271.out 5).trans rfl;have hfz13_0:=z01 BK271.out 0;have hfz13_1:=z01 BK271.out 1;have hfz13_2:=z01 BK271.out 2;have hfz13_3:=z01 BK271.out 3;have hfz13_4:=z01 BK271.out 4;have hfz13_5:=z01 BK271.out 5;have p272:0≤(x6_1:Int):=of_decide_eq_true (by assumption);have q272:x6_1 < (l0_5.length:Int):=of_decide_eq_true (by assumption);obtain ⟨ad272,e272,hx272_0,hx272_1,hx272_2,hx272_3,hx272_4⟩:=z22 HR0_5.out x6_1 p272 q272;cases e272;replace hx272_0:=(HB.out.cell (World.block_lt_of_cell? w _ hx272_0)).trans hx272_0;replace hx272_1:=(HB.out.cell (World.block_lt_of_cell? w _ hx272_1)).trans hx272_1;replace hx272_2:=(HB.out.cell (World.block_lt_of_cell? w _ hx272_2)).trans hx272_2;replace hx272_3:=(HB.out.cell (World.block_lt_of_cell? w _ hx272_3)).trans hx272_3;replace hx272_4:=(HB.out.cell (World.block_lt_of_cell? w _ hx272_4)).trans hx272_4;replace p272:=eq_true p272;replace q272:=eq_true q272
       go_wp2_with (first|(go_at_call 65;(with_reducible refine (z0i.calls k1 a0_0 a0_1 a0_2 _ _ l0_3 _ _ l0_4 _ _ l0_5 x6_1 t273 _ ?side1 ?side2 ?side3 ?side4 ?side5 ?side6 A7.out).mono ?_);(case side1=>repeat (first|exact (Kd.C_below HR0_3.out HB.out)|(with_reducible refine Kd.C_alloc ?_ _)|(with_reducible refine Kd.C_drewN ?_ _)|(with_reducible refine Kd.C_drew ?_)));(case side2=>exact HC0_3.out);(case side3=>repeat (first|exact (Kd.C_below HR0_4.out HB.out)|(with_reducible refine Kd.C_alloc ?_ _)|(with_reducible refine Kd.C_drewN ?_ _)|(with_reducible refine Kd.C_drew ?_)));(case side4=>exact HC0_4.out);(case side5=>repeat (first|exact (Kd.C_below HR0_5.out HB.out)|(with_reducible refine Kd.C_alloc ?_ _)|(with_reducible refine Kd.C_drewN ?_ _)|(with_reducible refine Kd.C_drew ?_)));(case side6=>exact HC0_5.out);rintro e w14 ⟨rfl,hb⟩;have n0_:=Aside0.mk (Kd.R_below (by (with_reducible repeat (first|apply Kd.R_alloc|apply Kd.R_drewN|apply Kd.R_drew));exact HO_5.out) hb);have n1_:=Aside0.mk (z0z (g:=gb271) (o:=.cells #[.int .i64 a0_0,.int .i64 a0_1,.int .i64 a0_2,.slice A0_3 l0_3.length c0_3,.slice A0_4 l0_4.length c0_4,.slice (some ad272) l0_5.length c0_5] 26 (0,0)) (by (with_reducible repeat (first|refine z09 ?_ _|refine z0a ?_|refine z08 ?_ _));exact BK271.out) hb);have n2_:=Aside0.mk (z0o (by repeat (first|(with_reducible first|exact HB.out|apply z04|apply z03|apply z05|refine z07 ?_ GE271.out)|exact HB.out)) hb);clear HO_5;clear BK271;clear HB;have HO_5:=n0_;have BK271:=n1_;have HB:=n2_;clear n0_ n1_ n2_;(try clear hb);(try clear hb2);(try clear hk);(try clear hi)))
       go_roundg k1
       case measure=>have:=HK1.out;omega
       case rel=>exact ⟨(x5_1),(wrap64 (x6_1+1)),(by first|rfl|(simp;done)|(simp [*];done)),H',⟨by have:=HK1.out;omega⟩,⟨by (with_reducible repeat (first|apply Kd.R_alloc|apply Kd.R_drewN|apply Kd.R_drew));exact HO_5.out⟩,⟨by (with_reducible repeat (first|refine z09 ?_ _|refine z0a ?_|refine z08 ?_ _));exact BK271.out⟩,⟨by repeat (first|(with_reducible first|exact HB.out|apply z04|apply z03|apply z05|refine z07 ?_ GE271.out)|exact HB.out)⟩⟩
     ·rw [if_neg c6] at H;have c6b0:(((z06 l0_5 x6_1).f0) == 24)=false:=beq_eq_false_iff_ne.mpr c6;have c6b1:(((z06 l0_5 x6_1).f0) != 24)=true:=bne_iff_ne.mpr c6;have H':=Aside0.mk H;clear H;have hcz15_0:wr.cell? ⟨gb271,0,none⟩=some (.int .i64 a0_0):=(z02 BK271.out 0).trans rfl;have hcz15_1:wr.cell? ⟨gb271,1,none⟩=some (.int .i64 a0_1):=(z02 BK271.out 1).trans rfl;have hcz15_2:wr.cell? ⟨gb271,2,none⟩=some (.int .i64 a0_2):=(z02 BK271.out 2).trans rfl;have hcz15_3:wr.cell? ⟨gb271,3,none⟩=some (.slice A0_3 l0_3.length c0_3):=(z02 BK271.out 3).trans rfl;have hcz15_4:wr.cell? ⟨gb271,4,none⟩=some (.slice A0_4 l0_4.length c0_4):=(z02 BK271.out 4).trans rfl;have hcz15_5:wr.cell? ⟨gb271,5,none⟩=some (.slice A0_5 l0_5.length c0_5):=(z02 BK271.out 5).trans rfl;have hfz15_0:=z01 BK271.out 0;have hfz15_1:=z01 BK271.out 1;have hfz15_2:=z01 BK271.out 2;have hfz15_3:=z01 BK271.out 3;have hfz15_4:=z01 BK271.out 4;have hfz15_5:=z01 BK271.out 5;have p272:0≤(x6_1:Int):=of_decide_eq_true (by assumption);have q272:x6_1 < (l0_5.length:Int):=of_decide_eq_true (by assumption);obtain ⟨ad272,e272,hx272_0,hx272_1,hx272_2,hx272_3,hx272_4⟩:=z22 HR0_5.out x6_1 p272 q272;cases e272;replace hx272_0:=(HB.out.cell (World.block_lt_of_cell? w _ hx272_0)).trans hx272_0;replace hx272_1:=(HB.out.cell (World.block_lt_of_cell? w _ hx272_1)).trans hx272_1;replace hx272_2:=(HB.out.cell (World.block_lt_of_cell? w _ hx272_2)).trans hx272_2;replace hx272_3:=(HB.out.cell (World.block_lt_of_cell? w _ hx272_3)).trans hx272_3;replace hx272_4:=(HB.out.cell (World.block_lt_of_cell? w _ hx272_4)).trans hx272_4;replace p272:=eq_true p272;replace q272:=eq_true q272;go_wp2
      go_roundg k1
      case measure=>have:=HK1.out;omega
      case rel=>exact ⟨(x5_1),(wrap64 (x6_1+1)),(by first|rfl|(simp;done)|(simp [*];done)),H',⟨by have:=HK1.out;omega⟩,⟨by (with_reducible repeat (first|apply Kd.R_alloc|apply Kd.R_drewN|apply Kd.R_drew));exact HO_5.out⟩,⟨by (with_reducible repeat (first|refine z09 ?_ _|refine z0a ?_|refine z08 ?_ _));exact BK271.out⟩,⟨by repeat (first|(with_reducible first|exact HB.out|apply z04|apply z03|apply z05|refine z07 ?_ GE271.out)|exact HB.out)⟩⟩
    ·rw [if_neg c5] at H;exact absurd H (by simp)
   ·rw [if_neg c4] at H;have c4b0:decide (x6_1 < (l0_5.length:Int))=false:=decide_eq_false c4;clear c4;obtain rfl:=Option.some.inj H;have hcz16_0:wr.cell? ⟨gb271,0,none⟩=some (.int .i64 a0_0):=(z02 BK271.out 0).trans rfl;have hcz16_1:wr.cell? ⟨gb271,1,none⟩=some (.int .i64 a0_1):=(z02 BK271.out 1).trans rfl;have hcz16_2:wr.cell? ⟨gb271,2,none⟩=some (.int .i64 a0_2):=(z02 BK271.out 2).trans rfl;have hcz16_3:wr.cell? ⟨gb271,3,none⟩=some (.slice A0_3 l0_3.length c0_3):=(z02 BK271.out 3).trans rfl;have hcz16_4:wr.cell? ⟨gb271,4,none⟩=some (.slice A0_4 l0_4.length c0_4):=(z02 BK271.out 4).trans rfl;have hcz16_5:wr.cell? ⟨gb271,5,none⟩=some (.slice A0_5 l0_5.length c0_5):=(z02 BK271.out 5).trans rfl;have hfz16_0:=z01 BK271.out 0;have hfz16_1:=z01 BK271.out 1;have hfz16_2:=z01 BK271.out 2;have hfz16_3:=z01 BK271.out 3;have hfz16_4:=z01 BK271.out 4;have hfz16_5:=z01 BK271.out 5;go_wp2;go_ret
    exact ⟨_,by first|rfl|(simp [z0g,z0f] <;> rfl)|(simp [*,z0g,z0f] <;> rfl),by (with_reducible repeat (first|apply Kd.R_alloc|apply Kd.R_drewN|apply Kd.R_drew));exact HO_5.out,by repeat (first|(with_reducible first|exact HB.out|apply z04|apply z03|apply z05|refine z07 ?_ GE271.out)|exact HB.out)⟩
attribute [local go_sem] z29 z2b z2g z2h z1y z1x z2a z27
mutual
def z0d.j0:Nat→Int→Int→Bool→Int→Int→Int→List Int→List Int→List (S79)→Option (List Int)
 | 0,_,_,_,_,_,_,_,_,_=>none
 | k+1,x1,x5,x21,xaz,xba,xbb,xbc,xbd,xbe=>if x21=true then (some ([]:List Int)) else (if 0≤x5 then (if (x5:Int).toNat≤35184372088832 then (z0d.l0 k x1 x5 (List.replicate (x5:Int).toNat 0) 0 xaz xba xbb xbc xbd xbe) else (none)) else (none))
def z0d.l0:Nat→Int→Int→List Int→Int→Int→Int→Int→List Int→List Int→List (S79)→Option (List Int)
 | 0,_,_,_,_,_,_,_,_,_,_=>none
 | k+1,x1,x5,x6,x7,xaz,xba,xbb,xbc,xbd,xbe=>if x7 < x5 then (if 0≤x7 then (if x7 < (x6.length:Int) then (z0d.l0 k x1 x5 (x6.set (x7:Int).toNat (-1)) (wrap64 (x7+1)) xaz xba xbb xbc xbd xbe) else (none)) else (none)) else (if 0≤x1 then (if x1 < (x6.length:Int) then (z0d.l1 k x5 (x6.set (x1:Int).toNat 0) 0 xaz xba xbb xbc xbd xbe) else (none)) else (none))
def z0d.l1:Nat→Int→List Int→Int→Int→Int→Int→List Int→List Int→List (S79)→Option (List Int)
 | 0,_,_,_,_,_,_,_,_,_=>none
 | k+1,x5,x6,x8,xaz,xba,xbb,xbc,xbd,xbe=>if x8 < x5 then (z0d.l2 k x5 x6 x8 0 xaz xba xbb xbc xbd xbe) else (some x6)
def z0d.l2:Nat→Int→List Int→Int→Int→Int→Int→Int→List Int→List Int→List (S79)→Option (List Int)
 | 0,_,_,_,_,_,_,_,_,_,_=>none
 | k+1,x5,x6,x8,x9,xaz,xba,xbb,xbc,xbd,xbe=>if x9 < x5 then (if 0≤x9 then (if x9 < (x6.length:Int) then (if (rd x6 x9)=x8 then ((z0t.f k xaz xba xbb xbc xbd xbe x9).bind fun t290=>(z0d.l3 k x5 x6 x8 x9 t290 0 xaz xba xbb xbc xbd xbe)) else (z0d.l2 k x5 x6 x8 (wrap64 (x9+1)) xaz xba xbb xbc xbd xbe)) else (none)) else (none)) else (z0d.l1 k x5 x6 (wrap64 (x8+1)) xaz xba xbb xbc xbd xbe)
def z0d.l3:Nat→Int→List Int→Int→Int→List Int→Int→Int→Int→Int→List Int→List Int→List (S79)→Option (List Int)
 | 0,_,_,_,_,_,_,_,_,_,_,_,_=>none
 | k+1,x5,x6,x8,x9,x10,x11,xaz,xba,xbb,xbc,xbd,xbe=>if x11 < (x10.length:Int) then (if 0≤x11 then (if 0≤(rd x10 x11) then (if (rd x10 x11) < (x6.length:Int) then (if (rd x6 (rd x10 x11)) < 0 then (z0d.l3 k x5 (x6.set ((rd x10 x11):Int).toNat (wrap64 (x8+1))) x8 x9 x10 (wrap64 (x11+1)) xaz xba xbb xbc xbd xbe) else (z0d.l3 k x5 x6 x8 x9 x10 (wrap64 (x11+1)) xaz xba xbb xbc xbd xbe)) else (none)) else (none)) else (none)) else (z0d.l2 k x5 x6 x8 (wrap64 (x9+1)) xaz xba xbb xbc xbd xbe)
end
def z0d.f (k:Nat) (a0_0:Int) (a0_1:Int) (a0_2:Int) (l0_3:List Int) (l0_4:List Int) (l0_5:List (S79)) (a1:Int):Option (List Int):=if a1 < 0 then (z0d.j0 k a1 (l0_5.length:Int) true a0_0 a0_1 a0_2 l0_3 l0_4 l0_5) else (z0d.j0 k a1 (l0_5.length:Int) (decide (a1 ≥ (l0_5.length:Int))) a0_0 a0_1 a0_2 l0_3 l0_4 l0_5)
theorem z0d.mono_l:∀ k,(∀ y0 y1 y2 y3 y4 y5 y6 y7 y8,LeO (z0d.j0 k y0 y1 y2 y3 y4 y5 y6 y7 y8) (z0d.j0 (k+1) y0 y1 y2 y3 y4 y5 y6 y7 y8))∧(∀ y0 y1 y2 y3 y4 y5 y6 y7 y8 y9,LeO (z0d.l0 k y0 y1 y2 y3 y4 y5 y6 y7 y8 y9) (z0d.l0 (k+1) y0 y1 y2 y3 y4 y5 y6 y7 y8 y9))∧(∀ y0 y1 y2 y3 y4 y5 y6 y7 y8,LeO (z0d.l1 k y0 y1 y2 y3 y4 y5 y6 y7 y8) (z0d.l1 (k+1) y0 y1 y2 y3 y4 y5 y6 y7 y8))∧(∀ y0 y1 y2 y3 y4 y5 y6 y7 y8 y9,LeO (z0d.l2 k y0 y1 y2 y3 y4 y5 y6 y7 y8 y9) (z0d.l2 (k+1) y0 y1 y2 y3 y4 y5 y6 y7 y8 y9))∧(∀ y0 y1 y2 y3 y4 y5 y6 y7 y8 y9 y10 y11,LeO (z0d.l3 k y0 y1 y2 y3 y4 y5 y6 y7 y8 y9 y10 y11) (z0d.l3 (k+1) y0 y1 y2 y3 y4 y5 y6 y7 y8 y9 y10 y11))
 | 0=>⟨fun _ _ _ _ _ _ _ _ _ r h=>by simp [z0d.j0] at h,fun _ _ _ _ _ _ _ _ _ _ r h=>by simp [z0d.l0] at h,fun _ _ _ _ _ _ _ _ _ r h=>by simp [z0d.l1] at h,fun _ _ _ _ _ _ _ _ _ _ r h=>by simp [z0d.l2] at h,fun _ _ _ _ _ _ _ _ _ _ _ _ r h=>by simp [z0d.l3] at h⟩
 | k+1=>by
  obtain ⟨ih0,ih1,ih2,ih3,ih4⟩:=z0d.mono_l k;refine ⟨?_,?_,?_,?_,?_⟩
  ·intro y0 y1 y2 y3 y4 y5 y6 y7 y8;unfold z0d.j0
   repeat' first|exact ih0 _ _ _ _ _ _ _ _ _|exact ih1 _ _ _ _ _ _ _ _ _ _|exact ih2 _ _ _ _ _ _ _ _ _|exact ih3 _ _ _ _ _ _ _ _ _ _|exact ih4 _ _ _ _ _ _ _ _ _ _ _ _|exact z0t.mono _ _ _ _ _ _ _ _|exact LeO.none _|refine LeO.ite ?_ ?_|refine LeO.bind ?_ (fun _=>?_)|exact LeO.refl _
  ·intro y0 y1 y2 y3 y4 y5 y6 y7 y8 y9;unfold z0d.l0
   repeat' first|exact ih0 _ _ _ _ _ _ _ _ _|exact ih1 _ _ _ _ _ _ _ _ _ _|exact ih2 _ _ _ _ _ _ _ _ _|exact ih3 _ _ _ _ _ _ _ _ _ _|exact ih4 _ _ _ _ _ _ _ _ _ _ _ _|exact z0t.mono _ _ _ _ _ _ _ _|exact LeO.none _|refine LeO.ite ?_ ?_|refine LeO.bind ?_ (fun _=>?_)|exact LeO.refl _
  ·intro y0 y1 y2 y3 y4 y5 y6 y7 y8;unfold z0d.l1
   repeat' first|exact ih0 _ _ _ _ _ _ _ _ _|exact ih1 _ _ _ _ _ _ _ _ _ _|exact ih2 _ _ _ _ _ _ _ _ _|exact ih3 _ _ _ _ _ _ _ _ _ _|exact ih4 _ _ _ _ _ _ _ _ _ _ _ _|exact z0t.mono _ _ _ _ _ _ _ _|exact LeO.none _|refine LeO.ite ?_ ?_|refine LeO.bind ?_ (fun _=>?_)|exact LeO.refl _
  ·intro y0 y1 y2 y3 y4 y5 y6 y7 y8 y9;unfold z0d.l2
   repeat' first|exact ih0 _ _ _ _ _ _ _ _ _|exact ih1 _ _ _ _ _ _ _ _ _ _|exact ih2 _ _ _ _ _ _ _ _ _|exact ih3 _ _ _ _ _ _ _ _ _ _|exact ih4 _ _ _ _ _ _ _ _ _ _ _ _|exact z0t.mono _ _ _ _ _ _ _ _|exact LeO.none _|refine LeO.ite ?_ ?_|refine LeO.bind ?_ (fun _=>?_)|exact LeO.refl _
  ·intro y0 y1 y2 y3 y4 y5 y6 y7 y8 y9 y10 y11;unfold z0d.l3
   repeat' first|exact ih0 _ _ _ _ _ _ _ _ _|exact ih1 _ _ _ _ _ _ _ _ _ _|exact ih2 _ _ _ _ _ _ _ _ _|exact ih3 _ _ _ _ _ _ _ _ _ _|exact ih4 _ _ _ _ _ _ _ _ _ _ _ _|exact z0t.mono _ _ _ _ _ _ _ _|exact LeO.none _|refine LeO.ite ?_ ?_|refine LeO.bind ?_ (fun _=>?_)|exact LeO.refl _
theorem z0d.mono:∀ a0 a1 a2 a3 a4 a5 a6 k,LeO (z0d.f k a0 a1 a2 a3 a4 a5 a6) (z0d.f (k+1) a0 a1 a2 a3 a4 a5 a6):=by
 intro a0 a1 a2 a3 a4 a5 a6 k;obtain ⟨ih0,ih1,ih2,ih3,ih4⟩:=z0d.mono_l k;unfold z0d.f
 repeat' first|exact ih0 _ _ _ _ _ _ _ _ _|exact ih1 _ _ _ _ _ _ _ _ _ _|exact ih2 _ _ _ _ _ _ _ _ _|exact ih3 _ _ _ _ _ _ _ _ _ _|exact ih4 _ _ _ _ _ _ _ _ _ _ _ _|exact z0t.mono _ _ _ _ _ _ _ _|exact LeO.none _|refine LeO.ite ?_ ?_|refine LeO.bind ?_ (fun _=>?_)|exact LeO.refl _
theorem z0d.calls (k:Nat) (a0_0:Int) (a0_1:Int) (a0_2:Int) (A0_3:Option Addr) (c0_3:Nat) (l0_3:List Int) (A0_4:Option Addr) (c0_4:Nat) (l0_4:List Int) (A0_5:Option Addr) (c0_5:Nat) (l0_5:List (S79)) (a1:Int) (r:List Int) (w:World) (hr0_3:Kd.C (Kd.int .u8) w A0_3 l0_3.length l0_3) (hc0_3:l0_3.length≤c0_3) (hr0_4:Kd.C (Kd.int .i64) w A0_4 l0_4.length l0_4) (hc0_4:l0_4.length≤c0_4) (hr0_5:Kd.C k79 w A0_5 l0_5.length l0_5) (hc0_5:l0_5.length≤c0_5) (h:z0d.f k a0_0 a0_1 a0_2 l0_3 l0_4 l0_5 a1=some r) :
  Calls Tryz.prog 32 #[.agg #[.int .i64 a0_0,.int .i64 a0_1,.int .i64 a0_2,.slice A0_3 l0_3.length c0_3,.slice A0_4 l0_4.length c0_4,.slice A0_5 l0_5.length c0_5],.int .i64 a1] w fun e w'=>∃ v0_:Value,e=.returned (v0_)∧Kd.R (Kd.int .i64) 3 w' w.heap.size (fun _=>True) v0_ r∧Below w.heap.size w w':=by
 have hu26:=Tryz.underlying26;have HR0_3:=Aside0.mk hr0_3;have HC0_3:=Aside0.mk hc0_3;clear hr0_3 hc0_3;have HR0_4:=Aside0.mk hr0_4;have HC0_4:=Aside0.mk hc0_4;clear hr0_4 hc0_4;have HR0_5:=Aside0.mk hr0_5;have HC0_5:=Aside0.mk hc0_5;clear hr0_5 hc0_5;have HB:=Aside0.mk (Below.refl w.heap.size w);have H:(if a1 < 0 then (z0d.j0 k a1 (l0_5.length:Int) true a0_0 a0_1 a0_2 l0_3 l0_4 l0_5) else (z0d.j0 k a1 (l0_5.length:Int) (decide (a1 ≥ (l0_5.length:Int))) a0_0 a0_1 a0_2 l0_3 l0_4 l0_5))=some r:=h;clear h;have HC3:=Aside0.mk H;clear H
 go_enter Tryz.func32,Tryz.ntmps32
 go_upto_region 2 with (first|((with_reducible refine z12 (N:=2) rfl ?_);refine z17 ?hg (N:=2) ?hd (cs:=#[.int .i64 a0_0,.int .i64 a0_1,.int .i64 a0_2,.slice A0_3 l0_3.length c0_3,.slice A0_4 l0_4.length c0_4,.slice A0_5 l0_5.length c0_5]) (t:=26) ?hr ?_;(case hd=>rfl);(case hg=>rfl);(case hr=>first|(go_simp;done)|(go_simp;rfl));intro gb283 hg w4 hbox hb;have n0_:=Aside0.mk (z0o (by repeat (first|exact HB.out|apply z04|apply z03|apply z05)) hb);have n1_:=Aside0.mk (hbox);have n2_:=Aside0.mk ((by rw [hg];exact (z0h (by repeat (first|exact HB.out|apply z04|apply z03|apply z05))):w.heap.size≤gb283));have n3_:=Aside0.mk ((by rw [hg];exact (z0h (by repeat (first|exact HB.out|apply z04|apply z03|apply z05))):w.heap.size≤gb283));clear HB;have HB:=n0_;have BK283:=n1_;have GW283:=n2_;have GE283:=n3_;clear n0_ n1_ n2_ n3_;clear hb hbox hg;have hcz5_0:w4.cell? ⟨gb283,0,none⟩=some (.int .i64 a0_0):=(z02 BK283.out 0).trans rfl;have hcz5_1:w4.cell? ⟨gb283,1,none⟩=some (.int .i64 a0_1):=(z02 BK283.out 1).trans rfl;have hcz5_2:w4.cell? ⟨gb283,2,none⟩=some (.int .i64 a0_2):=(z02 BK283.out 2).trans rfl;have hcz5_3:w4.cell? ⟨gb283,3,none⟩=some (.slice A0_3 l0_3.length c0_3):=(z02 BK283.out 3).trans rfl;have hcz5_4:w4.cell? ⟨gb283,4,none⟩=some (.slice A0_4 l0_4.length c0_4):=(z02 BK283.out 4).trans rfl;have hcz5_5:w4.cell? ⟨gb283,5,none⟩=some (.slice A0_5 l0_5.length c0_5):=(z02 BK283.out 5).trans rfl;have hfz5_0:=z01 BK283.out 0;have hfz5_1:=z01 BK283.out 1;have hfz5_2:=z01 BK283.out 2;have hfz5_3:=z01 BK283.out 3;have hfz5_4:=z01 BK283.out 4;have hfz5_5:=z01 BK283.out 5))
 (try simp only [Act.put,zq1,zq2,zq3])
 go_cut [21] (fun v21 wc=>∃ (kq:Nat) (x21_2:Bool),v21=.bool x21_2∧Aside0 (z0d.j0 kq a1 (l0_5.length:Int) x21_2 a0_0 a0_1 a0_2 l0_3 l0_4 l0_5=some r)∧Aside0 (kq≤k)∧Aside0 (wc.heap[gb283]?=some (.cells #[.int .i64 a0_0,.int .i64 a0_1,.int .i64 a0_2,(.slice A0_3 l0_3.length c0_3),(.slice A0_4 l0_4.length c0_4),(.slice A0_5 l0_5.length c0_5)] 26 (0,0)))∧Aside0 (Below w.heap.size w wc))
 case first =>
  have H:=HC3.out;clear HC3
  by_cases c6:a1 < 0
  ·rw [if_pos c6] at H;have c6b0:decide (a1 < 0)=true:=decide_eq_true c6;clear c6
   (first|rw [c6b0]|(simp only [i64_w,i32_w];rw [c6b0])|skip)
   have H':=Aside0.mk H;clear H;go_wp2
   go_meet
   case rel=>exact ⟨_,(true),(by first|rfl|(simp;done)|(simp [*];done)),H',⟨by first|omega|exact Nat.le_refl _⟩,⟨by (with_reducible repeat (first|refine z09 ?_ _|refine z0a ?_|refine z08 ?_ _));exact BK283.out⟩,⟨by repeat (first|(with_reducible first|exact HB.out|apply z04|apply z03|apply z05|refine z07 ?_ GE283.out)|exact HB.out)⟩⟩
  ·rw [if_neg c6] at H;have c6b0:decide (a1 < 0)=false:=decide_eq_false c6;clear c6
   (first|rw [c6b0]|(simp only [i64_w,i32_w];rw [c6b0])|skip)
   have H':=Aside0.mk H;clear H;go_wp2
   go_meet
   case rel=>exact ⟨_,(decide (a1 ≥ (l0_5.length:Int))),(by first|rfl|(simp;done)|(simp [*];done)),H',⟨by first|omega|exact Nat.le_refl _⟩,⟨by (with_reducible repeat (first|refine z09 ?_ _|refine z0a ?_|refine z08 ?_ _));exact BK283.out⟩,⟨by repeat (first|(with_reducible first|exact HB.out|apply z04|apply z03|apply z05|refine z07 ?_ GE283.out)|exact HB.out)⟩⟩
 case rest =>
  clear HC3;obtain ⟨kq,x21_2,rfl,HA,HJ2,BK283,HB⟩:=hcut;cases kq with
  | zero=>exact absurd HA.out (by simp [z0d.j0])
  | succ kj2 =>
   have H:=HA.out;clear HA;simp only [z0d.j0] at H
   by_cases c7:x21_2=true
   ·subst c7;have H1:(some ([]:List Int))=some r:=(by rw [if_pos rfl] at H;exact H);clear H;have H:=H1;clear H1;obtain rfl:=Option.some.inj H;go_wp2;go_ret
    exact ⟨_,by first|rfl|(simp [z0g,z0f] <;> rfl)|(simp [*,z0g,z0f] <;> rfl),by first|exact Kd.R_nil _ _ _ _ _|exact Kd.N_nil _ _ _ _ _|exact Kd.V_nil _ _ _ _ _|exact Kd.Q_nil _ _ _ _ _|exact Kd.S_nil _ _ _ _ _,by repeat (first|(with_reducible first|exact HB.out|apply z04|apply z03|apply z05|refine z07 ?_ GE283.out)|exact HB.out)⟩
   ·replace c7:=Bool.eq_false_iff.mpr c7;subst c7;have H1:(if 0≤(l0_5.length:Int) then (if ((l0_5.length:Int):Int).toNat≤35184372088832 then (z0d.l0 kj2 a1 (l0_5.length:Int) (List.replicate ((l0_5.length:Int):Int).toNat 0) 0 a0_0 a0_1 a0_2 l0_3 l0_4 l0_5) else (none)) else (none))=some r:=(by rw [if_neg (show ¬ (false=true) by decide)] at H;exact H);clear H;have H:=H1;clear H1
    by_cases c8:0≤(l0_5.length:Int)
    ·rw [if_pos c8] at H;have c8b0:=eq_true c8;have c8b1:decide (0≤(l0_5.length:Int))=true:=decide_eq_true c8;clear c8
     by_cases c9:((l0_5.length:Int):Int).toNat≤35184372088832
     ·rw [if_pos c9] at H;have c9b0:=eq_true c9;have c9b1:decide (((l0_5.length:Int):Int).toNat≤35184372088832)=true:=decide_eq_true c9;clear c9;obtain ⟨y284,hy284⟩:∃ y_:List Int,y_=(List.replicate ((l0_5.length:Int):Int).toNat 0):=⟨_,rfl⟩;replace H:(z0d.l0 kj2 a1 (l0_5.length:Int) y284 0 a0_0 a0_1 a0_2 l0_3 l0_4 l0_5)=some r:=by first|(rw [hy284];with_reducible exact H)|(have H2_:=(Option.bind_some _ _).symm.trans H;rw [hy284];with_reducible exact H2_)|(have H2_:=(Option.bind_some _ _).symm.trans H;with_reducible exact H2_)|with_reducible exact H|(rw [hy284];exact H)|exact H
      have Ny284:=Aside0.mk hy284;clear hy284;have H':=Aside0.mk H;clear H
      go_wp2_with (first|((with_reducible refine z12 (N:=23) rfl ?_);refine Kd.R_make (Kd.int .i64) _ 3 rfl (N:=23) rfl 23 _ _ rfl (l0_5.length:Int) rfl rfl Tryz.underlying23 (.int .i64 0) 8 info3 rfl (by decide) (by omega) 0 (ok:=fun _=>True) (okp:=fun _=>True) rfl (fun _ hk=>hk) trivial (of_decide_eq_true (by assumption)) (Nat.le_trans (Nat.mul_le_mul_right _ (of_decide_eq_true (by assumption):(l0_5.length:Int).toNat≤35184372088832)) (by omega)) (Below.refl _ _) (Nat.le_refl _) ?_;intro v285 w10 ho11 hb hg_ hnew_;clear hg_ hnew_;(first|rw [← Ny284.out] at ho11|(simp only [Int.reduceToNat] at ho11;rw [← Ny284.out] at ho11));have n0_:=Aside0.mk (Kd.R_lower ho11 (z0h (by repeat (first|(with_reducible first|exact HB.out|apply z04|apply z03|apply z05|refine z07 ?_ GE283.out)|exact HB.out))));have n1_:=Aside0.mk (z0z (g:=gb283) (o:=.cells #[.int .i64 a0_0,.int .i64 a0_1,.int .i64 a0_2,.slice A0_3 l0_3.length c0_3,.slice A0_4 l0_4.length c0_4,.slice A0_5 l0_5.length c0_5] 26 (0,0)) (by (with_reducible repeat (first|refine z09 ?_ _|refine z0a ?_|refine z08 ?_ _));exact BK283.out) hb);have n2_:=Aside0.mk (z0o (by repeat (first|(with_reducible first|exact HB.out|apply z04|apply z03|apply z05|refine z07 ?_ GE283.out)|exact HB.out)) hb);clear BK283;clear HB;have HO286:=n0_;have BK283:=n1_;have HB:=n2_;clear n0_ n1_ n2_;clear hb ho11))
      go_loopg [7] kj2 (fun kq v7 w'=>∃ (x6_2:List Int) (x7_2:Int),v7=.int .i64 x7_2∧Aside0 (z0d.l0 kq a1 (l0_5.length:Int) x6_2 x7_2 a0_0 a0_1 a0_2 l0_3 l0_4 l0_5=some r)∧Aside0 (kq≤kj2)∧Aside0 (Kd.R (Kd.int .i64) 3 w' w.heap.size (fun _=>True) v285 x6_2)∧Aside0 (w'.heap[gb283]?=some (.cells #[.int .i64 a0_0,.int .i64 a0_1,.int .i64 a0_2,(.slice A0_3 l0_3.length c0_3),(.slice A0_4 l0_4.length c0_4),(.slice A0_5 l0_5.length c0_5)] 26 (0,0)))∧Aside0 (Below w.heap.size w w'))
      case atStart=>exact ⟨(y284),(0),(by first|rfl|(simp;done)|(simp [*];done)),H',⟨Nat.le_refl _⟩,⟨by (with_reducible repeat (first|apply Kd.R_alloc|apply Kd.R_drewN|apply Kd.R_drew));exact HO286.out⟩,⟨by (with_reducible repeat (first|refine z09 ?_ _|refine z0a ?_|refine z08 ?_ _));exact BK283.out⟩,⟨by repeat (first|(with_reducible first|exact HB.out|apply z04|apply z03|apply z05|refine z07 ?_ GE283.out)|exact HB.out)⟩⟩
      case round =>
       clear H';obtain ⟨x6_2,x7_2,rfl,HA,HK2,HO_6,BK283,HB⟩:=hrel;cases gk with
       | zero=>exact absurd HA.out (by simp [z0d.l0])
       | succ k2 =>
        have H:=HA.out;clear HA;simp only [z0d.l0] at H
        by_cases c12:x7_2 < (l0_5.length:Int)
        ·rw [if_pos c12] at H;have c12b0:decide (x7_2 < (l0_5.length:Int))=true:=decide_eq_true c12;clear c12
         by_cases c13:0≤x7_2
         ·rw [if_pos c13] at H;have c13b0:decide (0≤x7_2)=true:=decide_eq_true c13;clear c13
          by_cases c14:x7_2 < (x6_2.length:Int)
          ·rw [if_pos c14] at H;have c14b0:decide (x7_2 < (x6_2.length:Int))=true:=decide_eq_true c14;clear c14;obtain ⟨y287,hy287⟩:∃ y_:List Int,y_=(x6_2.set (x7_2:Int).toNat (-1)):=⟨_,rfl⟩;replace H:(z0d.l0 k2 a1 (l0_5.length:Int) y287 (wrap64 (x7_2+1)) a0_0 a0_1 a0_2 l0_3 l0_4 l0_5)=some r:=by first|(rw [hy287];with_reducible exact H)|(have H2_:=(Option.bind_some _ _).symm.trans H;rw [hy287];with_reducible exact H2_)|(have H2_:=(Option.bind_some _ _).symm.trans H;with_reducible exact H2_)|with_reducible exact H|(rw [hy287];exact H)|exact H
           have Ny287:=Aside0.mk hy287;clear hy287;have H':=Aside0.mk H;clear H;have p15:0≤(x7_2:Int):=of_decide_eq_true (by assumption);have q15:(x7_2:Int) < ((x6_2.length:Int):Int):=of_decide_eq_true (by assumption);obtain ⟨go15,co15,eo15,gb15,gl15,cl15,HG15⟩:=Kd.R_form HO_6.out (by omega)
           (first|cases eo15|(injection eo15 with ea_ en_ ec_;(first|subst ea_|(injection ea_ with ea_;subst ea_));subst ec_;clear en_))
           have GB15:=Aside0.mk gb15;have GG15:=Aside0.mk HG15;clear gb15 gl15 HG15;obtain ⟨hx15_0,hf15_0⟩:=Kd.R_celln 0 HO_6.out (x7_2:Int) p15 q15;replace p15:=eq_true p15;replace q15:=eq_true q15;have HP16:=Kd.R_putg HO_6.out (x7_2:Int) (-1)
           go_wp2_with (first|((with_reducible refine z39 (t:=3) (p:=31) rfl ?_);refine z34 (t:=3) (p:=31) (v:=?vo_w17) (w1:=(wr.setCell ⟨go15,(x7_2:Int).toNat,none⟩ (.int .i64 (-1)))) ?hg ?ho ?hn ?hr ?_;(case ho=>rfl);(case hg=>rfl);(case hn=>rfl);(case hr=>first|(go_simp;done)|(go_simp;rfl));intro w17 hw;have hg:wr.grownBy w17 (some go15):=(by rw [hw];exact HP16.2);have hp_:Kd.R (Kd.int .i64) 3 w17 w.heap.size (fun _=>True) (.slice (some ⟨go15,0,none⟩) x6_2.length co15) y287:=(by rw [hw,Ny287.out];exact HP16.1);clear HP16;have n0_:=Aside0.mk (hp_);have n1_:=Aside0.mk (z1v (g:=gb283) (o:=.cells #[.int .i64 a0_0,.int .i64 a0_1,.int .i64 a0_2,.slice A0_3 l0_3.length c0_3,.slice A0_4 l0_4.length c0_4,.slice A0_5 l0_5.length c0_5] 26 (0,0)) (by (with_reducible repeat (first|refine z09 ?_ _|refine z0a ?_|refine z08 ?_ _));exact BK283.out) hg (Kd.R_ne HO_6.out BK283.out (by decide)));have n2_:=Aside0.mk ((by rw [hw];exact z07 (HB.out) GB15.out:Below w.heap.size w w17));clear HO_6;clear BK283;clear HB;have HO_6:=n0_;have BK283:=n1_;have HB:=n2_;clear n0_ n1_ n2_;clear hg hw hp_))
           go_roundg k2
           case measure=>have:=HJ2.out;have:=HK2.out;omega
           case rel=>exact ⟨(y287),(wrap64 (x7_2+1)),(by first|rfl|(simp;done)|(simp [*];done)),H',⟨by have:=HJ2.out;have:=HK2.out;omega⟩,⟨by (with_reducible repeat (first|apply Kd.R_alloc|apply Kd.R_drewN|apply Kd.R_drew));exact HO_6.out⟩,⟨by (with_reducible repeat (first|refine z09 ?_ _|refine z0a ?_|refine z08 ?_ _));exact BK283.out⟩,⟨by repeat (first|(with_reducible first|exact HB.out|apply z04|apply z03|apply z05|refine z07 ?_ GE283.out)|exact HB.out)⟩⟩
          ·rw [if_neg c14] at H;exact absurd H (by simp)
         ·rw [if_neg c13] at H;exact absurd H (by simp)
        ·rw [if_neg c12] at H;have c12b0:decide (x7_2 < (l0_5.length:Int))=false:=decide_eq_false c12;clear c12
         by_cases c18:0≤a1
         ·rw [if_pos c18] at H;have c18b0:decide (0≤a1)=true:=decide_eq_true c18;clear c18
          by_cases c19:a1 < (x6_2.length:Int)
          ·rw [if_pos c19] at H;have c19b0:decide (a1 < (x6_2.length:Int))=true:=decide_eq_true c19;clear c19;obtain ⟨y288,hy288⟩:∃ y_:List Int,y_=(x6_2.set (a1:Int).toNat 0):=⟨_,rfl⟩;replace H:(z0d.l1 k2 (l0_5.length:Int) y288 0 a0_0 a0_1 a0_2 l0_3 l0_4 l0_5)=some r:=by first|(rw [hy288];with_reducible exact H)|(have H2_:=(Option.bind_some _ _).symm.trans H;rw [hy288];with_reducible exact H2_)|(have H2_:=(Option.bind_some _ _).symm.trans H;with_reducible exact H2_)|with_reducible exact H|(rw [hy288];exact H)|exact H
           have Ny288:=Aside0.mk hy288;clear hy288;have H':=Aside0.mk H;clear H;have p20:0≤(a1:Int):=of_decide_eq_true (by assumption);have q20:(a1:Int) < ((x6_2.length:Int):Int):=of_decide_eq_true (by assumption);obtain ⟨go20,co20,eo20,gb20,gl20,cl20,HG20⟩:=Kd.R_form HO_6.out (by omega)
           (first|cases eo20|(injection eo20 with ea_ en_ ec_;(first|subst ea_|(injection ea_ with ea_;subst ea_));subst ec_;clear en_))
           have GB20:=Aside0.mk gb20;have GG20:=Aside0.mk HG20;clear gb20 gl20 HG20;obtain ⟨hx20_0,hf20_0⟩:=Kd.R_celln 0 HO_6.out (a1:Int) p20 q20;replace p20:=eq_true p20;replace q20:=eq_true q20;have HP21:=Kd.R_putg HO_6.out (a1:Int) 0
           go_wp2_with (first|((with_reducible refine z39 (t:=3) (p:=34) rfl ?_);refine z34 (t:=3) (p:=34) (v:=?vo_w22) (w1:=(wr.setCell ⟨go20,(a1:Int).toNat,none⟩ (.int .i64 0))) ?hg ?ho ?hn ?hr ?_;(case ho=>rfl);(case hg=>rfl);(case hn=>rfl);(case hr=>first|(go_simp;done)|(go_simp;rfl));intro w22 hw;have hg:wr.grownBy w22 (some go20):=(by rw [hw];exact HP21.2);have hp_:Kd.R (Kd.int .i64) 3 w22 w.heap.size (fun _=>True) (.slice (some ⟨go20,0,none⟩) x6_2.length co20) y288:=(by rw [hw,Ny288.out];exact HP21.1);clear HP21;have n0_:=Aside0.mk (hp_);have n1_:=Aside0.mk (z1v (g:=gb283) (o:=.cells #[.int .i64 a0_0,.int .i64 a0_1,.int .i64 a0_2,.slice A0_3 l0_3.length c0_3,.slice A0_4 l0_4.length c0_4,.slice A0_5 l0_5.length c0_5] 26 (0,0)) (by (with_reducible repeat (first|refine z09 ?_ _|refine z0a ?_|refine z08 ?_ _));exact BK283.out) hg (Kd.R_ne HO_6.out BK283.out (by decide)));have n2_:=Aside0.mk ((by rw [hw];exact z07 (HB.out) GB20.out:Below w.heap.size w w22));clear HO_6;clear BK283;clear HB;have HO_6:=n0_;have BK283:=n1_;have HB:=n2_;clear n0_ n1_ n2_;clear hg hw hp_))
           go_loopg [8] k2 (fun kq v8 w'=>∃ (x6_3:List Int) (x8_3:Int),v8=.int .i64 x8_3∧Aside0 (z0d.l1 kq (l0_5.length:Int) x6_3 x8_3 a0_0 a0_1 a0_2 l0_3 l0_4 l0_5=some r)∧Aside0 (kq≤k2)∧Aside0 (Kd.R (Kd.int .i64) 3 w' w.heap.size (fun _=>True) (.slice (some ⟨go20,0,none⟩) x6_2.length co20) x6_3)∧Aside0 (w'.heap[gb283]?=some (.cells #[.int .i64 a0_0,.int .i64 a0_1,.int .i64 a0_2,(.slice A0_3 l0_3.length c0_3),(.slice A0_4 l0_4.length c0_4),(.slice A0_5 l0_5.length c0_5)] 26 (0,0)))∧Aside0 (Below w.heap.size w w'))
           case atStart=>exact ⟨(y288),(0),(by first|rfl|(simp;done)|(simp [*];done)),H',⟨Nat.le_refl _⟩,⟨by (with_reducible repeat (first|apply Kd.R_alloc|apply Kd.R_drewN|apply Kd.R_drew));exact HO_6.out⟩,⟨by (with_reducible repeat (first|refine z09 ?_ _|refine z0a ?_|refine z08 ?_ _));exact BK283.out⟩,⟨by repeat (first|(with_reducible first|exact HB.out|apply z04|apply z03|apply z05|refine z07 ?_ GE283.out)|exact HB.out)⟩⟩
           case round =>
            clear H';obtain ⟨x6_3,x8_3,rfl,HA,HK3,HO_6,BK283,HB⟩:=hrel;have hl6_3:=(Kd.R_reads' HO_6.out).1;rw [hl6_3] at HO_6
            (try simp only [hl6_3])
            (try simp only [hl6_3] at BK283)
            cases gk with
            | zero=>exact absurd HA.out (by simp [z0d.l1])
            | succ k3 =>
             have H:=HA.out;clear HA;simp only [z0d.l1] at H
             by_cases c23:x8_3 < (l0_5.length:Int)
             ·rw [if_pos c23] at H;have c23b0:decide (x8_3 < (l0_5.length:Int))=true:=decide_eq_true c23;clear c23;have H':=Aside0.mk H;clear H;go_wp2
              go_loopg [9] k3 (fun kq v9 w'=>∃ (x6_4:List Int) (x9_4:Int),v9=.int .i64 x9_4∧Aside0 (z0d.l2 kq (l0_5.length:Int) x6_4 x8_3 x9_4 a0_0 a0_1 a0_2 l0_3 l0_4 l0_5=some r)∧Aside0 (kq≤k3)∧Aside0 (Kd.R (Kd.int .i64) 3 w' w.heap.size (fun _=>True) (.slice (some ⟨go20,0,none⟩) x6_3.length co20) x6_4)∧Aside0 (w'.heap[gb283]?=some (.cells #[.int .i64 a0_0,.int .i64 a0_1,.int .i64 a0_2,(.slice A0_3 l0_3.length c0_3),(.slice A0_4 l0_4.length c0_4),(.slice A0_5 l0_5.length c0_5)] 26 (0,0)))∧Aside0 (Below w.heap.size w w'))
              case atStart=>exact ⟨(x6_3),(0),(by first|rfl|(simp;done)|(simp [*];done)),H',⟨Nat.le_refl _⟩,⟨by (try simp only [hl6_3]);(with_reducible repeat (first|apply Kd.R_alloc|apply Kd.R_drewN|apply Kd.R_drew));exact HO_6.out⟩,⟨by (try simp only [hl6_3]);(with_reducible repeat (first|refine z09 ?_ _|refine z0a ?_|refine z08 ?_ _));exact BK283.out⟩,⟨by repeat (first|(with_reducible first|exact HB.out|apply z04|apply z03|apply z05|refine z07 ?_ GE283.out)|exact HB.out)⟩⟩
              case round =>
               clear H';obtain ⟨x6_4,x9_4,rfl,HA,HK4,HO_6,BK283,HB⟩:=hrel;have hl6_4:=(Kd.R_reads' HO_6.out).1;rw [hl6_4] at HO_6
               (try simp only [hl6_4])
               (try simp only [hl6_4] at BK283)
               cases gk with
               | zero=>exact absurd HA.out (by simp [z0d.l2])
               | succ k4 =>
                have H:=HA.out;clear HA;simp only [z0d.l2] at H
                by_cases c24:x9_4 < (l0_5.length:Int)
                ·rw [if_pos c24] at H;have c24b0:decide (x9_4 < (l0_5.length:Int))=true:=decide_eq_true c24;clear c24
                 by_cases c25:0≤x9_4
                 ·rw [if_pos c25] at H;have c25b0:decide (0≤x9_4)=true:=decide_eq_true c25;clear c25
                  by_cases c26:x9_4 < (x6_4.length:Int)
                  ·rw [if_pos c26] at H;have c26b0:decide (x9_4 < (x6_4.length:Int))=true:=decide_eq_true c26;clear c26
                   by_cases c27:(rd x6_4 x9_4)=x8_3
                   ·rw [if_pos c27] at H;have c27b0:((rd x6_4 x9_4) == x8_3)=true:=beq_iff_eq.mpr c27;have c27b1:((rd x6_4 x9_4) != x8_3)=false:=bne_eq_false_iff_eq.mpr c27;clear c27;replace H:=Option.bind_eq_some_iff.mp H;obtain ⟨t290,A280,H⟩:=H;skip;have A28:=Aside0.mk A280;clear A280;have H':=Aside0.mk H;clear H;have p289:0≤(x9_4:Int):=of_decide_eq_true (by assumption);have q289:x9_4 < (x6_4.length:Int):=of_decide_eq_true (by assumption);obtain ⟨ad289,e289,hx289_0⟩:=Kd.at_int (Kd.R_reads' HO_6.out).2.2 x9_4 p289 q289;obtain rfl:(⟨go20,0,none⟩:Addr)=ad289:=(by injection e289)
                    (first|simp only [z36] at hx289_0|simp only [add_at] at hx289_0|simp only [Addr.add,Nat.zero_add] at hx289_0|skip)
                    replace p289:=eq_true p289;replace q289:=eq_true q289;have hcz29_0:wr.cell? ⟨gb283,0,none⟩=some (.int .i64 a0_0):=(z02 BK283.out 0).trans rfl;have hcz29_1:wr.cell? ⟨gb283,1,none⟩=some (.int .i64 a0_1):=(z02 BK283.out 1).trans rfl;have hcz29_2:wr.cell? ⟨gb283,2,none⟩=some (.int .i64 a0_2):=(z02 BK283.out 2).trans rfl;have hcz29_3:wr.cell? ⟨gb283,3,none⟩=some (.slice A0_3 l0_3.length c0_3):=(z02 BK283.out 3).trans rfl;have hcz29_4:wr.cell? ⟨gb283,4,none⟩=some (.slice A0_4 l0_4.length c0_4):=(z02 BK283.out 4).trans rfl;have hcz29_5:wr.cell? ⟨gb283,5,none⟩=some (.slice A0_5 l0_5.length c0_5):=(z02 BK283.out 5).trans rfl;have hfz29_0:=z01 BK283.out 0;have hfz29_1:=z01 BK283.out 1;have hfz29_2:=z01 BK283.out 2;have hfz29_3:=z01 BK283.out 3;have hfz29_4:=z01 BK283.out 4;have hfz29_5:=z01 BK283.out 5
                    go_wp2_with (first|((with_reducible refine z0x (f:=21) rfl ?_);refine z1e (some 53) rfl rfl Tryz.func21 (by kernel_rfl) rfl #[.agg #[.int .i64 a0_0,.int .i64 a0_1,.int .i64 a0_2,.slice A0_3 l0_3.length c0_3,.slice A0_4 l0_4.length c0_4,.slice A0_5 l0_5.length c0_5],.int .i64 x9_4] rfl (by (try simp only [List.map_toArray,List.map_cons,List.map_nil]);first|done|rfl) ?_;(with_reducible refine (z0t.calls k4 a0_0 a0_1 a0_2 _ _ l0_3 _ _ l0_4 _ _ l0_5 x9_4 t290 _ ?side1 ?side2 ?side3 ?side4 ?side5 ?side6 A28.out).mono ?_);(case side1=>repeat (first|exact (Kd.C_below HR0_3.out HB.out)|(with_reducible refine Kd.C_alloc ?_ _)|(with_reducible refine Kd.C_drewN ?_ _)|(with_reducible refine Kd.C_drew ?_)));(case side2=>exact HC0_3.out);(case side3=>repeat (first|exact (Kd.C_below HR0_4.out HB.out)|(with_reducible refine Kd.C_alloc ?_ _)|(with_reducible refine Kd.C_drewN ?_ _)|(with_reducible refine Kd.C_drew ?_)));(case side4=>exact HC0_4.out);(case side5=>repeat (first|exact (Kd.C_below HR0_5.out HB.out)|(with_reducible refine Kd.C_alloc ?_ _)|(with_reducible refine Kd.C_drewN ?_ _)|(with_reducible refine Kd.C_drew ?_)));(case side6=>exact HC0_5.out);rintro e w30 ⟨v291,rfl,ho0,hb⟩;refine ⟨_,rfl,?_⟩;have n0_:=Aside0.mk (Kd.R_elder' (by (with_reducible repeat (first|apply Kd.R_alloc|apply Kd.R_drewN|apply Kd.R_drew));exact HO_6.out) (Kd.R_base ho0) hb);have n1_:=Aside0.mk (Kd.R_lower (Kd.R_new' ho0 (Kd.R_lt (by (with_reducible repeat (first|apply Kd.R_alloc|apply Kd.R_drewN|apply Kd.R_drew));exact HO_6.out))) (z0h (by repeat (first|(with_reducible first|exact HB.out|apply z04|apply z03|apply z05|refine z07 ?_ GE283.out)|exact HB.out))));have n2_:=Aside0.mk (z0z (g:=gb283) (o:=.cells #[.int .i64 a0_0,.int .i64 a0_1,.int .i64 a0_2,.slice A0_3 l0_3.length c0_3,.slice A0_4 l0_4.length c0_4,.slice A0_5 l0_5.length c0_5] 26 (0,0)) (by (with_reducible repeat (first|refine z09 ?_ _|refine z0a ?_|refine z08 ?_ _));exact BK283.out) hb);have n3_:=Aside0.mk (z0o (by repeat (first|(with_reducible first|exact HB.out|apply z04|apply z03|apply z05|refine z07 ?_ GE283.out)|exact HB.out)) hb);clear HO_6;clear BK283;clear HB;have HO_6:=n0_;have HO292:=n1_;have BK283:=n2_;have HB:=n3_;clear n0_ n1_ n2_ n3_;(try clear hb);(try clear hb2);(try clear hk);(try clear hi);(try clear ho0)))
                    go_loopg [11] k4 (fun kq v11 w'=>∃ (x6_5:List Int) (x11_5:Int),v11=.int .i64 x11_5∧Aside0 (z0d.l3 kq (l0_5.length:Int) x6_5 x8_3 x9_4 t290 x11_5 a0_0 a0_1 a0_2 l0_3 l0_4 l0_5=some r)∧Aside0 (kq≤k4)∧Aside0 (Kd.R (Kd.int .i64) 3 w' w.heap.size (fun k_=>some k_≠(v291:Value).ownBlock) (.slice (some ⟨go20,0,none⟩) x6_4.length co20) x6_5)∧Aside0 (Kd.R (Kd.int .i64) 3 w' w.heap.size (fun k_=>some k_≠((.slice (some ⟨go20,0,none⟩) x6_4.length co20):Value).ownBlock) v291 t290)∧Aside0 (w'.heap[gb283]?=some (.cells #[.int .i64 a0_0,.int .i64 a0_1,.int .i64 a0_2,(.slice A0_3 l0_3.length c0_3),(.slice A0_4 l0_4.length c0_4),(.slice A0_5 l0_5.length c0_5)] 26 (0,0)))∧Aside0 (Below w.heap.size w w'))
                    case atStart=>exact ⟨(x6_4),(0),(by first|rfl|(simp;done)|(simp [*];done)),H',⟨Nat.le_refl _⟩,⟨by (try simp only [hl6_3]);(try simp only [hl6_4]);(with_reducible repeat (first|apply Kd.R_alloc|apply Kd.R_drewN|apply Kd.R_drew));exact Kd.R_mono HO_6.out (fun _ hk=>hk.2)⟩,⟨by (try simp only [hl6_3]);(try simp only [hl6_4]);(with_reducible repeat (first|apply Kd.R_alloc|apply Kd.R_drewN|apply Kd.R_drew));exact Kd.R_mono HO292.out (fun _ hk=>hk.2)⟩,⟨by (try simp only [hl6_3]);(try simp only [hl6_4]);(with_reducible repeat (first|refine z09 ?_ _|refine z0a ?_|refine z08 ?_ _));exact BK283.out⟩,⟨by repeat (first|(with_reducible first|exact HB.out|apply z04|apply z03|apply z05|refine z07 ?_ GE283.out)|exact HB.out)⟩⟩
                    case round =>
                     clear H';obtain ⟨x6_5,x11_5,rfl,HA,HK5,HO_6,HO_10,BK283,HB⟩:=hrel;have hl6_5:=(Kd.R_reads' HO_6.out).1;rw [hl6_5] at HO_6
                     (try simp only [hl6_5])
                     (try simp only [hl6_5] at BK283)
                     (try simp only [hl6_5] at HO_10)
                     cases gk with
                     | zero=>exact absurd HA.out (by simp [z0d.l3])
                     | succ k5 =>
                      have H:=HA.out;clear HA;simp only [z0d.l3] at H
                      by_cases c31:x11_5 < (t290.length:Int)
                      ·rw [if_pos c31] at H;have c31b0:decide (x11_5 < (t290.length:Int))=true:=decide_eq_true c31;clear c31
                       by_cases c32:0≤x11_5
                       ·rw [if_pos c32] at H;have c32b0:decide (0≤x11_5)=true:=decide_eq_true c32;clear c32
                        by_cases c33:0≤(rd t290 x11_5)
                        ·rw [if_pos c33] at H;have c33b0:decide (0≤(rd t290 x11_5))=true:=decide_eq_true c33;clear c33
                         by_cases c34:(rd t290 x11_5) < (x6_5.length:Int)
                         ·rw [if_pos c34] at H;have c34b0:decide ((rd t290 x11_5) < (x6_5.length:Int))=true:=decide_eq_true c34;clear c34
                          by_cases c35:(rd x6_5 (rd t290 x11_5)) < 0
                          ·rw [if_pos c35] at H;have c35b0:decide ((rd x6_5 (rd t290 x11_5)) < 0)=true:=decide_eq_true c35;clear c35;obtain ⟨y296,hy296⟩:∃ y_:List Int,y_=(x6_5.set ((rd t290 x11_5):Int).toNat (wrap64 (x8_3+1))):=⟨_,rfl⟩;replace H:(z0d.l3 k5 (l0_5.length:Int) y296 x8_3 x9_4 t290 (wrap64 (x11_5+1)) a0_0 a0_1 a0_2 l0_3 l0_4 l0_5)=some r:=by first|(rw [hy296];with_reducible exact H)|(have H2_:=(Option.bind_some _ _).symm.trans H;rw [hy296];with_reducible exact H2_)|(have H2_:=(Option.bind_some _ _).symm.trans H;with_reducible exact H2_)|with_reducible exact H|(rw [hy296];exact H)|exact H
                           have Ny296:=Aside0.mk hy296;clear hy296;have H':=Aside0.mk H;clear H;obtain ⟨Ao37,co37,eo37⟩:=Kd.R_slice HO_10.out;subst eo37;have p293:0≤(x11_5:Int):=of_decide_eq_true (by assumption);have q293:x11_5 < (t290.length:Int):=of_decide_eq_true (by assumption);obtain ⟨ad293,e293,hx293_0⟩:=Kd.at_int (Kd.R_reads' HO_10.out).2.2 x11_5 p293 q293;cases e293;replace p293:=eq_true p293;replace q293:=eq_true q293;have p294:0≤((rd t290 x11_5):Int):=of_decide_eq_true (by assumption);have q294:(rd t290 x11_5) < (x6_5.length:Int):=of_decide_eq_true (by assumption);obtain ⟨ad294,e294,hx294_0⟩:=Kd.at_int (Kd.R_reads' HO_6.out).2.2 (rd t290 x11_5) p294 q294;obtain rfl:(⟨go20,0,none⟩:Addr)=ad294:=(by injection e294)
                           (first|simp only [z36] at hx294_0|simp only [add_at] at hx294_0|simp only [Addr.add,Nat.zero_add] at hx294_0|skip)
                           replace p294:=eq_true p294;replace q294:=eq_true q294;have p295:0≤(x11_5:Int):=of_decide_eq_true (by assumption);have q295:x11_5 < (t290.length:Int):=of_decide_eq_true (by assumption);obtain ⟨ad295,e295,hx295_0⟩:=Kd.at_int (Kd.R_reads' HO_10.out).2.2 x11_5 p295 q295;obtain rfl:ad293=ad295:=(by injection e295);replace p295:=eq_true p295;replace q295:=eq_true q295;have p36:0≤((rd t290 x11_5):Int):=of_decide_eq_true (by assumption);have q36:((rd t290 x11_5):Int) < ((x6_5.length:Int):Int):=of_decide_eq_true (by assumption);obtain ⟨hx36_0,hf36_0⟩:=Kd.R_celln 0 HO_6.out ((rd t290 x11_5):Int) p36 q36;replace p36:=eq_true p36;replace q36:=eq_true q36;have HP38:=Kd.R_putg HO_6.out ((rd t290 x11_5):Int) (wrap64 (x8_3+1))
                           go_wp2_with (first|((with_reducible refine z39 (t:=3) (p:=75) rfl ?_);refine z34 (t:=3) (p:=75) (v:=?vo_w39) (w1:=(wr.setCell ⟨go20,((rd t290 x11_5):Int).toNat,none⟩ (.int .i64 (wrap64 (x8_3+1))))) ?hg ?ho ?hn ?hr ?_;(case ho=>rfl);(case hg=>rfl);(case hn=>rfl);(case hr=>first|(go_simp;done)|(go_simp;rfl));intro w39 hw;have hg:wr.grownBy w39 (some go20):=(by rw [hw];exact HP38.2);have hp_:Kd.R (Kd.int .i64) 3 w39 w.heap.size (fun k_=>some k_≠(.slice (some ad293) t290.length co37:Value).ownBlock) (.slice (some ⟨go20,0,none⟩) x6_5.length co20) y296:=(by rw [hw,Ny296.out];exact HP38.1);clear HP38;have n0_:=Aside0.mk (hp_);have n1_:=Aside0.mk (Kd.R_after (v:=(.slice (some ⟨go20,0,none⟩) x6_5.length co20)) (v1:=(.slice (some ⟨go20,0,none⟩) x6_5.length co20)) (ok:=(fun _=>True)) (by (with_reducible repeat (first|apply Kd.R_alloc|apply Kd.R_drewN|apply Kd.R_drew));exact Kd.R_mono HO_10.out (fun _ hk=>⟨trivial,hk⟩)) hg (.inl rfl));have n2_:=Aside0.mk (z1v (g:=gb283) (o:=.cells #[.int .i64 a0_0,.int .i64 a0_1,.int .i64 a0_2,.slice A0_3 l0_3.length c0_3,.slice A0_4 l0_4.length c0_4,.slice A0_5 l0_5.length c0_5] 26 (0,0)) (by (with_reducible repeat (first|refine z09 ?_ _|refine z0a ?_|refine z08 ?_ _));exact BK283.out) hg (Kd.R_ne HO_6.out BK283.out (by decide)));have n3_:=Aside0.mk ((by rw [hw];exact z07 (HB.out) GB20.out:Below w.heap.size w w39));clear HO_6;clear HO_10;clear BK283;clear HB;have HO_6:=n0_;have HO_10:=n1_;have BK283:=n2_;have HB:=n3_;clear n0_ n1_ n2_ n3_;clear hg hw hp_))
                           (try simp only [← hl6_5])
                           go_roundg k5
                           case measure=>have:=HJ2.out;have:=HK2.out;have:=HK3.out;have:=HK4.out;have:=HK5.out;omega
                           case rel=>exact ⟨(y296),(wrap64 (x11_5+1)),(by first|rfl|(simp;done)|(simp [*];done)),H',⟨by have:=HJ2.out;have:=HK2.out;have:=HK3.out;have:=HK4.out;have:=HK5.out;omega⟩,⟨by (try simp only [hl6_3]);(try simp only [hl6_4]);(try simp only [hl6_5]);(with_reducible repeat (first|apply Kd.R_alloc|apply Kd.R_drewN|apply Kd.R_drew));exact HO_6.out⟩,⟨by (try simp only [hl6_3]);(try simp only [hl6_4]);(try simp only [hl6_5]);(with_reducible repeat (first|apply Kd.R_alloc|apply Kd.R_drewN|apply Kd.R_drew));exact Kd.R_mono HO_10.out (fun _ hk=>hk.2)⟩,⟨by (try simp only [hl6_3]);(try simp only [hl6_4]);(try simp only [hl6_5]);(with_reducible repeat (first|refine z09 ?_ _|refine z0a ?_|refine z08 ?_ _));exact BK283.out⟩,⟨by repeat (first|(with_reducible first|exact HB.out|apply z04|apply z03|apply z05|refine z07 ?_ GE283.out)|exact HB.out)⟩⟩
                          ·rw [if_neg c35] at H;have c35b0:decide ((rd x6_5 (rd t290 x11_5)) < 0)=false:=decide_eq_false c35;clear c35;have H':=Aside0.mk H;clear H;obtain ⟨Ao40,co40,eo40⟩:=Kd.R_slice HO_10.out;subst eo40;have p293:0≤(x11_5:Int):=of_decide_eq_true (by assumption);have q293:x11_5 < (t290.length:Int):=of_decide_eq_true (by assumption);obtain ⟨ad293,e293,hx293_0⟩:=Kd.at_int (Kd.R_reads' HO_10.out).2.2 x11_5 p293 q293;cases e293;replace p293:=eq_true p293;replace q293:=eq_true q293;have p294:0≤((rd t290 x11_5):Int):=of_decide_eq_true (by assumption);have q294:(rd t290 x11_5) < (x6_5.length:Int):=of_decide_eq_true (by assumption);obtain ⟨ad294,e294,hx294_0⟩:=Kd.at_int (Kd.R_reads' HO_6.out).2.2 (rd t290 x11_5) p294 q294;obtain rfl:(⟨go20,0,none⟩:Addr)=ad294:=(by injection e294)
                           (first|simp only [z36] at hx294_0|simp only [add_at] at hx294_0|simp only [Addr.add,Nat.zero_add] at hx294_0|skip)
                           replace p294:=eq_true p294;replace q294:=eq_true q294;go_wp2
                           (try simp only [← hl6_5])
                           go_roundg k5
                           case measure=>have:=HJ2.out;have:=HK2.out;have:=HK3.out;have:=HK4.out;have:=HK5.out;omega
                           case rel=>exact ⟨(x6_5),(wrap64 (x11_5+1)),(by first|rfl|(simp;done)|(simp [*];done)),H',⟨by have:=HJ2.out;have:=HK2.out;have:=HK3.out;have:=HK4.out;have:=HK5.out;omega⟩,⟨by (try simp only [hl6_3]);(try simp only [hl6_4]);(try simp only [hl6_5]);(with_reducible repeat (first|apply Kd.R_alloc|apply Kd.R_drewN|apply Kd.R_drew));exact HO_6.out⟩,⟨by (try simp only [hl6_3]);(try simp only [hl6_4]);(try simp only [hl6_5]);(with_reducible repeat (first|apply Kd.R_alloc|apply Kd.R_drewN|apply Kd.R_drew));exact HO_10.out⟩,⟨by (try simp only [hl6_3]);(try simp only [hl6_4]);(try simp only [hl6_5]);(with_reducible repeat (first|refine z09 ?_ _|refine z0a ?_|refine z08 ?_ _));exact BK283.out⟩,⟨by repeat (first|(with_reducible first|exact HB.out|apply z04|apply z03|apply z05|refine z07 ?_ GE283.out)|exact HB.out)⟩⟩
                         ·rw [if_neg c34] at H;exact absurd H (by simp)
                        ·rw [if_neg c33] at H;exact absurd H (by simp)
                       ·rw [if_neg c32] at H;exact absurd H (by simp)
                      ·rw [if_neg c31] at H;have c31b0:decide (x11_5 < (t290.length:Int))=false:=decide_eq_false c31;clear c31;have H':=Aside0.mk H;clear H;obtain ⟨Ao41,co41,eo41⟩:=Kd.R_slice HO_10.out;subst eo41;go_wp2
                       (try simp only [← hl6_4,← hl6_5])
                       go_roundg k5
                       case measure=>have:=HJ2.out;have:=HK2.out;have:=HK3.out;have:=HK4.out;have:=HK5.out;omega
                       case rel=>exact ⟨(x6_5),(wrap64 (x9_4+1)),(by first|rfl|(simp;done)|(simp [*];done)),H',⟨by have:=HJ2.out;have:=HK2.out;have:=HK3.out;have:=HK4.out;have:=HK5.out;omega⟩,⟨by (try simp only [hl6_3]);(try simp only [hl6_4]);(try simp only [hl6_5]);(with_reducible repeat (first|apply Kd.R_alloc|apply Kd.R_drewN|apply Kd.R_drew));exact Kd.R_mono HO_6.out (fun _ hk=>trivial)⟩,⟨by (try simp only [hl6_3]);(try simp only [hl6_4]);(try simp only [hl6_5]);(with_reducible repeat (first|refine z09 ?_ _|refine z0a ?_|refine z08 ?_ _));exact BK283.out⟩,⟨by repeat (first|(with_reducible first|exact HB.out|apply z04|apply z03|apply z05|refine z07 ?_ GE283.out)|exact HB.out)⟩⟩
                   ·rw [if_neg c27] at H;have c27b0:((rd x6_4 x9_4) == x8_3)=false:=beq_eq_false_iff_ne.mpr c27;have c27b1:((rd x6_4 x9_4) != x8_3)=true:=bne_iff_ne.mpr c27;have H':=Aside0.mk H;clear H;have p289:0≤(x9_4:Int):=of_decide_eq_true (by assumption);have q289:x9_4 < (x6_4.length:Int):=of_decide_eq_true (by assumption);obtain ⟨ad289,e289,hx289_0⟩:=Kd.at_int (Kd.R_reads' HO_6.out).2.2 x9_4 p289 q289;obtain rfl:(⟨go20,0,none⟩:Addr)=ad289:=(by injection e289)
                    (first|simp only [z36] at hx289_0|simp only [add_at] at hx289_0|simp only [Addr.add,Nat.zero_add] at hx289_0|skip)
                    replace p289:=eq_true p289;replace q289:=eq_true q289;go_wp2
                    (try simp only [← hl6_4])
                    go_roundg k4
                    case measure=>have:=HJ2.out;have:=HK2.out;have:=HK3.out;have:=HK4.out;omega
                    case rel=>exact ⟨(x6_4),(wrap64 (x9_4+1)),(by first|rfl|(simp;done)|(simp [*];done)),H',⟨by have:=HJ2.out;have:=HK2.out;have:=HK3.out;have:=HK4.out;omega⟩,⟨by (try simp only [hl6_3]);(try simp only [hl6_4]);(with_reducible repeat (first|apply Kd.R_alloc|apply Kd.R_drewN|apply Kd.R_drew));exact HO_6.out⟩,⟨by (try simp only [hl6_3]);(try simp only [hl6_4]);(with_reducible repeat (first|refine z09 ?_ _|refine z0a ?_|refine z08 ?_ _));exact BK283.out⟩,⟨by repeat (first|(with_reducible first|exact HB.out|apply z04|apply z03|apply z05|refine z07 ?_ GE283.out)|exact HB.out)⟩⟩
                  ·rw [if_neg c26] at H;exact absurd H (by simp)
                 ·rw [if_neg c25] at H;exact absurd H (by simp)
                ·rw [if_neg c24] at H;have c24b0:decide (x9_4 < (l0_5.length:Int))=false:=decide_eq_false c24;clear c24;have H':=Aside0.mk H;clear H;go_wp2
                 (try simp only [← hl6_3,← hl6_4])
                 go_roundg k4
                 case measure=>have:=HJ2.out;have:=HK2.out;have:=HK3.out;have:=HK4.out;omega
                 case rel=>exact ⟨(x6_4),(wrap64 (x8_3+1)),(by first|rfl|(simp;done)|(simp [*];done)),H',⟨by have:=HJ2.out;have:=HK2.out;have:=HK3.out;have:=HK4.out;omega⟩,⟨by (try simp only [hl6_3]);(try simp only [hl6_4]);(with_reducible repeat (first|apply Kd.R_alloc|apply Kd.R_drewN|apply Kd.R_drew));exact HO_6.out⟩,⟨by (try simp only [hl6_3]);(try simp only [hl6_4]);(with_reducible repeat (first|refine z09 ?_ _|refine z0a ?_|refine z08 ?_ _));exact BK283.out⟩,⟨by repeat (first|(with_reducible first|exact HB.out|apply z04|apply z03|apply z05|refine z07 ?_ GE283.out)|exact HB.out)⟩⟩
             ·rw [if_neg c23] at H;have c23b0:decide (x8_3 < (l0_5.length:Int))=false:=decide_eq_false c23;clear c23;obtain rfl:=Option.some.inj H;go_wp2;go_ret
              exact ⟨_,by first|rfl|(simp [z0g,z0f] <;> rfl)|(simp [*,z0g,z0f] <;> rfl),by (with_reducible repeat (first|apply Kd.R_alloc|apply Kd.R_drewN|apply Kd.R_drew));exact HO_6.out,by repeat (first|(with_reducible first|exact HB.out|apply z04|apply z03|apply z05|refine z07 ?_ GE283.out)|exact HB.out)⟩
          ·rw [if_neg c19] at H;exact absurd H (by simp)
         ·rw [if_neg c18] at H;exact absurd H (by simp)
     ·rw [if_neg c9] at H;exact absurd H (by simp)
    ·rw [if_neg c8] at H;exact absurd H (by simp)
attribute [local go_sem] z29 z2b z2g z2h z1y z1x z2a z27
mutual
def z0w.j0:Nat→Int→Bool→Int→Int→Int→List Int→List Int→List (S79)→Option (List Int)
 | 0,_,_,_,_,_,_,_,_=>none
 | k+1,x1,x15,xbf,xbg,xbh,xbi,xbj,xbk=>if x15=true then (some ([]:List Int)) else (z0w.l0 k x1 ([]:List Int) 0 xbf xbg xbh xbi xbj xbk)
def z0w.l0:Nat→Int→List Int→Int→Int→Int→Int→List Int→List Int→List (S79)→Option (List Int)
 | 0,_,_,_,_,_,_,_,_,_=>none
 | k+1,x1,x5,x6,xbf,xbg,xbh,xbi,xbj,xbk=>if x6 < (xbk.length:Int) then ((z0d.f k xbf xbg xbh xbi xbj xbk x6).bind fun t298=>(if 0≤x1 then (if x1 < (t298.length:Int) then (if x5.length < 17592186044416 then (z0w.l0 k x1 (x5 ++ [rd t298 x1]) (wrap64 (x6+1)) xbf xbg xbh xbi xbj xbk) else (none)) else (none)) else (none))) else (some x5)
end
def z0w.f (k:Nat) (a0_0:Int) (a0_1:Int) (a0_2:Int) (l0_3:List Int) (l0_4:List Int) (l0_5:List (S79)) (a1:Int):Option (List Int):=if a1 < 0 then (z0w.j0 k a1 true a0_0 a0_1 a0_2 l0_3 l0_4 l0_5) else (z0w.j0 k a1 (decide (a1 ≥ (l0_5.length:Int))) a0_0 a0_1 a0_2 l0_3 l0_4 l0_5)
theorem z0w.mono_l:∀ k,(∀ y0 y1 y2 y3 y4 y5 y6 y7,LeO (z0w.j0 k y0 y1 y2 y3 y4 y5 y6 y7) (z0w.j0 (k+1) y0 y1 y2 y3 y4 y5 y6 y7))∧(∀ y0 y1 y2 y3 y4 y5 y6 y7 y8,LeO (z0w.l0 k y0 y1 y2 y3 y4 y5 y6 y7 y8) (z0w.l0 (k+1) y0 y1 y2 y3 y4 y5 y6 y7 y8))
 | 0=>⟨fun _ _ _ _ _ _ _ _ r h=>by simp [z0w.j0] at h,fun _ _ _ _ _ _ _ _ _ r h=>by simp [z0w.l0] at h⟩
 | k+1=>by
  obtain ⟨ih0,ih1⟩:=z0w.mono_l k;refine ⟨?_,?_⟩
  ·intro y0 y1 y2 y3 y4 y5 y6 y7;unfold z0w.j0
   repeat' first|exact ih0 _ _ _ _ _ _ _ _|exact ih1 _ _ _ _ _ _ _ _ _|exact z0d.mono _ _ _ _ _ _ _ _|exact LeO.none _|refine LeO.ite ?_ ?_|refine LeO.bind ?_ (fun _=>?_)|exact LeO.refl _
  ·intro y0 y1 y2 y3 y4 y5 y6 y7 y8;unfold z0w.l0
   repeat' first|exact ih0 _ _ _ _ _ _ _ _|exact ih1 _ _ _ _ _ _ _ _ _|exact z0d.mono _ _ _ _ _ _ _ _|exact LeO.none _|refine LeO.ite ?_ ?_|refine LeO.bind ?_ (fun _=>?_)|exact LeO.refl _
theorem z0w.mono:∀ a0 a1 a2 a3 a4 a5 a6 k,LeO (z0w.f k a0 a1 a2 a3 a4 a5 a6) (z0w.f (k+1) a0 a1 a2 a3 a4 a5 a6):=by
 intro a0 a1 a2 a3 a4 a5 a6 k;obtain ⟨ih0,ih1⟩:=z0w.mono_l k;unfold z0w.f
 repeat' first|exact ih0 _ _ _ _ _ _ _ _|exact ih1 _ _ _ _ _ _ _ _ _|exact z0d.mono _ _ _ _ _ _ _ _|exact LeO.none _|refine LeO.ite ?_ ?_|refine LeO.bind ?_ (fun _=>?_)|exact LeO.refl _
theorem z0w.calls (k:Nat) (a0_0:Int) (a0_1:Int) (a0_2:Int) (A0_3:Option Addr) (c0_3:Nat) (l0_3:List Int) (A0_4:Option Addr) (c0_4:Nat) (l0_4:List Int) (A0_5:Option Addr) (c0_5:Nat) (l0_5:List (S79)) (a1:Int) (r:List Int) (w:World) (hr0_3:Kd.C (Kd.int .u8) w A0_3 l0_3.length l0_3) (hc0_3:l0_3.length≤c0_3) (hr0_4:Kd.C (Kd.int .i64) w A0_4 l0_4.length l0_4) (hc0_4:l0_4.length≤c0_4) (hr0_5:Kd.C k79 w A0_5 l0_5.length l0_5) (hc0_5:l0_5.length≤c0_5) (h:z0w.f k a0_0 a0_1 a0_2 l0_3 l0_4 l0_5 a1=some r) :
  Calls Tryz.prog 34 #[.agg #[.int .i64 a0_0,.int .i64 a0_1,.int .i64 a0_2,.slice A0_3 l0_3.length c0_3,.slice A0_4 l0_4.length c0_4,.slice A0_5 l0_5.length c0_5],.int .i64 a1] w fun e w'=>∃ v0_:Value,e=.returned (v0_)∧Kd.R (Kd.int .i64) 3 w' w.heap.size (fun _=>True) v0_ r∧Below w.heap.size w w':=by
 have hu26:=Tryz.underlying26;have HR0_3:=Aside0.mk hr0_3;have HC0_3:=Aside0.mk hc0_3;clear hr0_3 hc0_3;have HR0_4:=Aside0.mk hr0_4;have HC0_4:=Aside0.mk hc0_4;clear hr0_4 hc0_4;have HR0_5:=Aside0.mk hr0_5;have HC0_5:=Aside0.mk hc0_5;clear hr0_5 hc0_5;have HB:=Aside0.mk (Below.refl w.heap.size w);have H:(if a1 < 0 then (z0w.j0 k a1 true a0_0 a0_1 a0_2 l0_3 l0_4 l0_5) else (z0w.j0 k a1 (decide (a1 ≥ (l0_5.length:Int))) a0_0 a0_1 a0_2 l0_3 l0_4 l0_5))=some r:=h;clear h;have HC3:=Aside0.mk H;clear H
 go_enter Tryz.func34,Tryz.ntmps34
 go_upto_region 1 with (first|((with_reducible refine z12 (N:=2) rfl ?_);(try (refine z1p (by rfl) ?_;dsimp only));refine z17 ?hg (N:=2) ?hd (cs:=#[.int .i64 a0_0,.int .i64 a0_1,.int .i64 a0_2,.slice A0_3 l0_3.length c0_3,.slice A0_4 l0_4.length c0_4,.slice A0_5 l0_5.length c0_5]) (t:=26) ?hr ?_;(case hd=>rfl);(case hg=>rfl);(case hr=>first|(go_simp;done)|(go_simp;rfl));intro gb297 hg w4 hbox hb;have n0_:=Aside0.mk (z0o (by repeat (first|exact HB.out|apply z04|apply z03|apply z05)) hb);have n1_:=Aside0.mk (hbox);have n2_:=Aside0.mk ((by rw [hg];exact (z0h (by repeat (first|exact HB.out|apply z04|apply z03|apply z05))):w.heap.size≤gb297));have n3_:=Aside0.mk ((by rw [hg];exact (z0h (by repeat (first|exact HB.out|apply z04|apply z03|apply z05))):w.heap.size≤gb297));clear HB;have HB:=n0_;have BK297:=n1_;have GW297:=n2_;have GE297:=n3_;clear n0_ n1_ n2_ n3_;clear hb hbox hg))
 (try simp only [Act.put,zq1,zq2,zq3])
 go_cut [15] (fun v15 wc=>∃ (kq:Nat) (x15_2:Bool),v15=.bool x15_2∧Aside0 (z0w.j0 kq a1 x15_2 a0_0 a0_1 a0_2 l0_3 l0_4 l0_5=some r)∧Aside0 (kq≤k)∧Aside0 (wc.heap[gb297]?=some (.cells #[.int .i64 a0_0,.int .i64 a0_1,.int .i64 a0_2,(.slice A0_3 l0_3.length c0_3),(.slice A0_4 l0_4.length c0_4),(.slice A0_5 l0_5.length c0_5)] 26 (0,0)))∧Aside0 (Below w.heap.size w wc))
 case first =>
  have H:=HC3.out;clear HC3
  by_cases c5:a1 < 0
  ·rw [if_pos c5] at H;have c5b0:decide (a1 < 0)=true:=decide_eq_true c5;clear c5
   (first|rw [c5b0]|(simp only [i64_w,i32_w];rw [c5b0])|skip)
   have H':=Aside0.mk H;clear H;go_wp2
   go_meet
   case rel=>exact ⟨_,(true),(by first|rfl|(simp;done)|(simp [*];done)),H',⟨by first|omega|exact Nat.le_refl _⟩,⟨by (with_reducible repeat (first|refine z09 ?_ _|refine z0a ?_|refine z08 ?_ _));exact BK297.out⟩,⟨by repeat (first|(with_reducible first|exact HB.out|apply z04|apply z03|apply z05|refine z07 ?_ GE297.out)|exact HB.out)⟩⟩
  ·rw [if_neg c5] at H;have c5b0:decide (a1 < 0)=false:=decide_eq_false c5;clear c5
   (first|rw [c5b0]|(simp only [i64_w,i32_w];rw [c5b0])|skip)
   have H':=Aside0.mk H;clear H;have hcz6_0:w4.cell? ⟨gb297,0,none⟩=some (.int .i64 a0_0):=(z02 BK297.out 0).trans rfl;have hcz6_1:w4.cell? ⟨gb297,1,none⟩=some (.int .i64 a0_1):=(z02 BK297.out 1).trans rfl;have hcz6_2:w4.cell? ⟨gb297,2,none⟩=some (.int .i64 a0_2):=(z02 BK297.out 2).trans rfl;have hcz6_3:w4.cell? ⟨gb297,3,none⟩=some (.slice A0_3 l0_3.length c0_3):=(z02 BK297.out 3).trans rfl;have hcz6_4:w4.cell? ⟨gb297,4,none⟩=some (.slice A0_4 l0_4.length c0_4):=(z02 BK297.out 4).trans rfl;have hcz6_5:w4.cell? ⟨gb297,5,none⟩=some (.slice A0_5 l0_5.length c0_5):=(z02 BK297.out 5).trans rfl;have hfz6_0:=z01 BK297.out 0;have hfz6_1:=z01 BK297.out 1;have hfz6_2:=z01 BK297.out 2;have hfz6_3:=z01 BK297.out 3;have hfz6_4:=z01 BK297.out 4;have hfz6_5:=z01 BK297.out 5;go_wp2
   go_meet
   case rel=>exact ⟨_,(decide (a1 ≥ (l0_5.length:Int))),(by first|rfl|(simp;done)|(simp [*];done)),H',⟨by first|omega|exact Nat.le_refl _⟩,⟨by (with_reducible repeat (first|refine z09 ?_ _|refine z0a ?_|refine z08 ?_ _));exact BK297.out⟩,⟨by repeat (first|(with_reducible first|exact HB.out|apply z04|apply z03|apply z05|refine z07 ?_ GE297.out)|exact HB.out)⟩⟩
 case rest =>
  clear HC3;obtain ⟨kq,x15_2,rfl,HA,HJ2,BK297,HB⟩:=hcut;cases kq with
  | zero=>exact absurd HA.out (by simp [z0w.j0])
  | succ kj2 =>
   have H:=HA.out;clear HA;simp only [z0w.j0] at H
   by_cases c7:x15_2=true
   ·subst c7;have H1:(some ([]:List Int))=some r:=(by rw [if_pos rfl] at H;exact H);clear H;have H:=H1;clear H1;obtain rfl:=Option.some.inj H;go_wp2;go_ret
    exact ⟨_,by first|rfl|(simp [z0g,z0f] <;> rfl)|(simp [*,z0g,z0f] <;> rfl),by first|exact Kd.R_nil _ _ _ _ _|exact Kd.N_nil _ _ _ _ _|exact Kd.V_nil _ _ _ _ _|exact Kd.Q_nil _ _ _ _ _|exact Kd.S_nil _ _ _ _ _,by repeat (first|(with_reducible first|exact HB.out|apply z04|apply z03|apply z05|refine z07 ?_ GE297.out)|exact HB.out)⟩
   ·replace c7:=Bool.eq_false_iff.mpr c7;subst c7;have H1:(z0w.l0 kj2 a1 ([]:List Int) 0 a0_0 a0_1 a0_2 l0_3 l0_4 l0_5)=some r:=(by rw [if_neg (show ¬ (false=true) by decide)] at H;exact H);clear H;have H:=H1;clear H1;have H':=Aside0.mk H;clear H;go_wp2
    go_loopg [5,6] kj2 (fun kq v5 v6 w'=>∃ (x5_2:List Int) (x6_2:Int),v6=.int .i64 x6_2∧Aside0 (z0w.l0 kq a1 x5_2 x6_2 a0_0 a0_1 a0_2 l0_3 l0_4 l0_5=some r)∧Aside0 (kq≤kj2)∧Aside0 (Kd.R (Kd.int .i64) 3 w' w.heap.size (fun _=>True) v5 x5_2)∧Aside0 (w'.heap[gb297]?=some (.cells #[.int .i64 a0_0,.int .i64 a0_1,.int .i64 a0_2,(.slice A0_3 l0_3.length c0_3),(.slice A0_4 l0_4.length c0_4),(.slice A0_5 l0_5.length c0_5)] 26 (0,0)))∧Aside0 (Below w.heap.size w w'))
    case atStart=>exact ⟨(([]:List Int)),(0),(by first|rfl|(simp;done)|(simp [*];done)),H',⟨Nat.le_refl _⟩,⟨by first|exact Kd.R_nil _ _ _ _ _|exact Kd.N_nil _ _ _ _ _|exact Kd.V_nil _ _ _ _ _|exact Kd.Q_nil _ _ _ _ _|exact Kd.S_nil _ _ _ _ _⟩,⟨by (with_reducible repeat (first|refine z09 ?_ _|refine z0a ?_|refine z08 ?_ _));exact BK297.out⟩,⟨by repeat (first|(with_reducible first|exact HB.out|apply z04|apply z03|apply z05|refine z07 ?_ GE297.out)|exact HB.out)⟩⟩
    case round =>
     clear H';obtain ⟨x5_2,x6_2,rfl,HA,HK2,HO_5,BK297,HB⟩:=hrel;cases gk with
     | zero=>exact absurd HA.out (by simp [z0w.l0])
     | succ k2 =>
      have H:=HA.out;clear HA;simp only [z0w.l0] at H
      by_cases c8:x6_2 < (l0_5.length:Int)
      ·rw [if_pos c8] at H;have c8b0:decide (x6_2 < (l0_5.length:Int))=true:=decide_eq_true c8;clear c8;replace H:=Option.bind_eq_some_iff.mp H;obtain ⟨t298,A90,H⟩:=H;skip;have A9:=Aside0.mk A90;clear A90
       by_cases c10:0≤a1
       ·rw [if_pos c10] at H;have c10b0:decide (0≤a1)=true:=decide_eq_true c10;clear c10
        by_cases c11:a1 < (t298.length:Int)
        ·rw [if_pos c11] at H;have c11b0:decide (a1 < (t298.length:Int))=true:=decide_eq_true c11;clear c11
         by_cases c12:x5_2.length < 17592186044416
         ·rw [if_pos c12] at H;have LMc12:=Aside0.mk c12;clear c12;obtain ⟨y302,hy302⟩:∃ y_:List Int,y_=(x5_2 ++ [rd t298 a1]):=⟨_,rfl⟩;replace H:(z0w.l0 k2 a1 y302 (wrap64 (x6_2+1)) a0_0 a0_1 a0_2 l0_3 l0_4 l0_5)=some r:=by first|(rw [hy302];with_reducible exact H)|(have H2_:=(Option.bind_some _ _).symm.trans H;rw [hy302];with_reducible exact H2_)|(have H2_:=(Option.bind_some _ _).symm.trans H;with_reducible exact H2_)|with_reducible exact H|(rw [hy302];exact H)|exact H
          have Ny302:=Aside0.mk hy302;clear hy302;have H':=Aside0.mk H;clear H;have hcz13_0:wr.cell? ⟨gb297,0,none⟩=some (.int .i64 a0_0):=(z02 BK297.out 0).trans rfl;have hcz13_1:wr.cell? ⟨gb297,1,none⟩=some (.int .i64 a0_1):=(z02 BK297.out 1).trans rfl;have hcz13_2:wr.cell? ⟨gb297,2,none⟩=some (.int .i64 a0_2):=(z02 BK297.out 2).trans rfl;have hcz13_3:wr.cell? ⟨gb297,3,none⟩=some (.slice A0_3 l0_3.length c0_3):=(z02 BK297.out 3).trans rfl;have hcz13_4:wr.cell? ⟨gb297,4,none⟩=some (.slice A0_4 l0_4.length c0_4):=(z02 BK297.out 4).trans rfl;have hcz13_5:wr.cell? ⟨gb297,5,none⟩=some (.slice A0_5 l0_5.length c0_5):=(z02 BK297.out 5).trans rfl;have hfz13_0:=z01 BK297.out 0;have hfz13_1:=z01 BK297.out 1;have hfz13_2:=z01 BK297.out 2;have hfz13_3:=z01 BK297.out 3;have hfz13_4:=z01 BK297.out 4;have hfz13_5:=z01 BK297.out 5
          go_wp2_with (first|((with_reducible refine z0x (f:=32) rfl ?_);refine z1e (some 26) rfl rfl Tryz.func32 (by kernel_rfl) rfl #[.agg #[.int .i64 a0_0,.int .i64 a0_1,.int .i64 a0_2,.slice A0_3 l0_3.length c0_3,.slice A0_4 l0_4.length c0_4,.slice A0_5 l0_5.length c0_5],.int .i64 x6_2] rfl (by (try simp only [List.map_toArray,List.map_cons,List.map_nil]);first|done|rfl) ?_;(with_reducible refine (z0d.calls k2 a0_0 a0_1 a0_2 _ _ l0_3 _ _ l0_4 _ _ l0_5 x6_2 t298 _ ?side1 ?side2 ?side3 ?side4 ?side5 ?side6 A9.out).mono ?_);(case side1=>repeat (first|exact (Kd.C_below HR0_3.out HB.out)|(with_reducible refine Kd.C_alloc ?_ _)|(with_reducible refine Kd.C_drewN ?_ _)|(with_reducible refine Kd.C_drew ?_)));(case side2=>exact HC0_3.out);(case side3=>repeat (first|exact (Kd.C_below HR0_4.out HB.out)|(with_reducible refine Kd.C_alloc ?_ _)|(with_reducible refine Kd.C_drewN ?_ _)|(with_reducible refine Kd.C_drew ?_)));(case side4=>exact HC0_4.out);(case side5=>repeat (first|exact (Kd.C_below HR0_5.out HB.out)|(with_reducible refine Kd.C_alloc ?_ _)|(with_reducible refine Kd.C_drewN ?_ _)|(with_reducible refine Kd.C_drew ?_)));(case side6=>exact HC0_5.out);rintro e w14 ⟨v299,rfl,ho0,hb⟩;refine ⟨_,rfl,?_⟩;have n0_:=Aside0.mk (Kd.R_elder' (by (with_reducible repeat (first|apply Kd.R_alloc|apply Kd.R_drewN|apply Kd.R_drew));exact HO_5.out) (Kd.R_base ho0) hb);have n1_:=Aside0.mk (Kd.R_lower (Kd.R_new' ho0 (Kd.R_lt (by (with_reducible repeat (first|apply Kd.R_alloc|apply Kd.R_drewN|apply Kd.R_drew));exact HO_5.out))) (z0h (by repeat (first|(with_reducible first|exact HB.out|apply z04|apply z03|apply z05|refine z07 ?_ GE297.out)|exact HB.out))));have n2_:=Aside0.mk (z0z (g:=gb297) (o:=.cells #[.int .i64 a0_0,.int .i64 a0_1,.int .i64 a0_2,.slice A0_3 l0_3.length c0_3,.slice A0_4 l0_4.length c0_4,.slice A0_5 l0_5.length c0_5] 26 (0,0)) (by (with_reducible repeat (first|refine z09 ?_ _|refine z0a ?_|refine z08 ?_ _));exact BK297.out) hb);have n3_:=Aside0.mk (z0o (by repeat (first|(with_reducible first|exact HB.out|apply z04|apply z03|apply z05|refine z07 ?_ GE297.out)|exact HB.out)) hb);clear HO_5;clear BK297;clear HB;have HO_5:=n0_;have HO300:=n1_;have BK297:=n2_;have HB:=n3_;clear n0_ n1_ n2_ n3_;(try clear hb);(try clear hb2);(try clear hk);(try clear hi);(try clear ho0);obtain ⟨Ao15,co15,eo15⟩:=Kd.R_slice HO300.out;subst eo15;have p301:0≤(a1:Int):=of_decide_eq_true (by assumption);have q301:a1 < (t298.length:Int):=of_decide_eq_true (by assumption);obtain ⟨ad301,e301,hx301_0⟩:=Kd.at_int (Kd.R_reads' HO300.out).2.2 a1 p301 q301;cases e301;replace p301:=eq_true p301;replace q301:=eq_true q301)|((with_reducible refine z2d (b:=.append) (xs:=#[.tmp 23,.tmp 30]) rfl ?_);(try (refine z1p (by rfl) ?_;dsimp only));at_builtin;refine Kd.R_append (Kd.int .i64) (w0:=w) w.heap.size rfl (.tmp 23) (.tmp 30) 23 3 (.int .i64 0) 8 rfl Tryz.underlying23 info3 rfl (by decide) (by omega) u5 x5_2 (rd t298 a1) [.int .i64 (rd t298 a1)] (fun k_=>some k_≠(.slice (some ad301) t298.length co15:Value).ownBlock) (fun _=>False) rfl rfl ?aP (fun _ hk=>hk.elim) ?aF ?aO ?aB ?aS ?aL ?_;(case aP=>exact rfl);(case aB=>exact (by repeat (first|(with_reducible first|exact HB.out|apply z04|apply z03|apply z05|refine z07 ?_ GE297.out)|exact HB.out)));(case aF=>exact (fun k_ hk=>Kd.fresh' (Kd.R_lt (by (with_reducible repeat (first|apply Kd.R_alloc|apply Kd.R_drewN|apply Kd.R_drew));exact HO300.out)) k_ hk));(case aO=>exact (by (with_reducible repeat (first|apply Kd.R_alloc|apply Kd.R_drewN|apply Kd.R_drew));exact Kd.R_mono HO_5.out (fun _ hk=>hk.2)));(case aS=>exact (z0h (by repeat (first|(with_reducible first|exact HB.out|apply z04|apply z03|apply z05|refine z07 ?_ GE297.out)|exact HB.out))));(case aL=>have:=LMc12.out;omega);intro v303 w16 ho hb hg hat;rw [← Ny302.out] at ho;have n0_:=Aside0.mk (z1v (g:=gb297) (o:=.cells #[.int .i64 a0_0,.int .i64 a0_1,.int .i64 a0_2,.slice A0_3 l0_3.length c0_3,.slice A0_4 l0_4.length c0_4,.slice A0_5 l0_5.length c0_5] 26 (0,0)) (by (with_reducible repeat (first|refine z09 ?_ _|refine z0a ?_|refine z08 ?_ _));exact BK297.out) hg (Kd.R_ne HO_5.out BK297.out (by decide)));have n1_:=Aside0.mk (Kd.R_after (ok:=(fun _=>True)) (by (with_reducible repeat (first|apply Kd.R_alloc|apply Kd.R_drewN|apply Kd.R_drew));exact HO300.out) hg hat);have n2_:=Aside0.mk (hb);have n3_:=Aside0.mk (ho);clear BK297;clear HO300;clear HB;clear HO_5;have BK297:=n0_;have HO300:=n1_;have HB:=n2_;have HO304:=n3_;clear n0_ n1_ n2_ n3_;clear ho hb hg hat))
          go_roundg k2
          case measure=>have:=HJ2.out;have:=HK2.out;omega
          case rel=>exact ⟨(y302),(wrap64 (x6_2+1)),(by first|rfl|(simp;done)|(simp [*];done)),H',⟨by have:=HJ2.out;have:=HK2.out;omega⟩,⟨by (with_reducible repeat (first|apply Kd.R_alloc|apply Kd.R_drewN|apply Kd.R_drew));exact Kd.R_mono HO304.out (fun _ hk=>trivial)⟩,⟨by (with_reducible repeat (first|refine z09 ?_ _|refine z0a ?_|refine z08 ?_ _));exact BK297.out⟩,⟨by repeat (first|(with_reducible first|exact HB.out|apply z04|apply z03|apply z05|refine z07 ?_ GE297.out)|exact HB.out)⟩⟩
         ·rw [if_neg c12] at H;exact absurd H (by simp)
        ·rw [if_neg c11] at H;exact absurd H (by simp)
       ·rw [if_neg c10] at H;exact absurd H (by simp)
      ·rw [if_neg c8] at H;have c8b0:decide (x6_2 < (l0_5.length:Int))=false:=decide_eq_false c8;clear c8;obtain rfl:=Option.some.inj H;have hcz17_0:wr.cell? ⟨gb297,0,none⟩=some (.int .i64 a0_0):=(z02 BK297.out 0).trans rfl;have hcz17_1:wr.cell? ⟨gb297,1,none⟩=some (.int .i64 a0_1):=(z02 BK297.out 1).trans rfl;have hcz17_2:wr.cell? ⟨gb297,2,none⟩=some (.int .i64 a0_2):=(z02 BK297.out 2).trans rfl;have hcz17_3:wr.cell? ⟨gb297,3,none⟩=some (.slice A0_3 l0_3.length c0_3):=(z02 BK297.out 3).trans rfl;have hcz17_4:wr.cell? ⟨gb297,4,none⟩=some (.slice A0_4 l0_4.length c0_4):=(z02 BK297.out 4).trans rfl;have hcz17_5:wr.cell? ⟨gb297,5,none⟩=some (.slice A0_5 l0_5.length c0_5):=(z02 BK297.out 5).trans rfl;have hfz17_0:=z01 BK297.out 0;have hfz17_1:=z01 BK297.out 1;have hfz17_2:=z01 BK297.out 2;have hfz17_3:=z01 BK297.out 3;have hfz17_4:=z01 BK297.out 4;have hfz17_5:=z01 BK297.out 5;go_wp2;go_ret
       exact ⟨_,by first|rfl|(simp [z0g,z0f] <;> rfl)|(simp [*,z0g,z0f] <;> rfl),by (with_reducible repeat (first|apply Kd.R_alloc|apply Kd.R_drewN|apply Kd.R_drew));exact HO_5.out,by repeat (first|(with_reducible first|exact HB.out|apply z04|apply z03|apply z05|refine z07 ?_ GE297.out)|exact HB.out)⟩
def z1i.l0:Nat→List Int→Int→Int→Option (Bool)
 | 0,_,_,_=>none
 | k+1,x0,x1,x5=>if x5 < (x0.length:Int) then (if 0≤x5 then (if (rd x0 x5)=x1 then (some true) else (z1i.l0 k x0 x1 (wrap64 (x5+1)))) else (none)) else (some false)
def z1i.f (k:Nat) (l0:List Int) (a1:Int):Option (Bool):=z1i.l0 k l0 a1 0
theorem z1i.mono_l:∀ k,(∀ y0 y1 y2,LeO (z1i.l0 k y0 y1 y2) (z1i.l0 (k+1) y0 y1 y2))
 | 0=>fun _ _ _ r h=>by simp [z1i.l0] at h
 | k+1=>by
  have ih0:=z1i.mono_l k
  ·intro y0 y1 y2;unfold z1i.l0
   repeat' first|exact ih0 _ _ _|exact LeO.none _|refine LeO.ite ?_ ?_|refine LeO.bind ?_ (fun _=>?_)|exact LeO.refl _
theorem z1i.mono:∀ a0 a1 k,LeO (z1i.f k a0 a1) (z1i.f (k+1) a0 a1):=by
 intro a0 a1 k;have ih0:=z1i.mono_l k;unfold z1i.f
 repeat' first|exact ih0 _ _ _|exact LeO.none _|refine LeO.ite ?_ ?_|refine LeO.bind ?_ (fun _=>?_)|exact LeO.refl _
theorem z1i.calls (k:Nat) (A0:Option Addr) (c0:Nat) (l0:List Int) (a1:Int) (r:Bool) (w:World) (hr0:Kd.C (Kd.int .i64) w A0 l0.length l0) (hc0:l0.length≤c0) (h:z1i.f k l0 a1=some r) :
  Calls Tryz.prog 36 #[.slice A0 l0.length c0,.int .i64 a1] w fun e w'=>e=.returned (.bool r)∧Drawn0 w w':=by
 have HR0:=Aside0.mk hr0;have HC0:=Aside0.mk hc0;clear hr0 hc0;have H:(z1i.l0 k l0 a1 0)=some r:=h;clear h;have H':=Aside0.mk H;clear H
 go_enter Tryz.func36,Tryz.ntmps36
 go_wp2
 go_loopg [5] k (fun kq v5 w'=>∃ (x5_1:Int),v5=.int .i64 x5_1∧Aside0 (z1i.l0 kq l0 a1 x5_1=some r)∧Aside0 (kq≤k)∧Drawn0 w w')
 case atStart=>exact ⟨(0),(by first|rfl|(simp;done)|(simp [*];done)),H',⟨Nat.le_refl _⟩,by repeat (first|exact Drawn0.refl _|apply Drawn0.step)⟩
 case round =>
  clear H';obtain ⟨x5_1,rfl,HA,HK1,⟨m1,rfl⟩⟩:=hrel;cases gk with
  | zero=>exact absurd HA.out (by simp [z1i.l0])
  | succ k1 =>
   have H:=HA.out;clear HA;simp only [z1i.l0] at H
   by_cases c3:x5_1 < (l0.length:Int)
   ·rw [if_pos c3] at H;have c3b0:decide (x5_1 < (l0.length:Int))=true:=decide_eq_true c3;clear c3
    by_cases c4:0≤x5_1
    ·rw [if_pos c4] at H;have c4b0:decide (0≤x5_1)=true:=decide_eq_true c4;clear c4
     by_cases c5:(rd l0 x5_1)=a1
     ·rw [if_pos c5] at H;have c5b0:((rd l0 x5_1) == a1)=true:=beq_iff_eq.mpr c5;have c5b1:((rd l0 x5_1) != a1)=false:=bne_eq_false_iff_eq.mpr c5;clear c5;obtain rfl:=Option.some.inj H;have p305:0≤(x5_1:Int):=of_decide_eq_true (by assumption);have q305:x5_1 < (l0.length:Int):=of_decide_eq_true (by assumption);obtain ⟨ad305,e305,hx305_0⟩:=Kd.at_int HR0.out x5_1 p305 q305;cases e305;replace p305:=eq_true p305;replace q305:=eq_true q305;go_wp2;go_ret
      exact ⟨by first|rfl|(simp;done)|(simp [*];done),by repeat (first|exact Drawn0.refl _|apply Drawn0.step)⟩
     ·rw [if_neg c5] at H;have c5b0:((rd l0 x5_1) == a1)=false:=beq_eq_false_iff_ne.mpr c5;have c5b1:((rd l0 x5_1) != a1)=true:=bne_iff_ne.mpr c5;have H':=Aside0.mk H;clear H;have p305:0≤(x5_1:Int):=of_decide_eq_true (by assumption);have q305:x5_1 < (l0.length:Int):=of_decide_eq_true (by assumption);obtain ⟨ad305,e305,hx305_0⟩:=Kd.at_int HR0.out x5_1 p305 q305;cases e305;replace p305:=eq_true p305;replace q305:=eq_true q305;go_wp2
      go_roundg k1
      case measure=>have:=HK1.out;omega
      case rel=>exact ⟨(wrap64 (x5_1+1)),(by first|rfl|(simp;done)|(simp [*];done)),H',⟨by have:=HK1.out;omega⟩,by repeat (first|exact Drawn0.refl _|apply Drawn0.step)⟩
    ·rw [if_neg c4] at H;exact absurd H (by simp)
   ·rw [if_neg c3] at H;have c3b0:decide (x5_1 < (l0.length:Int))=false:=decide_eq_false c3;clear c3;obtain rfl:=Option.some.inj H;go_wp2;go_ret
    exact ⟨by first|rfl|(simp;done)|(simp [*];done),by repeat (first|exact Drawn0.refl _|apply Drawn0.step)⟩
def z1b.l0:Nat→List (List Int)→List (List Int)→Int→Option (Bool)
 | 0,_,_,_=>none
 | k+1,x0,x1,x5=>if x5 < (x0.length:Int) then (if 0≤x5 then (if x5 < (x1.length:Int) then ((z0y.f k (rd_L7 x0 x5) (rd_L7 x1 x5)).bind fun t308=>(if t308=true then (z1b.l0 k x0 x1 (wrap64 (x5+1))) else (some false))) else (none)) else (none)) else (some true)
def z1b.f (k:Nat) (l0:List (List Int)) (l1:List (List Int)):Option (Bool):=if (l0.length:Int)=(l1.length:Int) then (z1b.l0 k l0 l1 0) else (some false)
theorem z1b.mono_l:∀ k,(∀ y0 y1 y2,LeO (z1b.l0 k y0 y1 y2) (z1b.l0 (k+1) y0 y1 y2))
 | 0=>fun _ _ _ r h=>by simp [z1b.l0] at h
 | k+1=>by
  have ih0:=z1b.mono_l k
  ·intro y0 y1 y2;unfold z1b.l0
   repeat' first|exact ih0 _ _ _|exact z0y.mono _ _ _|exact LeO.none _|refine LeO.ite ?_ ?_|refine LeO.bind ?_ (fun _=>?_)|exact LeO.refl _
theorem z1b.mono:∀ a0 a1 k,LeO (z1b.f k a0 a1) (z1b.f (k+1) a0 a1):=by
 intro a0 a1 k;have ih0:=z1b.mono_l k;unfold z1b.f
 repeat' first|exact ih0 _ _ _|exact z0y.mono _ _ _|exact LeO.none _|refine LeO.ite ?_ ?_|refine LeO.bind ?_ (fun _=>?_)|exact LeO.refl _
theorem z1b.calls (k:Nat) (A0:Option Addr) (c0:Nat) (l0:List (List Int)) (A1:Option Addr) (c1:Nat) (l1:List (List Int)) (r:Bool) (w:World) (hr0:Kd.C (Kd.slice 3 (Kd.int .i64)) w A0 l0.length l0) (hc0:l0.length≤c0) (hr1:Kd.C (Kd.slice 3 (Kd.int .i64)) w A1 l1.length l1) (hc1:l1.length≤c1) (h:z1b.f k l0 l1=some r) :
  Calls Tryz.prog 42 #[.slice A0 l0.length c0,.slice A1 l1.length c1] w fun e w'=>e=.returned (.bool r)∧Drawn0 w w':=by
 have HR0:=Aside0.mk hr0;have HC0:=Aside0.mk hc0;clear hr0 hc0;have HR1:=Aside0.mk hr1;have HC1:=Aside0.mk hc1;clear hr1 hc1;have H:(if (l0.length:Int)=(l1.length:Int) then (z1b.l0 k l0 l1 0) else (some false))=some r:=h;clear h
 by_cases c3:(l0.length:Int)=(l1.length:Int)
 ·rw [if_pos c3] at H;have c3b0:((l0.length:Int) == (l1.length:Int))=true:=beq_iff_eq.mpr c3;have c3b1:((l0.length:Int) != (l1.length:Int))=false:=bne_eq_false_iff_eq.mpr c3;have c3b2:(l0.length == l1.length)=true:=by first|simpa using c3|(simp at c3 ⊢;omega)
  clear c3;have H':=Aside0.mk H;clear H
  go_enter Tryz.func42,Tryz.ntmps42
  go_wp2
  repeat (go_quiet (fail);try go_wp2)
  go_loopg [5] k (fun kq v5 w'=>∃ (x5_1:Int),v5=.int .i64 x5_1∧Aside0 (z1b.l0 kq l0 l1 x5_1=some r)∧Aside0 (kq≤k)∧Drawn0 w w')
  case atStart=>exact ⟨(0),(by first|rfl|(simp;done)|(simp [*];done)),H',⟨Nat.le_refl _⟩,by repeat (first|exact Drawn0.refl _|apply Drawn0.step)⟩
  case round =>
   clear H';obtain ⟨x5_1,rfl,HA,HK1,⟨m1,rfl⟩⟩:=hrel;cases gk with
   | zero=>exact absurd HA.out (by simp [z1b.l0])
   | succ k1 =>
    have H:=HA.out;clear HA;simp only [z1b.l0] at H
    by_cases c4:x5_1 < (l0.length:Int)
    ·rw [if_pos c4] at H;have c4b0:decide (x5_1 < (l0.length:Int))=true:=decide_eq_true c4;clear c4
     by_cases c5:0≤x5_1
     ·rw [if_pos c5] at H;have c5b0:decide (0≤x5_1)=true:=decide_eq_true c5;clear c5
      by_cases c6:x5_1 < (l1.length:Int)
      ·rw [if_pos c6] at H;have c6b0:decide (x5_1 < (l1.length:Int))=true:=decide_eq_true c6;clear c6;replace H:=Option.bind_eq_some_iff.mp H;obtain ⟨t308,A70,H⟩:=H;skip;have A7:=Aside0.mk A70;clear A70
       by_cases c8:t308=true
       ·subst c8;have H1:(z1b.l0 k1 l0 l1 (wrap64 (x5_1+1)))=some r:=(by rw [if_pos rfl] at H;exact H);clear H;have H:=H1;clear H1;have H':=Aside0.mk H;clear H;have p306:0≤(x5_1:Int):=of_decide_eq_true (by assumption);have q306:x5_1 < (l0.length:Int):=of_decide_eq_true (by assumption);obtain ⟨ad306,A306_0,c306_0,e306,hx306_0,hl306_0,hi306_0⟩:=at_L7 HR0.out x5_1 p306 q306;cases e306;have HR306_0:=Aside0.mk hi306_0;have HC306_0:=Aside0.mk hl306_0;clear hi306_0 hl306_0;replace p306:=eq_true p306;replace q306:=eq_true q306;have p307:0≤(x5_1:Int):=of_decide_eq_true (by assumption);have q307:x5_1 < (l1.length:Int):=of_decide_eq_true (by assumption);obtain ⟨ad307,A307_0,c307_0,e307,hx307_0,hl307_0,hi307_0⟩:=at_L7 HR1.out x5_1 p307 q307;cases e307;have HR307_0:=Aside0.mk hi307_0;have HC307_0:=Aside0.mk hl307_0;clear hi307_0 hl307_0;replace p307:=eq_true p307;replace q307:=eq_true q307
        go_wp2_with (first|(go_at_call 19;(with_reducible refine (z0y.calls k1 _ _ (rd_L7 l0 x5_1) _ _ (rd_L7 l1 x5_1) true _ ?side1 ?side2 ?side3 ?side4 A7.out).mono ?_);(case side1=>repeat (first|exact HR306_0.out|(with_reducible refine Kd.C_alloc ?_ _)|(with_reducible refine Kd.C_drewN ?_ _)|(with_reducible refine Kd.C_drew ?_)));(case side2=>exact HC306_0.out);(case side3=>repeat (first|exact HR307_0.out|(with_reducible refine Kd.C_alloc ?_ _)|(with_reducible refine Kd.C_drewN ?_ _)|(with_reducible refine Kd.C_drew ?_)));(case side4=>exact HC307_0.out);rintro e w' ⟨rfl,⟨nd,rfl⟩⟩;(try first|exact ⟨rfl,_,zqa _ _ _⟩|exact ⟨rfl,_,zqb _ _ _ _⟩)))
        repeat (go_quiet (first|(go_at_call 19;(with_reducible refine (z0y.calls k1 _ _ (rd_L7 l0 x5_1) _ _ (rd_L7 l1 x5_1) true _ ?side1 ?side2 ?side3 ?side4 A7.out).mono ?_);(case side1=>repeat (first|exact HR306_0.out|(with_reducible refine Kd.C_alloc ?_ _)|(with_reducible refine Kd.C_drewN ?_ _)|(with_reducible refine Kd.C_drew ?_)));(case side2=>exact HC306_0.out);(case side3=>repeat (first|exact HR307_0.out|(with_reducible refine Kd.C_alloc ?_ _)|(with_reducible refine Kd.C_drewN ?_ _)|(with_reducible refine Kd.C_drew ?_)));(case side4=>exact HC307_0.out);rintro e w' ⟨rfl,⟨nd,rfl⟩⟩;(try first|exact ⟨rfl,_,zqa _ _ _⟩|exact ⟨rfl,_,zqb _ _ _ _⟩)));try go_wp2_with (first|(go_at_call 19;(with_reducible refine (z0y.calls k1 _ _ (rd_L7 l0 x5_1) _ _ (rd_L7 l1 x5_1) true _ ?side1 ?side2 ?side3 ?side4 A7.out).mono ?_);(case side1=>repeat (first|exact HR306_0.out|(with_reducible refine Kd.C_alloc ?_ _)|(with_reducible refine Kd.C_drewN ?_ _)|(with_reducible refine Kd.C_drew ?_)));(case side2=>exact HC306_0.out);(case side3=>repeat (first|exact HR307_0.out|(with_reducible refine Kd.C_alloc ?_ _)|(with_reducible refine Kd.C_drewN ?_ _)|(with_reducible refine Kd.C_drew ?_)));(case side4=>exact HC307_0.out);rintro e w' ⟨rfl,⟨nd,rfl⟩⟩;(try first|exact ⟨rfl,_,zqa _ _ _⟩|exact ⟨rfl,_,zqb _ _ _ _⟩))))
        go_roundg k1
        case measure=>have:=HK1.out;omega
        case rel=>exact ⟨(wrap64 (x5_1+1)),(by first|rfl|(simp;done)|(simp [*];done)),H',⟨by have:=HK1.out;omega⟩,by repeat (first|exact Drawn0.refl _|apply Drawn0.step)⟩
       ·replace c8:=Bool.eq_false_iff.mpr c8;subst c8;have H1:(some false)=some r:=(by rw [if_neg (show ¬ (false=true) by decide)] at H;exact H);clear H;have H:=H1;clear H1;obtain rfl:=Option.some.inj H;have p306:0≤(x5_1:Int):=of_decide_eq_true (by assumption);have q306:x5_1 < (l0.length:Int):=of_decide_eq_true (by assumption);obtain ⟨ad306,A306_0,c306_0,e306,hx306_0,hl306_0,hi306_0⟩:=at_L7 HR0.out x5_1 p306 q306;cases e306;have HR306_0:=Aside0.mk hi306_0;have HC306_0:=Aside0.mk hl306_0;clear hi306_0 hl306_0;replace p306:=eq_true p306;replace q306:=eq_true q306;have p307:0≤(x5_1:Int):=of_decide_eq_true (by assumption);have q307:x5_1 < (l1.length:Int):=of_decide_eq_true (by assumption);obtain ⟨ad307,A307_0,c307_0,e307,hx307_0,hl307_0,hi307_0⟩:=at_L7 HR1.out x5_1 p307 q307;cases e307;have HR307_0:=Aside0.mk hi307_0;have HC307_0:=Aside0.mk hl307_0;clear hi307_0 hl307_0;replace p307:=eq_true p307;replace q307:=eq_true q307
        go_wp2_with (first|(go_at_call 19;(with_reducible refine (z0y.calls k1 _ _ (rd_L7 l0 x5_1) _ _ (rd_L7 l1 x5_1) false _ ?side1 ?side2 ?side3 ?side4 A7.out).mono ?_);(case side1=>repeat (first|exact HR306_0.out|(with_reducible refine Kd.C_alloc ?_ _)|(with_reducible refine Kd.C_drewN ?_ _)|(with_reducible refine Kd.C_drew ?_)));(case side2=>exact HC306_0.out);(case side3=>repeat (first|exact HR307_0.out|(with_reducible refine Kd.C_alloc ?_ _)|(with_reducible refine Kd.C_drewN ?_ _)|(with_reducible refine Kd.C_drew ?_)));(case side4=>exact HC307_0.out);rintro e w' ⟨rfl,⟨nd,rfl⟩⟩;(try first|exact ⟨rfl,_,zqa _ _ _⟩|exact ⟨rfl,_,zqb _ _ _ _⟩)))
        repeat (go_quiet (first|(go_at_call 19;(with_reducible refine (z0y.calls k1 _ _ (rd_L7 l0 x5_1) _ _ (rd_L7 l1 x5_1) false _ ?side1 ?side2 ?side3 ?side4 A7.out).mono ?_);(case side1=>repeat (first|exact HR306_0.out|(with_reducible refine Kd.C_alloc ?_ _)|(with_reducible refine Kd.C_drewN ?_ _)|(with_reducible refine Kd.C_drew ?_)));(case side2=>exact HC306_0.out);(case side3=>repeat (first|exact HR307_0.out|(with_reducible refine Kd.C_alloc ?_ _)|(with_reducible refine Kd.C_drewN ?_ _)|(with_reducible refine Kd.C_drew ?_)));(case side4=>exact HC307_0.out);rintro e w' ⟨rfl,⟨nd,rfl⟩⟩;(try first|exact ⟨rfl,_,zqa _ _ _⟩|exact ⟨rfl,_,zqb _ _ _ _⟩)));try go_wp2_with (first|(go_at_call 19;(with_reducible refine (z0y.calls k1 _ _ (rd_L7 l0 x5_1) _ _ (rd_L7 l1 x5_1) false _ ?side1 ?side2 ?side3 ?side4 A7.out).mono ?_);(case side1=>repeat (first|exact HR306_0.out|(with_reducible refine Kd.C_alloc ?_ _)|(with_reducible refine Kd.C_drewN ?_ _)|(with_reducible refine Kd.C_drew ?_)));(case side2=>exact HC306_0.out);(case side3=>repeat (first|exact HR307_0.out|(with_reducible refine Kd.C_alloc ?_ _)|(with_reducible refine Kd.C_drewN ?_ _)|(with_reducible refine Kd.C_drew ?_)));(case side4=>exact HC307_0.out);rintro e w' ⟨rfl,⟨nd,rfl⟩⟩;(try first|exact ⟨rfl,_,zqa _ _ _⟩|exact ⟨rfl,_,zqb _ _ _ _⟩))))
        go_ret
        exact ⟨by first|rfl|(simp;done)|(simp [*];done),by repeat (first|exact Drawn0.refl _|apply Drawn0.step)⟩
      ·rw [if_neg c6] at H;exact absurd H (by simp)
     ·rw [if_neg c5] at H;exact absurd H (by simp)
    ·rw [if_neg c4] at H;have c4b0:decide (x5_1 < (l0.length:Int))=false:=decide_eq_false c4;clear c4;obtain rfl:=Option.some.inj H;go_wp2
     repeat (go_quiet (fail);try go_wp2)
     go_ret
     exact ⟨by first|rfl|(simp;done)|(simp [*];done),by repeat (first|exact Drawn0.refl _|apply Drawn0.step)⟩
 ·rw [if_neg c3] at H;have c3b0:((l0.length:Int) == (l1.length:Int))=false:=beq_eq_false_iff_ne.mpr c3;have c3b1:((l0.length:Int) != (l1.length:Int))=true:=bne_iff_ne.mpr c3;have c3b2:(l0.length == l1.length)=false:=by first|simpa using c3|(simp at c3 ⊢;omega)
  obtain rfl:=Option.some.inj H
  go_enter Tryz.func42,Tryz.ntmps42
  go_wp2
  repeat (go_quiet (fail);try go_wp2)
  go_ret
  exact ⟨by first|rfl|(simp;done)|(simp [*];done),by repeat (first|exact Drawn0.refl _|apply Drawn0.step)⟩
def z1d.l0:Nat→List Int→Int→Int→Option (Bool)
 | 0,_,_,_=>none
 | k+1,x0,x1,x5=>if (wrap64 (x5+1)) < (x0.length:Int) then (if 0≤x5 then (if x5 < (x0.length:Int) then (if (rd x0 x5)=x1 then (some true) else (z1d.l0 k x0 x1 (wrap64 (x5+1)))) else (none)) else (none)) else (some false)
def z1d.f (k:Nat) (l0:List Int) (a1:Int):Option (Bool):=z1d.l0 k l0 a1 0
theorem z1d.mono_l:∀ k,(∀ y0 y1 y2,LeO (z1d.l0 k y0 y1 y2) (z1d.l0 (k+1) y0 y1 y2))
 | 0=>fun _ _ _ r h=>by simp [z1d.l0] at h
 | k+1=>by
  have ih0:=z1d.mono_l k
  ·intro y0 y1 y2;unfold z1d.l0
   repeat' first|exact ih0 _ _ _|exact LeO.none _|refine LeO.ite ?_ ?_|refine LeO.bind ?_ (fun _=>?_)|exact LeO.refl _
theorem z1d.mono:∀ a0 a1 k,LeO (z1d.f k a0 a1) (z1d.f (k+1) a0 a1):=by
 intro a0 a1 k;have ih0:=z1d.mono_l k;unfold z1d.f
 repeat' first|exact ih0 _ _ _|exact LeO.none _|refine LeO.ite ?_ ?_|refine LeO.bind ?_ (fun _=>?_)|exact LeO.refl _
theorem z1d.calls (k:Nat) (A0:Option Addr) (c0:Nat) (l0:List Int) (a1:Int) (r:Bool) (w:World) (hr0:Kd.C (Kd.int .i64) w A0 l0.length l0) (hc0:l0.length≤c0) (h:z1d.f k l0 a1=some r) :
  Calls Tryz.prog 76 #[.slice A0 l0.length c0,.int .i64 a1] w fun e w'=>e=.returned (.bool r)∧Drawn0 w w':=by
 have HR0:=Aside0.mk hr0;have HC0:=Aside0.mk hc0;clear hr0 hc0;have H:(z1d.l0 k l0 a1 0)=some r:=h;clear h;have H':=Aside0.mk H;clear H
 go_enter Tryz.func76,Tryz.ntmps76
 go_wp2
 go_loopg [5] k (fun kq v5 w'=>∃ (x5_1:Int),v5=.int .i64 x5_1∧Aside0 (z1d.l0 kq l0 a1 x5_1=some r)∧Aside0 (kq≤k)∧Drawn0 w w')
 case atStart=>exact ⟨(0),(by first|rfl|(simp;done)|(simp [*];done)),H',⟨Nat.le_refl _⟩,by repeat (first|exact Drawn0.refl _|apply Drawn0.step)⟩
 case round =>
  clear H';obtain ⟨x5_1,rfl,HA,HK1,⟨m1,rfl⟩⟩:=hrel;cases gk with
  | zero=>exact absurd HA.out (by simp [z1d.l0])
  | succ k1 =>
   have H:=HA.out;clear HA;simp only [z1d.l0] at H
   by_cases c3:(wrap64 (x5_1+1)) < (l0.length:Int)
   ·rw [if_pos c3] at H;have c3b0:decide ((wrap64 (x5_1+1)) < (l0.length:Int))=true:=decide_eq_true c3;clear c3
    by_cases c4:0≤x5_1
    ·rw [if_pos c4] at H;have c4b0:decide (0≤x5_1)=true:=decide_eq_true c4;clear c4
     by_cases c5:x5_1 < (l0.length:Int)
     ·rw [if_pos c5] at H;have c5b0:decide (x5_1 < (l0.length:Int))=true:=decide_eq_true c5;clear c5
      by_cases c6:(rd l0 x5_1)=a1
      ·rw [if_pos c6] at H;have c6b0:((rd l0 x5_1) == a1)=true:=beq_iff_eq.mpr c6;have c6b1:((rd l0 x5_1) != a1)=false:=bne_eq_false_iff_eq.mpr c6;clear c6;obtain rfl:=Option.some.inj H;have p349:0≤(x5_1:Int):=of_decide_eq_true (by assumption);have q349:x5_1 < (l0.length:Int):=of_decide_eq_true (by assumption);obtain ⟨ad349,e349,hx349_0⟩:=Kd.at_int HR0.out x5_1 p349 q349;cases e349;replace p349:=eq_true p349;replace q349:=eq_true q349;go_wp2;go_ret
       exact ⟨by first|rfl|(simp;done)|(simp [*];done),by repeat (first|exact Drawn0.refl _|apply Drawn0.step)⟩
      ·rw [if_neg c6] at H;have c6b0:((rd l0 x5_1) == a1)=false:=beq_eq_false_iff_ne.mpr c6;have c6b1:((rd l0 x5_1) != a1)=true:=bne_iff_ne.mpr c6;have H':=Aside0.mk H;clear H;have p349:0≤(x5_1:Int):=of_decide_eq_true (by assumption);have q349:x5_1 < (l0.length:Int):=of_decide_eq_true (by assumption);obtain ⟨ad349,e349,hx349_0⟩:=Kd.at_int HR0.out x5_1 p349 q349;cases e349;replace p349:=eq_true p349;replace q349:=eq_true q349;go_wp2
       go_roundg k1
       case measure=>have:=HK1.out;omega
       case rel=>exact ⟨(wrap64 (x5_1+1)),(by first|rfl|(simp;done)|(simp [*];done)),H',⟨by have:=HK1.out;omega⟩,by repeat (first|exact Drawn0.refl _|apply Drawn0.step)⟩
     ·rw [if_neg c5] at H;exact absurd H (by simp)
    ·rw [if_neg c4] at H;exact absurd H (by simp)
   ·rw [if_neg c3] at H;have c3b0:decide ((wrap64 (x5_1+1)) < (l0.length:Int))=false:=decide_eq_false c3;clear c3;obtain rfl:=Option.some.inj H;go_wp2;go_ret
    exact ⟨by first|rfl|(simp;done)|(simp [*];done),by repeat (first|exact Drawn0.refl _|apply Drawn0.step)⟩
def z1a.l0:Nat→List Int→List Int→Int→Option (Bool)
 | 0,_,_,_=>none
 | k+1,x0,x1,x5=>if x5 < (x0.length:Int) then (if 0≤x5 then (if x5 < (x1.length:Int) then (if (rd x0 x5)=(rd x1 x5) then (z1a.l0 k x0 x1 (wrap64 (x5+1))) else (some (decide ((rd x0 x5) < (rd x1 x5))))) else (none)) else (none)) else (some false)
def z1a.f (k:Nat) (l0:List Int) (l1:List Int):Option (Bool):=if (l0.length:Int)=(l1.length:Int) then (z1a.l0 k l0 l1 0) else (some (decide ((l0.length:Int) < (l1.length:Int))))
theorem z1a.mono_l:∀ k,(∀ y0 y1 y2,LeO (z1a.l0 k y0 y1 y2) (z1a.l0 (k+1) y0 y1 y2))
 | 0=>fun _ _ _ r h=>by simp [z1a.l0] at h
 | k+1=>by
  have ih0:=z1a.mono_l k
  ·intro y0 y1 y2;unfold z1a.l0
   repeat' first|exact ih0 _ _ _|exact LeO.none _|refine LeO.ite ?_ ?_|refine LeO.bind ?_ (fun _=>?_)|exact LeO.refl _
theorem z1a.mono:∀ a0 a1 k,LeO (z1a.f k a0 a1) (z1a.f (k+1) a0 a1):=by
 intro a0 a1 k;have ih0:=z1a.mono_l k;unfold z1a.f
 repeat' first|exact ih0 _ _ _|exact LeO.none _|refine LeO.ite ?_ ?_|refine LeO.bind ?_ (fun _=>?_)|exact LeO.refl _
theorem z1a.calls (k:Nat) (A0:Option Addr) (c0:Nat) (l0:List Int) (A1:Option Addr) (c1:Nat) (l1:List Int) (r:Bool) (w:World) (hr0:Kd.C (Kd.int .i64) w A0 l0.length l0) (hc0:l0.length≤c0) (hr1:Kd.C (Kd.int .i64) w A1 l1.length l1) (hc1:l1.length≤c1) (h:z1a.f k l0 l1=some r) :
  Calls Tryz.prog 73 #[.slice A0 l0.length c0,.slice A1 l1.length c1] w fun e w'=>e=.returned (.bool r)∧Drawn0 w w':=by
 have HR0:=Aside0.mk hr0;have HC0:=Aside0.mk hc0;clear hr0 hc0;have HR1:=Aside0.mk hr1;have HC1:=Aside0.mk hc1;clear hr1 hc1;have H:(if (l0.length:Int)=(l1.length:Int) then (z1a.l0 k l0 l1 0) else (some (decide ((l0.length:Int) < (l1.length:Int)))))=some r:=h;clear h
 by_cases c3:(l0.length:Int)=(l1.length:Int)
 ·rw [if_pos c3] at H;have c3b0:((l0.length:Int) == (l1.length:Int))=true:=beq_iff_eq.mpr c3;have c3b1:((l0.length:Int) != (l1.length:Int))=false:=bne_eq_false_iff_eq.mpr c3;have c3b2:(l0.length == l1.length)=true:=by first|simpa using c3|(simp at c3 ⊢;omega)
  clear c3;have H':=Aside0.mk H;clear H
  go_enter Tryz.func73,Tryz.ntmps73
  go_wp2
  repeat (go_quiet (fail);try go_wp2)
  go_loopg [5] k (fun kq v5 w'=>∃ (x5_1:Int),v5=.int .i64 x5_1∧Aside0 (z1a.l0 kq l0 l1 x5_1=some r)∧Aside0 (kq≤k)∧Drawn0 w w')
  case atStart=>exact ⟨(0),(by first|rfl|(simp;done)|(simp [*];done)),H',⟨Nat.le_refl _⟩,by repeat (first|exact Drawn0.refl _|apply Drawn0.step)⟩
  case round =>
   clear H';obtain ⟨x5_1,rfl,HA,HK1,⟨m1,rfl⟩⟩:=hrel;cases gk with
   | zero=>exact absurd HA.out (by simp [z1a.l0])
   | succ k1 =>
    have H:=HA.out;clear HA;simp only [z1a.l0] at H
    by_cases c4:x5_1 < (l0.length:Int)
    ·rw [if_pos c4] at H;have c4b0:decide (x5_1 < (l0.length:Int))=true:=decide_eq_true c4;clear c4
     by_cases c5:0≤x5_1
     ·rw [if_pos c5] at H;have c5b0:decide (0≤x5_1)=true:=decide_eq_true c5;clear c5
      by_cases c6:x5_1 < (l1.length:Int)
      ·rw [if_pos c6] at H;have c6b0:decide (x5_1 < (l1.length:Int))=true:=decide_eq_true c6;clear c6
       by_cases c7:(rd l0 x5_1)=(rd l1 x5_1)
       ·rw [if_pos c7] at H;have c7b0:((rd l0 x5_1) == (rd l1 x5_1))=true:=beq_iff_eq.mpr c7;have c7b1:((rd l0 x5_1) != (rd l1 x5_1))=false:=bne_eq_false_iff_eq.mpr c7;clear c7;have H':=Aside0.mk H;clear H;have p374:0≤(x5_1:Int):=of_decide_eq_true (by assumption);have q374:x5_1 < (l0.length:Int):=of_decide_eq_true (by assumption);obtain ⟨ad374,e374,hx374_0⟩:=Kd.at_int HR0.out x5_1 p374 q374;cases e374;replace p374:=eq_true p374;replace q374:=eq_true q374;have p375:0≤(x5_1:Int):=of_decide_eq_true (by assumption);have q375:x5_1 < (l1.length:Int):=of_decide_eq_true (by assumption);obtain ⟨ad375,e375,hx375_0⟩:=Kd.at_int HR1.out x5_1 p375 q375;cases e375;replace p375:=eq_true p375;replace q375:=eq_true q375;go_wp2
        repeat (go_quiet (fail);try go_wp2)
        go_roundg k1
        case measure=>have:=HK1.out;omega
        case rel=>exact ⟨(wrap64 (x5_1+1)),(by first|rfl|(simp;done)|(simp [*];done)),H',⟨by have:=HK1.out;omega⟩,by repeat (first|exact Drawn0.refl _|apply Drawn0.step)⟩
       ·rw [if_neg c7] at H;have c7b0:((rd l0 x5_1) == (rd l1 x5_1))=false:=beq_eq_false_iff_ne.mpr c7;have c7b1:((rd l0 x5_1) != (rd l1 x5_1))=true:=bne_iff_ne.mpr c7;obtain rfl:=Option.some.inj H;have p374:0≤(x5_1:Int):=of_decide_eq_true (by assumption);have q374:x5_1 < (l0.length:Int):=of_decide_eq_true (by assumption);obtain ⟨ad374,e374,hx374_0⟩:=Kd.at_int HR0.out x5_1 p374 q374;cases e374;replace p374:=eq_true p374;replace q374:=eq_true q374;have p375:0≤(x5_1:Int):=of_decide_eq_true (by assumption);have q375:x5_1 < (l1.length:Int):=of_decide_eq_true (by assumption);obtain ⟨ad375,e375,hx375_0⟩:=Kd.at_int HR1.out x5_1 p375 q375;cases e375;replace p375:=eq_true p375;replace q375:=eq_true q375;have p376:0≤(x5_1:Int):=of_decide_eq_true (by assumption);have q376:x5_1 < (l0.length:Int):=of_decide_eq_true (by assumption);obtain ⟨ad376,e376,hx376_0⟩:=Kd.at_int HR0.out x5_1 p376 q376;obtain rfl:ad374=ad376:=(by injection e376);replace p376:=eq_true p376;replace q376:=eq_true q376;have p377:0≤(x5_1:Int):=of_decide_eq_true (by assumption);have q377:x5_1 < (l1.length:Int):=of_decide_eq_true (by assumption);obtain ⟨ad377,e377,hx377_0⟩:=Kd.at_int HR1.out x5_1 p377 q377;obtain rfl:ad375=ad377:=(by injection e377);replace p377:=eq_true p377;replace q377:=eq_true q377;go_wp2
        repeat (go_quiet (fail);try go_wp2)
        go_ret
        exact ⟨by first|rfl|(simp;done)|(simp [*];done),by repeat (first|exact Drawn0.refl _|apply Drawn0.step)⟩
      ·rw [if_neg c6] at H;exact absurd H (by simp)
     ·rw [if_neg c5] at H;exact absurd H (by simp)
    ·rw [if_neg c4] at H;have c4b0:decide (x5_1 < (l0.length:Int))=false:=decide_eq_false c4;clear c4;obtain rfl:=Option.some.inj H;go_wp2
     repeat (go_quiet (fail);try go_wp2)
     go_ret
     exact ⟨by first|rfl|(simp;done)|(simp [*];done),by repeat (first|exact Drawn0.refl _|apply Drawn0.step)⟩
 ·rw [if_neg c3] at H;have c3b0:((l0.length:Int) == (l1.length:Int))=false:=beq_eq_false_iff_ne.mpr c3;have c3b1:((l0.length:Int) != (l1.length:Int))=true:=bne_iff_ne.mpr c3;have c3b2:(l0.length == l1.length)=false:=by first|simpa using c3|(simp at c3 ⊢;omega)
  obtain rfl:=Option.some.inj H
  go_enter Tryz.func73,Tryz.ntmps73
  go_wp2
  repeat (go_quiet (fail);try go_wp2)
  go_ret
  exact ⟨by first|rfl|(simp;done)|(simp [*];done),by repeat (first|exact Drawn0.refl _|apply Drawn0.step)⟩
end Go.Proofs.YtcbnhfnnjkkceaaGreat.X
end
section
namespace Go.Proofs.YtcbnhfnnjkkceaaGreat.X
open Go.RowKit Go.Proofs.YtcbnhfnnjkkceaaGreatW.PrintWords Go.Proofs.YtcbnhfnnjkkceaaGreatW.PrintLast Go.Proofs.YtcbnhfnnjkkceaaGreatW.PrintMore Go.Proofs.YtcbnhfnnjkkceaaGreat.Gr Go.ChangeMaps Go.MapKept Go.ChangeShapes
structure MkSt (w:World) (b1 g:Nat) (p:Im) (dv fv cv:Value) (m j:Nat) (b:Nat→Nat) (w':World):Prop where
 box:w'.heap[b1]?=some (.cells #[.pointer (some ⟨g,0,none⟩)] 29 (0,0))
 cells:w'.heap[g]?=some (.cells (z1w p dv fv cv 0 1 (fun t=>.map (if t < j then some (b t) else none))) 97 (0,0))
 maps:∀ t,t < 4→m.testBit t=true→w'.heap[b t]?=some (.map #[] 0)∧w.heap.size+1≤b t
 apart:∀ s t,s < 4→t < 4→m.testBit s=true→m.testBit t=true→b s=b t→s=t
 fr:Fr w w' (fun i=>i=g)
 size:w.heap.size+1≤w'.heap.size
 here:b1=w.heap.size
 old:g < w.heap.size
 hav:∀ t,t < j→m.testBit t=true
theorem MkSt.make {w w':World} {b1 g:Nat} {p:Im} {dv fv cv:Value} {m m' j:Nat} {b:Nat→Nat} (h:MkSt w b1 g p dv fv cv m j b w') (t:Nat) (ht:t < 4) (hm:m.testBit t=false) (hm':m'=m ||| (1 <<< t)) :
  MkSt w b1 g p dv fv cv m' j (fun s=>if s=t then w'.heap.size else b s) (w'.alloc (.map #[] 0)):=by
 have hbit:∀ s,m'.testBit s=(m.testBit s || decide (t=s)):=fun s=>by
  rw [hm',Nat.testBit_or,Nat.one_shiftLeft,Nat.testBit_two_pow]
 have hgrow:=Below.heap_alloc w' (.map #[] 0);refine ⟨z08 h.box _,?_,fun s hs hb=>?_,fun s r hs hr hb1 hb2 e=>?_,h.fr.trans (Fr.of_grown (World.grownBy_alloc w' (.map #[] 0) none) (by simp)),Nat.le_trans h.size (by show _≤(w'.heap.push _).size;simp),h.here,h.old,fun s hs=>by rw [hbit,h.hav s hs];rfl⟩
 ·have h0:=z08 h.cells (.map #[] 0);rw [h0]
  congr 3
  funext s
  by_cases hs:s < j
  ·rw [if_pos hs,if_pos hs,if_neg (fun e=>by have:=h.hav s hs;rw [e,hm] at this;cases this)]
  ·rw [if_neg hs,if_neg hs]
 ·by_cases e:s=t
  ·simp only [e,if_pos];exact ⟨z21 w' _,h.size⟩
  ·simp only [if_neg e];rw [hbit] at hb;have hb':m.testBit s=true:=by simpa [Ne.symm e] using hb
   obtain ⟨h1,h2⟩:=h.maps s hs hb';exact ⟨z08 h1 _,h2⟩
 ·rw [hbit] at hb1 hb2
  by_cases e1:s=t
  ·by_cases e2:r=t
   ·rw [e1,e2]
   ·simp only [e1,if_pos,if_neg e2] at e;have hb':m.testBit r=true:=(by simpa [Ne.symm e2] using hb2);have:=z15 (h.maps r hr hb').1;omega
  ·by_cases e2:r=t
   ·simp only [e2,if_pos,if_neg e1] at e;have hb':m.testBit s=true:=(by simpa [Ne.symm e1] using hb1);have:=z15 (h.maps s hs hb').1;omega
   ·simp only [if_neg e1,if_neg e2] at e;exact h.apart s r hs hr (by simpa [Ne.symm e1] using hb1) (by simpa [Ne.symm e2] using hb2) e
theorem MkSt.drew {w w':World} {b1 g:Nat} {p:Im} {dv fv cv:Value} {m j:Nat} {b:Nat→Nat} (h:MkSt w b1 g p dv fv cv m j b w'):MkSt w b1 g p dv fv cv m j b w'.drew :=
 ⟨h.box,h.cells,h.maps,h.apart,⟨h.fr.os,h.fr.tape,h.fr.output,h.fr.size,h.fr.block⟩,h.size,h.here,h.old,h.hav⟩
theorem grCells_set (p:Im) (dv fv cv:Value) (done st:Int) (m:Nat→Value) (t:Nat) (ht:t < 4) (v:Value):(z1w p dv fv cv done st m).setIfInBounds (9+t) v=z1w p dv fv cv done st (fun s=>if s=t then v else m s):=by
 rcases t with _|_|_|_|t
 ·rfl
 ·rfl
 ·rfl
 ·rfl
 ·omega
theorem MkSt.store {w w':World} {b1 g:Nat} {p:Im} {dv fv cv:Value} {m j:Nat} {b:Nat→Nat} (h:MkSt w b1 g p dv fv cv m j b w') (t:Nat) (ht:t < 4) (hj:j=t) (hm:m.testBit t=true) :
  MkSt w b1 g p dv fv cv m (t+1) b (w'.setCell ⟨g,9+t,none⟩ (.map (some (b t)))):=by
 subst hj;have hne:∀ i,i≠g→(w'.setCell ⟨g,9+j,none⟩ (.map (some (b j)))).heap[i]?=w'.heap[i]?:=fun i hi=>Below.heap_setCell w' ⟨g,9+j,none⟩ _ i hi
 have hb1:b1≠g:=by have:=h.here;have:=h.old;omega
 refine ⟨(hne b1 hb1).trans h.box,?_,fun s hs hb=>?_,h.apart,h.fr.trans ⟨rfl,rfl,rfl,by simp [World.setCell],fun i _ hi=>hne i hi⟩,by have:=h.size;simp [World.setCell];omega,h.here,h.old,fun s hs=>?_⟩
 ·have h0:=blk_set h.cells (9+j) (.map (some (b j)));rw [h0,grCells_set _ _ _ _ _ _ _ _ ht]
  congr 3
  funext s
  by_cases e:s=j
  ·rw [if_pos e,e,if_pos (by omega)]
  ·by_cases hs:s < j
   ·rw [if_neg e,if_pos hs,if_pos (by omega)]
   ·rw [if_neg e,if_neg hs,if_neg (by omega)]
 ·obtain ⟨h1,h2⟩:=h.maps s hs hb;exact ⟨(hne (b s) (by have:=h.old;omega)).trans h1,h2⟩
 ·by_cases e:s=j
  ·rw [e];exact hm
  ·exact h.hav s (by omega)
theorem MkSt.tab {w w':World} {b1 g:Nat} {p:Im} {dv fv cv:Value} {b:Nat→Nat} (h:MkSt w b1 g p dv fv cv 15 4 b w'):Tab Tryz.prog 3 w' (w.heap.size+1) b 0 (fun _ _=>nilS) (fun _ _=>[]) ∧
  w'.heap[g]?=some (.cells (z1w p dv fv cv 0 1 (fun t=>.map (some (b t)))) 97 (0,0)):=by
 have hbit:∀ t,t < 4→(15:Nat).testBit t=true:=fun t ht=>by
  rcases t with _|_|_|_|t
  ·decide
  ·decide
  ·decide
  ·decide
  ·omega
 refine ⟨⟨fun t ht=>?_,fun s t hs ht e=>h.apart s t hs ht (hbit s hs) (hbit t ht) e,fun t ht=>(h.maps t ht (hbit t ht)).2,fun t x _ _=>World.ownsInts_nil _ _ _ _,fun _ _ _ _ _ _ _ _ _=>.inl rfl,fun _ _ _ _=>Nat.le_refl _⟩,?_⟩
 ·have hb:=(h.maps t ht (hbit t ht)).1;exact ⟨.map [],⟨#[],0,hb,⟨by simp,stamped_empty 0,by simp⟩,Nat.le_refl _,rfl⟩,fun _ _=>rfl⟩
 ·rw [h.cells];rfl
structure MkW (w:World) (g B0:Nat) (p:Im) (dv fv cv:Value) (bs:Nat→Nat) (wr:World):Prop where
 box:wr.heap[w.heap.size]?=some (.cells #[.pointer (some ⟨g,0,none⟩)] 29 (0,0))
 cells:wr.heap[g]?=some (.cells (z1w p dv fv cv 0 1 (fun t=>.map (some (bs t)))) 97 (0,0))
 grp:GrP wr B0 p dv fv cv
 old:∀ k,dv.ownBlock=some k∨fv.ownBlock=some k∨cv.ownBlock=some k→k < w.heap.size
 fr:Fr w wr (fun i=>i=g∨w.heap.size+1≤i)
 size:w.heap.size+1≤wr.heap.size
 lt:g < w.heap.size
theorem GrP.keep {w w1:World} {B:Nat} {p:Im} {dv fv cv:Value} (h:GrP w B p dv fv cv) (hk:∀ k,dv.ownBlock=some k∨fv.ownBlock=some k∨cv.ownBlock=some k→w1.heap[k]?=w.heap[k]?):GrP w1 B p dv fv cv :=
 ⟨z38 rfl h.d fun k e=>hk k (.inl e),z38 rfl h.f fun k e=>hk k (.inr (.inl e)),z38 rfl h.c fun k e=>hk k (.inr (.inr e))⟩
theorem GrP.ne {w:World} {B g:Nat} {p:Im} {dv fv cv:Value} (h:GrP w B p dv fv cv) {c:Array Value} (hg:w.heap[g]?=some (.cells c 97 (0,0))) {k:Nat} (hk:dv.ownBlock=some k∨fv.ownBlock=some k∨cv.ownBlock=some k):k < w.heap.size∧k≠g:=by
 have:∃ c t,w.heap[k]?=some (.cells c t (0,0))∧t≠97:=by
  rcases hk with hk|hk|hk
  ·obtain ⟨c,hc⟩:=Kd.R_typed h.d k hk;exact ⟨c,_,hc,by decide⟩
  ·obtain ⟨c,hc⟩:=Kd.R_typed h.f k hk;exact ⟨c,_,hc,by decide⟩
  ·obtain ⟨c,hc⟩:=Kd.R_typed h.c k hk;exact ⟨c,_,hc,by decide⟩
 obtain ⟨c',t,hc,ht⟩:=this;refine ⟨z15 hc,fun e=>?_⟩;rw [e,hg] at hc;cases hc;exact ht rfl
theorem MkW.step {w wr w1:World} {g B0:Nat} {p:Im} {dv fv cv:Value} {bs:Nat→Nat} (h:MkW w g B0 p dv fv cv bs wr) (hf:Fr wr w1 (fun i=>w.heap.size+1≤i)):MkW w g B0 p dv fv cv bs w1 :=
 ⟨(hf.block _ (z15 h.box) (by omega)).trans h.box,(hf.block _ (z15 h.cells) (by have:=h.lt;omega)).trans h.cells,h.grp.keep fun k hk=>hf.block k (h.grp.ne h.cells hk).1 (by have:=h.old k hk;omega),
  h.old,h.fr.trans (hf.mono fun i _ hi=>.inr hi),Nat.le_trans h.size hf.size,h.lt⟩
theorem MkW.below {w wr w1:World} {g B0:Nat} {p:Im} {dv fv cv:Value} {bs:Nat→Nat} (h:MkW w g B0 p dv fv cv bs wr) (hb:Below wr.heap.size wr w1):MkW w g B0 p dv fv cv bs w1 :=
 h.step ((Fr.of_below hb).mono fun i hi hi2=>by omega)
theorem MkSt.mkw {w w':World} {g B0:Nat} {p:Im} {dv fv cv:Value} {b:Nat→Nat} (h:MkSt w w.heap.size g p dv fv cv 15 4 b w') (hg:w.heap[g]?=some (.cells (z1w p dv fv cv 0 1 (fun _=>.map none)) 97 (0,0))) (hp:GrP w B0 p dv fv cv):MkW w g B0 p dv fv cv b w' :=
 ⟨h.box,h.tab.2,hp.keep fun k hk=>h.fr.block k (hp.ne hg hk).1 (hp.ne hg hk).2,fun k hk=>(hp.ne hg hk).1,h.fr.mono fun i _ hi=>.inl hi,h.size,h.old⟩
theorem z2f {B:Nat} {a w:World} (h:Below B a w) (n:Nat):Below B a (w.drewN n):=h.trans ⟨rfl,rfl,rfl,Nat.le_refl _,fun _ _=>rfl⟩
theorem ints_R {w:World} {base:Nat} {v:Value} {zs:List Int} (h:w.ownsInts base 3 .i64 v zs):Kd.R (Kd.int .i64) 3 w base (fun _=>True) v zs:=by
 refine ⟨fun _ _=>trivial,zs.map (Value.int .i64),h.1,by simp [Kd.int,Kd.scalar],fun j p hj=>?_⟩;have hl:=(List.getElem?_eq_some_iff.1 hj).1;show (List.take 1 (List.drop (j * 1) (zs.map (Value.int .i64))))=[Value.int .i64 p];rw [Nat.mul_one,List.drop_eq_getElem_cons (by simpa using hl),List.take_succ_cons,List.take_zero,List.getElem_map,(List.getElem?_eq_some_iff.1 hj).2]
def endPost (P:Program) (fn:Func) (R:Ending→World→Prop):Exit→Act→World→Prop
 | .normal,a,w|.ret,a,w=>Leaves P fn a.tmps R a.defers .returning w
 | _,_,_=>False
theorem calls_of_wp_ends {P:Program} {f:FuncId} {fn:Func} {c:Code} {args:Array Value} {w:World} {R:Ending→World→Prop} (hf:P.funcs[f]?=some fn) (hb:fn.body=some c)
  (h:c.wp P (endPost P fn R) { tmps:=args ++ Array.replicate (fn.ntmps - args.size) undef,defers:=[] } w):Calls P f args w R :=
 calls_of_wp_defers hf hb (wp_mono h fun e a w he=>by cases e <;> first|exact he|exact he.elim)
end Go.Proofs.YtcbnhfnnjkkceaaGreat.X
end
section
namespace Go.Proofs.YtcbnhfnnjkkceaaGreat.X
open Go.RowKit Go.Proofs.YtcbnhfnnjkkceaaGreatW.PrintWords Go.Proofs.YtcbnhfnnjkkceaaGreatW.PrintLast Go.Proofs.YtcbnhfnnjkkceaaGreatW.PrintMore Go.Proofs.YtcbnhfnnjkkceaaGreat.Gr
theorem goesC_ {P : Program} {ops : Array Oper} {Q : Exit → Act → World → Prop} {oi : Oper} {N : Option Tmp} {a : Act} {w : World} {K : Act → World → Prop} {f : FuncId} {fn : Func} {tt : Operand} {cap : Array Value} {aas : Array Operand} {ts : Array TypeId} (hf : P.funcs[f]? = some fn) (hname : (fn.name == "runtime.NumGoroutine") = false) (hb : fn.body.isSome = true) (args : Array Value)
  (hw:Region.wanted oi (yielded ops a.tmps)=true) (hN:oi.dst=N) (hop:oi.op=.call { callee:=.value tt,args:=aas,argTypes:=ts }) (ht:a.eval tt=.func (.func f) #[] cap) (hargs:aas.map a.eval ++ cap=args)
  (h:Calls P f args w fun e w'=>∃ v,e=.returned v∧K (a.put N v) w'):if Region.wanted oi (yielded ops a.tmps)=true then Oper.wp P oi a w K Q else K (a.put N undef) w:=by
 refine call_ f args hw hN ?_ h;have he:=enters_ hf hname hb args w;unfold execOp;simp [hop,resolve,Deferred.ofValue,invoke,ht,hargs,he]
end Go.Proofs.YtcbnhfnnjkkceaaGreat.X
end
