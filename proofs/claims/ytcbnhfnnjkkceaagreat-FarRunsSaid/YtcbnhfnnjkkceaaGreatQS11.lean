/- For the statement of the row : what its proof needs of the text S11. -/
import Derived.Test.YtcbnhfnnjkkceaaGreatRows
import Derived.WalkKit
import Derived.ProofKit
import Derived.OpenShut
import Derived.ShutString
import Derived.ChangeOld
import Derived.Below
import Derived.SizedLaws
import Derived.Test.YtcbnhfnnjkkceaaGreatQS1
import Derived.Test.YtcbnhfnnjkkceaaGreatQS2
import Derived.Test.YtcbnhfnnjkkceaaGreatQS3
import Derived.Test.YtcbnhfnnjkkceaaGreatQS4
import Derived.Test.YtcbnhfnnjkkceaaGreatQS5
import Derived.Test.YtcbnhfnnjkkceaaGreatQS7
import Derived.Test.YtcbnhfnnjkkceaaGreatQS8
import Derived.Test.YtcbnhfnnjkkceaaGreatQS9
import Derived.Test.YtcbnhfnnjkkceaaGreatQS10
set_option maxHeartbeats 8000000
set_option maxRecDepth 100000
set_option linter.unusedSimpArgs false
set_option linter.unusedVariables false

section
namespace Go.Proofs.YtcbnhfnnjkkceaaGreat.X
open Go.RowKit Go.Proofs.YtcbnhfnnjkkceaaGreatW.PrintWords Go.Proofs.YtcbnhfnnjkkceaaGreatW.PrintLast Go.Proofs.YtcbnhfnnjkkceaaGreatW.PrintMore
attribute [local go_sem] z1y z1z z2c z2d z1t z1s z21 z20
def z1c.l0:Nat→Int→List Int→Int→Int→Option (List Int)
 | 0,_,_,_,_=>none
 | k+1,x1,x5,x10,x11=>if x11 < x10 then (if 0≤x11 then (if x11 < (x5.length:Int) then (z1c.l0 k x1 (x5.set (x11:Int).toNat x1) x10 (wrap64 (x11+1))) else (none)) else (none)) else (some x5)
def z1c.f (k:Nat) (a0:Int) (a1:Int):Option (List Int):=if 0≤a0 then (if (a0:Int).toNat≤35184372088832 then ((some (List.replicate (a0:Int).toNat 0:List Int)).bind fun y277=>(z1c.l0 k a1 y277 (y277.length:Int) 0)) else (none)) else (none)
theorem z1c.mono_l:∀ k,(∀ y0 y1 y2 y3,LeO (z1c.l0 k y0 y1 y2 y3) (z1c.l0 (k+1) y0 y1 y2 y3))
 | 0=>fun _ _ _ _ r h=>by simp [z1c.l0] at h
 | k+1=>by
  have ih0:=z1c.mono_l k
  ·intro y0 y1 y2 y3;unfold z1c.l0
   repeat' first|exact ih0 _ _ _ _|exact LeO.none _|refine LeO.ite ?_ ?_|refine LeO.bind ?_ (fun _=>?_)|exact LeO.refl _
theorem z1c.mono:∀ a0 a1 k,LeO (z1c.f k a0 a1) (z1c.f (k+1) a0 a1):=by
 intro a0 a1 k;have ih0:=z1c.mono_l k;unfold z1c.f
 repeat' first|exact ih0 _ _ _ _|exact LeO.none _|refine LeO.ite ?_ ?_|refine LeO.bind ?_ (fun _=>?_)|exact LeO.refl _
theorem z1c.calls (k:Nat) (a0:Int) (a1:Int) (r:List Int) (w:World) (h:z1c.f k a0 a1=some r) :
  Calls Tryz.prog 89 #[.int .i64 a0,.int .i64 a1] w fun e w'=>∃ v0_:Value,e=.returned (v0_)∧Kd.R (Kd.int .i64) 3 w' w.heap.size (fun _=>True) v0_ r∧Below w.heap.size w w':=by
 have HB:=Aside0.mk (Below.refl w.heap.size w);have H:(if 0≤a0 then (if (a0:Int).toNat≤35184372088832 then ((some (List.replicate (a0:Int).toNat 0:List Int)).bind fun y277=>(z1c.l0 k a1 y277 (y277.length:Int) 0)) else (none)) else (none))=some r:=h;clear h
 by_cases c3:0≤a0
 ·rw [if_pos c3] at H;have c3b0:=eq_true c3;have c3b1:decide (0≤a0)=true:=decide_eq_true c3;clear c3
  by_cases c4:(a0:Int).toNat≤35184372088832
  ·rw [if_pos c4] at H;have c4b0:=eq_true c4;have c4b1:decide ((a0:Int).toNat≤35184372088832)=true:=decide_eq_true c4;clear c4;obtain ⟨y277,hy277⟩:∃ y_:List Int,y_=(List.replicate (a0:Int).toNat 0):=⟨_,rfl⟩;replace H:(z1c.l0 k a1 y277 (y277.length:Int) 0)=some r:=by first|(rw [hy277];with_reducible exact H)|(have H2_:=(Option.bind_some _ _).symm.trans H;rw [hy277];with_reducible exact H2_)|(have H2_:=(Option.bind_some _ _).symm.trans H;with_reducible exact H2_)|with_reducible exact H|(rw [hy277];exact H)|exact H
   have Ny277:=Aside0.mk hy277;clear hy277;have H':=Aside0.mk H;clear H
   go_enter Tryz.func89,Tryz.ntmps89
   go_wp2_with (first|((with_reducible refine z14 (N:=8) rfl ?_);refine Kd.R_make (Kd.int .i64) _ 3 rfl (N:=8) rfl 23 _ _ rfl a0 rfl rfl Tryz.underlying23 (.int .i64 0) 8 info3 rfl (by decide) (by omega) 0 (ok:=fun _=>True) (okp:=fun _=>True) rfl (fun _ hk=>hk) trivial (of_decide_eq_true (by assumption)) (Nat.le_trans (Nat.mul_le_mul_right _ (of_decide_eq_true (by assumption):a0.toNat≤35184372088832)) (by omega)) (Below.refl _ _) (Nat.le_refl _) ?_;intro v278 w5 ho6 hb hg_ hnew_;clear hg_ hnew_;(first|rw [← Ny277.out] at ho6|(simp only [Int.reduceToNat] at ho6;rw [← Ny277.out] at ho6));have n0_:=Aside0.mk (Kd.R_lower ho6 (z0m (by repeat (first|exact HB.out|apply z04|apply z03|apply z05))));have n1_:=Aside0.mk (z0s (by repeat (first|exact HB.out|apply z04|apply z03|apply z05)) hb);clear HB;have HO279:=n0_;have HB:=n1_;clear n0_ n1_;clear hb ho6;obtain ⟨Ao7,co7,eo7⟩:=Kd.R_slice HO279.out;subst eo7))
   go_loopg [11] k (fun kq v11 w'=>∃ (x5_1:List Int) (x11_1:Int),v11=.int .i64 x11_1∧Aside0 (z1c.l0 kq a1 x5_1 (y277.length:Int) x11_1=some r)∧Aside0 (kq≤k)∧Aside0 (Kd.R (Kd.int .i64) 3 w' w.heap.size (fun _=>True) (.slice Ao7 y277.length co7) x5_1)∧Aside0 (Below w.heap.size w w'))
   case atStart=>exact ⟨(y277),(0),(by first|rfl|(simp;done)|(simp [*];done)),H',⟨Nat.le_refl _⟩,⟨by (with_reducible repeat (first|apply Kd.R_alloc|apply Kd.R_drewN|apply Kd.R_drew));exact HO279.out⟩,⟨by repeat (first|exact HB.out|apply z04|apply z03|apply z05)⟩⟩
   case round =>
    clear H';obtain ⟨x5_1,x11_1,rfl,HA,HK1,HO_5,HB⟩:=hrel;have hl5_1:=(Kd.R_reads' HO_5.out).1;rw [hl5_1] at HO_5
    (try simp only [hl5_1])
    cases gk with
    | zero=>exact absurd HA.out (by simp [z1c.l0])
    | succ k1 =>
     have H:=HA.out;clear HA;simp only [z1c.l0] at H
     by_cases c8:x11_1 < (y277.length:Int)
     ·rw [if_pos c8] at H;have c8b0:decide (x11_1 < (y277.length:Int))=true:=decide_eq_true c8;clear c8
      by_cases c9:0≤x11_1
      ·rw [if_pos c9] at H;have c9b0:decide (0≤x11_1)=true:=decide_eq_true c9;clear c9
       by_cases c10:x11_1 < (x5_1.length:Int)
       ·rw [if_pos c10] at H;have c10b0:decide (x11_1 < (x5_1.length:Int))=true:=decide_eq_true c10;clear c10;obtain ⟨y280,hy280⟩:∃ y_:List Int,y_=(x5_1.set (x11_1:Int).toNat a1):=⟨_,rfl⟩;replace H:(z1c.l0 k1 a1 y280 (y277.length:Int) (wrap64 (x11_1+1)))=some r:=by first|(rw [hy280];with_reducible exact H)|(have H2_:=(Option.bind_some _ _).symm.trans H;rw [hy280];with_reducible exact H2_)|(have H2_:=(Option.bind_some _ _).symm.trans H;with_reducible exact H2_)|with_reducible exact H|(rw [hy280];exact H)|exact H
        have Ny280:=Aside0.mk hy280;clear hy280;have H':=Aside0.mk H;clear H;have p11:0≤(x11_1:Int):=of_decide_eq_true (by assumption);have q11:(x11_1:Int) < ((x5_1.length:Int):Int):=of_decide_eq_true (by assumption);obtain ⟨go11,co11,eo11,gb11,gl11,cl11,HG11⟩:=Kd.R_form HO_5.out (by omega)
        (first|cases eo11|(injection eo11 with ea_ en_ ec_;(first|subst ea_|(injection ea_ with ea_;subst ea_));subst ec_;clear en_))
        have GB11:=Aside0.mk gb11;have GG11:=Aside0.mk HG11;clear gb11 gl11 HG11;obtain ⟨hx11_0,hf11_0⟩:=Kd.R_celln 0 HO_5.out (x11_1:Int) p11 q11;replace p11:=eq_true p11;replace q11:=eq_true q11;have HP12:=Kd.R_putg HO_5.out (x11_1:Int) a1
        go_wp2_with (first|((with_reducible refine gate_store (t:=3) (p:=17) rfl ?_);refine store_event (t:=3) (p:=17) (v:=?vo_w13) (w1:=(wr.setCell ⟨go11,(x11_1:Int).toNat,none⟩ (.int .i64 a1))) ?hg ?ho ?hn ?hr ?_;(case ho=>rfl);(case hg=>rfl);(case hn=>rfl);(case hr=>first|(go_simp;done)|(go_simp;rfl));intro w13 hw;have hg:wr.grownBy w13 (some go11):=(by rw [hw];exact HP12.2);have hp_:Kd.R (Kd.int .i64) 3 w13 w.heap.size (fun _=>True) (.slice (some ⟨go11,0,none⟩) x5_1.length co7) y280:=(by rw [hw,Ny280.out];exact HP12.1);clear HP12;have n0_:=Aside0.mk (hp_);have n1_:=Aside0.mk ((by rw [hw];exact z07 (HB.out) GB11.out:Below w.heap.size w w13));clear HO_5;clear HB;have HO_5:=n0_;have HB:=n1_;clear n0_ n1_;clear hg hw hp_))
        (try simp only [← hl5_1])
        go_roundg k1
        case measure=>have:=HK1.out;omega
        case rel=>exact ⟨(y280),(wrap64 (x11_1+1)),(by first|rfl|(simp;done)|(simp [*];done)),H',⟨by have:=HK1.out;omega⟩,⟨by (try simp only [hl5_1]);(with_reducible repeat (first|apply Kd.R_alloc|apply Kd.R_drewN|apply Kd.R_drew));exact HO_5.out⟩,⟨by repeat (first|exact HB.out|apply z04|apply z03|apply z05)⟩⟩
       ·rw [if_neg c10] at H;exact absurd H (by simp)
      ·rw [if_neg c9] at H;exact absurd H (by simp)
     ·rw [if_neg c8] at H;have c8b0:decide (x11_1 < (y277.length:Int))=false:=decide_eq_false c8;have c8b0z:decide (x11_1 < (x5_1.length:Int))=false:=by first|(rw [← hl5_1];exact c8b0)|(rw [hl5_1];exact c8b0)
      clear c8;obtain rfl:=Option.some.inj H;go_wp2;go_ret
      exact ⟨_,by first|rfl|(simp [z0j,z0i] <;> rfl)|(simp [*,z0j,z0i] <;> rfl),by (with_reducible repeat (first|apply Kd.R_alloc|apply Kd.R_drewN|apply Kd.R_drew));exact HO_5.out,by repeat (first|exact HB.out|apply z04|apply z03|apply z05)⟩
  ·rw [if_neg c4] at H;exact absurd H (by simp)
 ·rw [if_neg c3] at H;exact absurd H (by simp)
def z1j.f (k:Nat) (a0_0:Int) (a0_1:Int) (a0_2:Int) (l0_3:List Int) (l0_4:List Int) (l0_5:List (S79)):Option (Bool):=(z0b.f k a0_0 a0_1 a0_2 l0_3 l0_4 l0_5).bind fun t282=>(some (t282 == 0))
theorem z1j.mono:∀ a0 a1 a2 a3 a4 a5 k,LeO (z1j.f k a0 a1 a2 a3 a4 a5) (z1j.f (k+1) a0 a1 a2 a3 a4 a5):=by
 intro a0 a1 a2 a3 a4 a5 k;unfold z1j.f
 repeat' first|exact z0b.mono _ _ _ _ _ _ _|exact LeO.none _|refine LeO.ite ?_ ?_|refine LeO.bind ?_ (fun _=>?_)|exact LeO.refl _
theorem z1j.calls (k:Nat) (a0_0:Int) (a0_1:Int) (a0_2:Int) (A0_3:Option Addr) (c0_3:Nat) (l0_3:List Int) (A0_4:Option Addr) (c0_4:Nat) (l0_4:List Int) (A0_5:Option Addr) (c0_5:Nat) (l0_5:List (S79)) (r:Bool) (w:World) (hr0_3:Kd.C (Kd.int .u8) w A0_3 l0_3.length l0_3) (hc0_3:l0_3.length≤c0_3) (hr0_4:Kd.C (Kd.int .i64) w A0_4 l0_4.length l0_4) (hc0_4:l0_4.length≤c0_4) (hr0_5:Kd.C k79 w A0_5 l0_5.length l0_5) (hc0_5:l0_5.length≤c0_5) (h:z1j.f k a0_0 a0_1 a0_2 l0_3 l0_4 l0_5=some r) :
  Calls Tryz.prog 30 #[.agg #[.int .i64 a0_0,.int .i64 a0_1,.int .i64 a0_2,.slice A0_3 l0_3.length c0_3,.slice A0_4 l0_4.length c0_4,.slice A0_5 l0_5.length c0_5]] w fun e w'=>e=.returned (.bool r)∧Below w.heap.size w w':=by
 have hu26:=Tryz.underlying26;have HR0_3:=Aside0.mk hr0_3;have HC0_3:=Aside0.mk hc0_3;clear hr0_3 hc0_3;have HR0_4:=Aside0.mk hr0_4;have HC0_4:=Aside0.mk hc0_4;clear hr0_4 hc0_4;have HR0_5:=Aside0.mk hr0_5;have HC0_5:=Aside0.mk hc0_5;clear hr0_5 hc0_5;have HB:=Aside0.mk (Below.refl w.heap.size w);have H:((z0b.f k a0_0 a0_1 a0_2 l0_3 l0_4 l0_5).bind fun t282=>(some (t282 == 0)))=some r:=h;clear h;replace H:=Option.bind_eq_some_iff.mp H;obtain ⟨t282,A20,H⟩:=H;skip;have A2:=Aside0.mk A20;clear A20;obtain rfl:=Option.some.inj H
 go_enter Tryz.func30,Tryz.ntmps30
 go_wp2_with (first|((with_reducible refine z14 (N:=1) rfl ?_);refine z1b ?hg (N:=1) ?hd (cs:=#[.int .i64 a0_0,.int .i64 a0_1,.int .i64 a0_2,.slice A0_3 l0_3.length c0_3,.slice A0_4 l0_4.length c0_4,.slice A0_5 l0_5.length c0_5]) (t:=26) ?hr ?_;(case hd=>rfl);(case hg=>rfl);(case hr=>first|(go_simp;done)|(go_simp;rfl));intro gb281 hg w3 hbox hb;have n0_:=Aside0.mk (z0s (by repeat (first|exact HB.out|apply z04|apply z03|apply z05)) hb);have n1_:=Aside0.mk (hbox);have n2_:=Aside0.mk ((by rw [hg];exact (z0m (by repeat (first|exact HB.out|apply z04|apply z03|apply z05))):w.heap.size≤gb281));have n3_:=Aside0.mk ((by rw [hg];exact (z0m (by repeat (first|exact HB.out|apply z04|apply z03|apply z05))):w.heap.size≤gb281));clear HB;have HB:=n0_;have BK281:=n1_;have GW281:=n2_;have GE281:=n3_;clear n0_ n1_ n2_ n3_;clear hb hbox hg;have hcz4_0:w3.cell? ⟨gb281,0,none⟩=some (.int .i64 a0_0):=(z01 BK281.out 0).trans rfl;have hcz4_1:w3.cell? ⟨gb281,1,none⟩=some (.int .i64 a0_1):=(z01 BK281.out 1).trans rfl;have hcz4_2:w3.cell? ⟨gb281,2,none⟩=some (.int .i64 a0_2):=(z01 BK281.out 2).trans rfl;have hcz4_3:w3.cell? ⟨gb281,3,none⟩=some (.slice A0_3 l0_3.length c0_3):=(z01 BK281.out 3).trans rfl;have hcz4_4:w3.cell? ⟨gb281,4,none⟩=some (.slice A0_4 l0_4.length c0_4):=(z01 BK281.out 4).trans rfl;have hcz4_5:w3.cell? ⟨gb281,5,none⟩=some (.slice A0_5 l0_5.length c0_5):=(z01 BK281.out 5).trans rfl;have hfz4_0:=z02 BK281.out 0;have hfz4_1:=z02 BK281.out 1;have hfz4_2:=z02 BK281.out 2;have hfz4_3:=z02 BK281.out 3;have hfz4_4:=z02 BK281.out 4;have hfz4_5:=z02 BK281.out 5)|((with_reducible refine z0u (f:=16) rfl ?_);refine z16 (some 4) rfl rfl Tryz.func16 (by kernel_rfl) rfl #[.agg #[.int .i64 a0_0,.int .i64 a0_1,.int .i64 a0_2,.slice A0_3 l0_3.length c0_3,.slice A0_4 l0_4.length c0_4,.slice A0_5 l0_5.length c0_5]] rfl (by (try simp only [List.map_toArray,List.map_cons,List.map_nil]);first|done|rfl) ?_;(with_reducible refine (z0b.calls k a0_0 a0_1 a0_2 _ _ l0_3 _ _ l0_4 _ _ l0_5 t282 _ ?side1 ?side2 ?side3 ?side4 ?side5 ?side6 A2.out).mono ?_);(case side1=>repeat (first|exact (Kd.C_below HR0_3.out HB.out)|(with_reducible refine Kd.C_alloc ?_ _)|(with_reducible refine Kd.C_drewN ?_ _)|(with_reducible refine Kd.C_drew ?_)));(case side2=>exact HC0_3.out);(case side3=>repeat (first|exact (Kd.C_below HR0_4.out HB.out)|(with_reducible refine Kd.C_alloc ?_ _)|(with_reducible refine Kd.C_drewN ?_ _)|(with_reducible refine Kd.C_drew ?_)));(case side4=>exact HC0_4.out);(case side5=>repeat (first|exact (Kd.C_below HR0_5.out HB.out)|(with_reducible refine Kd.C_alloc ?_ _)|(with_reducible refine Kd.C_drewN ?_ _)|(with_reducible refine Kd.C_drew ?_)));(case side6=>exact HC0_5.out);rintro e w5 ⟨rfl,hb⟩;refine ⟨_,rfl,?_⟩;have n0_:=Aside0.mk (z0t (g:=gb281) (o:=.cells #[.int .i64 a0_0,.int .i64 a0_1,.int .i64 a0_2,.slice A0_3 l0_3.length c0_3,.slice A0_4 l0_4.length c0_4,.slice A0_5 l0_5.length c0_5] 26 (0,0)) (by (with_reducible repeat (first|refine z08 ?_ _|refine z09 ?_|refine z06 ?_ _));exact BK281.out) hb);have n1_:=Aside0.mk (z0s (by repeat (first|(with_reducible first|exact HB.out|apply z04|apply z03|apply z05|refine z07 ?_ GE281.out)|exact HB.out)) hb);clear BK281;clear HB;have BK281:=n0_;have HB:=n1_;clear n0_ n1_;(try clear hb);(try clear hb2);(try clear hk);(try clear hi)))
 go_ret
 exact ⟨by first|rfl|(simp [z0j,z0i] <;> rfl)|(simp [*,z0j,z0i] <;> rfl),by repeat (first|(with_reducible first|exact HB.out|apply z04|apply z03|apply z05|refine z07 ?_ GE281.out)|exact HB.out)⟩
end Go.Proofs.YtcbnhfnnjkkceaaGreat.X
end
section
namespace Go.Proofs.YtcbnhfnnjkkceaaGreat.X
open Go.RowKit Go.Proofs.YtcbnhfnnjkkceaaGreatW.PrintWords Go.Proofs.YtcbnhfnnjkkceaaGreatW.PrintLast Go.Proofs.YtcbnhfnnjkkceaaGreatW.PrintMore Go.Proofs.YtcbnhfnnjkkceaaGreat.Gr
def QOk (n0 bo bw ob:Nat) (X:Nat→Prop) (i:Nat):Prop:=n0≤i∧i≠bo∧i≠bw∧i≠ob∧¬ X i
structure Spr (w:World) (n0 bo bw ob cap:Nat) (X:Nat→Prop) (out work:List Int):Prop where
 outBox:w.heap[bo]?=some (.cells #[.slice (some ⟨ob,0,none⟩) out.length cap] 23 (0,0))
 wkBox:∃ v,w.heap[bw]?=some (.cells #[v] 23 (0,0))∧Que w (QOk n0 bo bw ob X) v work
 row:Kd.R (Kd.int .i64) 3 w n0 (fun k=>k=ob) (.slice (some ⟨ob,0,none⟩) out.length cap) out
 ne:bo≠bw
 lo:n0≤bo∧n0≤bw
 nX:¬ X bw∧¬ X ob
section
variable {w w':World} {n0 bo bw ob cap:Nat} {X:Nat→Prop} {out work:List Int}
theorem Spr.obT (h:Spr w n0 bo bw ob cap X out work):∃ c,w.heap[ob]?=some (.cells c 3 (0,0)):=Kd.R_typed h.row ob rfl
theorem Spr.ob_bo (h:Spr w n0 bo bw ob cap X out work):ob≠bo:=fun e=>by
 obtain ⟨c,hc⟩:=h.obT;rw [e,h.outBox] at hc;injection hc with hc
 injection hc with _ hc
 exact absurd hc (by decide)
theorem Spr.ob_bw (h:Spr w n0 bo bw ob cap X out work):ob≠bw:=fun e=>by
 obtain ⟨c,hc⟩:=h.obT;obtain ⟨v,hv,_⟩:=h.wkBox;rw [e,hv] at hc;injection hc with hc
 injection hc with _ hc
 exact absurd hc (by decide)
theorem Spr.obLo (h:Spr w n0 bo bw ob cap X out work):n0≤ob:=Kd.R_base h.row ob rfl
theorem Spr.fr {S:Nat→Prop} (h:Spr w n0 bo bw ob cap X out work) (hf:Fr w w' S) (hS:∀ i,n0≤i→¬ S i):Spr w' n0 bo bw ob cap X out work:=by
 obtain ⟨v,hv,hq⟩:=h.wkBox;exact ⟨(hf.block bo (z0v h.outBox) (hS bo h.lo.1)).trans h.outBox,⟨v,(hf.block bw (z0v hv) (hS bw h.lo.2)).trans hv,hq.fr hf fun i hi=>hS i hi.1⟩,
  Kd.R_step h.row (fun k hk hlt=>hf.block k hlt (hS k (by rw [hk];exact h.obLo))),h.ne,h.lo,h.nX⟩
theorem Spr.below (h:Spr w n0 bo bw ob cap X out work) (hb:Below w.heap.size w w'):Spr w' n0 bo bw ob cap X out work:=by
 obtain ⟨v,hv,hq⟩:=h.wkBox;exact ⟨(hb.block bo (z0v h.outBox)).trans h.outBox,⟨v,(hb.block bw (z0v hv)).trans hv,hq.below hb⟩,Kd.R_below h.row hb,h.ne,h.lo,h.nX⟩
theorem Spr.mono {X':Nat→Prop} (h:Spr w n0 bo bw ob cap X out work) (hk:∀ i,i < w.heap.size→QOk n0 bo bw ob X i→¬ X' i) (h1:¬ X' bw) (h2:¬ X' ob):Spr w n0 bo bw ob cap X' out work:=by
 obtain ⟨v,hv,hq⟩:=h.wkBox;exact ⟨h.outBox,⟨v,hv,hq.mono fun i hi hok=>⟨hok.1,hok.2.1,hok.2.2.1,hok.2.2.2.1,hk i hi hok⟩⟩,h.row,h.ne,h.lo,h1,h2⟩
end
def ReachPost (w:World) (n0 bo bw ob cap:Nat) (X:Nat→Prop) (out work:List Int) (e:Ending) (w':World):Prop :=
 e=.returned (.tuple #[])∧Spr w' n0 bo bw ob cap X out work∧Fr w w' (fun i=>n0≤i∧¬ X i)
set_option maxHeartbeats 4000000 in
theorem z3b {w:World} {n0 bo bw ob cap:Nat} {X:Nat→Prop} {out work:List Int} (h:Spr w n0 bo bw ob cap X out work) (hn0:n0≤w.heap.size) (hX:∀ i,w.heap.size≤i→¬ X i) {t s:Int} (ht:0≤t∧t < out.length) (hl:work.length < 1000000) :
  Calls Tryz.prog 90 #[.int .i64 t,.int .i64 s,.pointer (some ⟨bo,0,none⟩),.pointer (some ⟨bw,0,none⟩)] w
   (ReachPost w n0 bo bw ob cap X (if rd out t < 0 then out.set t.toNat s else out) (if rd out t < 0 then work ++ [t] else work)):=by
 obtain ⟨hx0,hfz⟩:=Kd.R_celln 0 h.row t ht.1 ht.2;obtain ⟨z,hz⟩:∃ z,rd out t=z:=⟨_,rfl⟩;have hx:w.cell? ⟨ob,t.toNat,none⟩=some (.int .i64 z):=by rw [← hz];exact hx0
 rw [hz];clear hz hx0;have c1:=cell_of_one h.outBox;have hq0:(0≤t)=True:=eq_true ht.1;have hq1:(t < (out.length:Int))=True:=eq_true ht.2;have HT:=Aside0.mk ht;have HL:=Aside0.mk hl;have HN:=Aside0.mk hn0;have HS:=Aside0.mk h
 by_cases hc:z < 0
 ·have hd:decide (z < 0)=true:=decide_eq_true hc;rw [if_pos hc,if_pos hc];obtain ⟨v,hv,hq⟩:=h.wkBox;have f1:=free_of_one hv;have c2:=cell_of_one hv;have hbo:=h.ob_bo;have hbw:=h.ob_bw;have hput:=Kd.R_putg h.row t s;have hw1:Aside0 (Spr (w.setCell ⟨ob,t.toNat,none⟩ (.int .i64 s)) n0 bo bw ob cap X (out.set t.toNat s) work):=⟨⟨by
    rw [List.length_set];exact ((z1k w ⟨ob,t.toNat,none⟩ (.int .i64 s)).block bo (z0v h.outBox) (fun e=>hbo e.symm)).trans h.outBox,⟨v,((z1k w ⟨ob,t.toNat,none⟩ (.int .i64 s)).block bw (z0v hv) (fun e=>hbw e.symm)).trans hv,hq.fr (z1k w ⟨ob,t.toNat,none⟩ (.int .i64 s)) fun i hi e=>hi.2.2.2.1 e⟩,
    by rw [List.length_set];exact hput.1,h.ne,h.lo,h.nX⟩⟩
  have hf1:Aside0 (Fr w (w.setCell ⟨ob,t.toNat,none⟩ (.int .i64 s)) (fun i=>n0≤i∧¬ X i)):=⟨(z1k w ⟨ob,t.toNat,none⟩ (.int .i64 s)).mono fun i _ e=>by rw [e];exact ⟨h.obLo,h.nX.2⟩⟩;have hsz:Aside0 (n0≤(w.setCell ⟨ob,t.toNat,none⟩ (.int .i64 s)).heap.size):=⟨Nat.le_trans hn0 hf1.out.size⟩;have hXX:=Aside0.mk hX;have hsw:Aside0 (w.heap.size≤(w.setCell ⟨ob,t.toNat,none⟩ (.int .i64 s)).heap.size):=⟨hf1.out.size⟩;clear hc hv hq h hput ht hl hn0 hX hbo hbw c2 f1
  go_enter Tryz.func90,Tryz.ntmps90
  go_upto_region 2 with (fail)
  generalize w.setCell ⟨ob,t.toNat,none⟩ (.int .i64 s)=w1 at hw1 hf1 hsz hsw ⊢;obtain ⟨v1,hv1,hq1_⟩:=hw1.out.wkBox;have c2:=cell_of_one hv1;have HQ:=Aside0.mk hq1_;have HV1:=Aside0.mk hv1;obtain ⟨av,cv,rfl,_⟩:=hq1_.slice;clear hv1 hq1_ c1 hx hfz;have hsa:w1.heap.size≤(w1.alloc (.cells #[.int .i64 t] 3)).heap.size:=(z1f w1 (.cells #[.int .i64 t] 3) (fun _=>False)).size;have HQA:Aside0 (Que (w1.alloc (.cells #[.int .i64 t] 3)) (QOk n0 bo bw ob X) (.slice av work.length cv) work):=⟨HQ.out.fr (z1f w1 (.cells #[.int .i64 t] 3) (fun _=>False)) fun _ _ e=>e⟩;have HOK:Aside0 (∀ g,(w1.alloc (.cells #[.int .i64 t] 3)).heap.size≤g→QOk n0 bo bw ob X g):=⟨fun g hg=>by
   have h1:=hsz.out;have h2:=hsw.out;have h3:=z0v hw1.out.outBox;have h4:=z0v HV1.out;obtain ⟨c,hc⟩:=hw1.out.obT;have h5:=z0v hc;exact ⟨by omega,by omega,by omega,by omega,hXX.out g (by omega)⟩⟩
  have HCA:Aside0 ((w1.alloc (.cells #[.int .i64 t] 3)).cell? ⟨w1.heap.size,0,none⟩=some (.int .i64 t)):=⟨(World.cell?_alloc_new w1 _ _ 0).trans rfl⟩;have HBA:Aside0 ((w1.alloc (.cells #[.int .i64 t] 3)).heap[bw]?=some (.cells #[.slice av work.length cv] 23 (0,0))):=⟨(Below.heap_alloc w1 _ bw (z0v HV1.out)).trans HV1.out⟩;have HFA:Aside0 (Fr w1 (w1.alloc (.cells #[.int .i64 t] 3)) (fun i=>QOk n0 bo bw ob X i)):=⟨z1f w1 _ _⟩;clear hsa
  go_wp2_with (at_builtin;refine wpList_append_que rfl _ _ rfl ⟨w1.heap.size,0,none⟩ 1 t rfl rfl HQA.out HOK.out HCA.out HL.out ?_;intro v2 w2 hq2 hf2;obtain ⟨a2,k2,rfl,hk2⟩:=hq2.slice;have HQ2:=Aside0.mk hq2;have HF2:=Aside0.mk (HFA.out.trans hf2);have HB2:=Aside0.mk ((hf2.block bw (z0v HBA.out) (fun e=>e.2.2.1 rfl)).trans HBA.out);have c3:=cell_of_one HB2.out;have f3:=free_of_one HB2.out;clear hq2 hf2 hk2)
  go_end0
  have HF2a:=HF2.out;rw [show work.length+1=(work ++ [t]).length by simp];have hfs:=z1k w2 ⟨bw,0,none⟩ (.slice a2 (work ++ [t]).length k2);obtain ⟨cc,hcc⟩:=hw1.out.obT;have hob:=hw1.out.ob_bw;have hlo:=hw1.out.lo;refine ⟨rfl,⟨?_,⟨_,one_setCell HB2.out,HQ2.out.fr hfs fun i hi e=>hi.2.2.1 e⟩,?_,hw1.out.ne,hlo,hw1.out.nX⟩,?_⟩
  ·exact (hfs.block bo (Nat.lt_of_lt_of_le (z0v hw1.out.outBox) HF2a.size) hw1.out.ne).trans ((HF2a.block bo (z0v hw1.out.outBox) fun e=>e.2.1 rfl).trans hw1.out.outBox)
  ·exact Kd.R_step hw1.out.row (fun k hk hlt=>(hfs.block k (Nat.lt_of_lt_of_le hlt HF2a.size) (by rw [hk];exact hob)).trans (HF2a.block k hlt fun e=>e.2.2.2.1 hk))
  ·exact hf1.out.trans ((HF2a.mono fun i _ hi=>⟨hi.1,hi.2.2.2.2⟩).trans (hfs.mono fun i _ e=>by rw [e];exact ⟨hlo.2,hw1.out.nX.1⟩))
 ·have hd:decide (z < 0)=false:=decide_eq_false hc;rw [if_neg hc,if_neg hc];clear hc h ht hl hn0 hX
  go_enter Tryz.func90,Tryz.ntmps90
  go_wp2_with fail
  go_end0
  exact ⟨rfl,HS.out,Fr.refl _ _⟩
end Go.Proofs.YtcbnhfnnjkkceaaGreat.X
end
section
namespace Go.Proofs.YtcbnhfnnjkkceaaGreat.X
open Go.RowKit Go.Proofs.YtcbnhfnnjkkceaaGreatW.PrintWords Go.Proofs.YtcbnhfnnjkkceaaGreat.Gr
def z2r (p:Im):Prop:=rd p.f4 ((p.f4.length:Int) - 1) < p.f5.length
theorem fun_in {p:Im} (hs:z2m p) (hl:z2r p) {f:Int} (h0:0≤f) (h1:f < p.f4.length):rd p.f4 f < p.f5.length:=by
 have h:=hs.mono (p.f4.length - 1 - f.toNat) f.toNat (by omega);unfold z2r at hl;rw [show ((f.toNat:Nat):Int)=f by omega,show ((f.toNat+(p.f4.length - 1 - f.toNat):Nat):Int)=(p.f4.length:Int) - 1 by omega] at h;omega
theorem hi_in {p:Im} (hs:z2m p) (hl:z2r p) {f:Int} (h0:0≤f):hiP p.f4 p.f5.length f≤p.f5.length:=by
 unfold hiP
 split
 ·rename_i h
  exact Int.le_of_lt (fun_in hs hl (by omega) h)
 ·exact Int.le_refl _
theorem next_in {p:Im} (hw:wfP p) (h:encV p=0) (hl:z2r p) {v:Int} (hv:0≤v∧v < p.f5.length):∀ u ∈ nextL p v,0≤u∧u < p.f5.length:=by
 intro u hu;obtain ⟨hs,hp,hst⟩:=z2p.1 h;have hf:=hs.fits hw.1;have goes:∀ x:Int,0≤x→x < p.f5.length→goesB (z0a p.f5 x).f0=true→x+1 < p.f5.length:=fun x hx0 hx1 hg=>by
  have:=hst x (z2h.2 ⟨hx0,hx1⟩);unfold z2q z2t at this;rw [Bool.or_eq_false_iff,hg,Bool.true_and] at this;have h2:=this.1;simp only [decide_eq_false_iff_not] at h2;have:=hi_in hs hl (z36 hf hx0 hx1).1;omega
 have jumps:(z0a p.f5 v).f0=21∨(z0a p.f5 v).f0=22→0≤(z0a p.f5 v).f4∧(z0a p.f5 v).f4 < p.f5.length:=fun ho=>by
  have:=hst v (z2h.2 hv);unfold z2q z2t at this;rw [Bool.or_eq_false_iff] at this;have h2:=this.2;rw [if_pos ho] at h2;simp only [Bool.or_eq_false_iff,decide_eq_false_iff_not] at h2;have hfp:=z36 hf hv.1 hv.2;have hlo:=z34 hf hfp.1 hfp.2;have hhi:=hi_in hs hl hfp.1;unfold loP at h2;omega
 have hu:=(mem_uniq u _).1 hu;unfold outL at hu;rw [if_pos hv] at hu;simp only at hu
 by_cases h21:(z0a p.f5 v).f0=21
 ·rw [if_pos h21] at hu;have:u=(z0a p.f5 v).f4:=by simpa using hu
  have:=jumps (.inl h21);omega
 rw [if_neg h21] at hu
 by_cases h22:(z0a p.f5 v).f0=22
 ·rw [if_pos h22] at hu;have hj:=jumps (.inr h22);have hg:=goes v hv.1 hv.2 (by rw [h22];rfl);have:u=(z0a p.f5 v).f4∨u=v+1:=by simpa using hu
  omega
 rw [if_neg h22] at hu
 by_cases h23:(z0a p.f5 v).f0=23
 ·rw [if_pos h23] at hu;have hc:=(encV_rt hw h).cal v hv.1 hv.2 h23;have hc:0≤(z0a p.f5 v).f4∧(z0a p.f5 v).f4 < p.f4.length:=hc;have:u=rd p.f4 (z0a p.f5 v).f4:=by simpa using hu
  have h1:=z34 hf hc.1 hc.2;have h2:=fun_in hs hl hc.1 hc.2;omega
 rw [if_neg h23] at hu
 by_cases h24:(z0a p.f5 v).f0=24
 ·rw [if_pos h24] at hu;obtain ⟨z,hz,rfl⟩:=List.mem_map.1 hu;obtain ⟨h0,h1,h2,_⟩:=z39.1 hz;have h2:(z0a p.f5 z).f0=23:=h2;have:=goes z h0 h1 (by rw [h2];rfl);omega
 rw [if_neg h24] at hu
 by_cases hg:goesB (z0a p.f5 v).f0=true
 ·rw [if_pos hg] at hu;have:=goes v hv.1 hv.2 hg;have:u=v+1:=by simpa using hu
  omega
 ·rw [if_neg hg] at hu;simp at hu
theorem mem_prev {p:Im} {v u:Int}:u ∈ prevL p v↔(0≤u∧u < p.f5.length)∧v ∈ nextL p u:=by
 unfold prevL nextL;rw [List.mem_filter,z2h,z2y,mem_uniq]
theorem prev_in {p:Im} {v:Int}:∀ u ∈ prevL p v,0≤u∧u < p.f5.length:=fun u hu=>(mem_prev.1 hu).1
end Go.Proofs.YtcbnhfnnjkkceaaGreat.X
end
section
namespace Go.Proofs.YtcbnhfnnjkkceaaGreat.X
open Go.RowKit Go.Proofs.YtcbnhfnnjkkceaaGreatW.PrintWords Go.Proofs.YtcbnhfnnjkkceaaGreatW.PrintLast Go.Proofs.YtcbnhfnnjkkceaaGreatW.PrintMore Go.Proofs.YtcbnhfnnjkkceaaGreat.Gr
theorem row_l0:∀ (d k:Nat) (x:Int) (l:List Int) (j:Nat),j+d=l.length→d < k→l.length < 1000000→z1c.l0 k x l (l.length:Int) j=some (l.take j ++ List.replicate d x)
 | 0,k,x,l,j,h,hk,hl=>by
  obtain ⟨k,rfl⟩:∃ i,k=i+1:=⟨k - 1,by omega⟩;rw [z1c.l0,if_neg (by omega),List.take_of_length_le (by omega)];simp
 | d+1,k,x,l,j,h,hk,hl=>by
  obtain ⟨k,rfl⟩:∃ i,k=i+1:=⟨k - 1,by omega⟩;rw [z1c.l0,if_pos (by omega),if_pos (by omega),if_pos (by omega),Int.toNat_natCast,show wrap64 ((j:Int)+1)=((j+1:Nat):Int) by unfold wrap64;omega];have:=row_l0 d k x (l.set j x) (j+1) (by rw [List.length_set];omega) (by omega) (by rw [List.length_set];exact hl);rw [List.length_set] at this;rw [this]
  congr 1
  rw [List.replicate_succ,List.take_add_one,List.getElem?_set_self (by omega),List.take_set_of_le (Nat.le_refl _)];simp
theorem row_f (n:Nat) (x:Int) (hn:n < 1000000):z1c.f (n+2) (n:Int) x=some (List.replicate n x):=by
 unfold z1c.f;rw [if_pos (by omega),if_pos (by omega),Option.bind_some,Int.toNat_natCast];have:=row_l0 n (n+2) x (List.replicate n 0) 0 (by simp) (by omega) (by simpa using hn);refine this.trans ?_;simp
theorem bfs_step {n:Nat} {nx:Int→List Int} {a c u dc:Int} {out work:List Int} (h:Bfs n nx a out (c :: work)) (hdc:rd out c=dc) (hm:u ∈ nx c) (hq:∀ v:Int,0≤v→v < n→rd out v+negs out≤n) :
  Bfs n nx a (if rd out u < 0 then out.set u.toNat (dc+1) else out) (c :: (if rd out u < 0 then work ++ [u] else work))∧rd (if rd out u < 0 then out.set u.toNat (dc+1) else out) c=dc ∧
   (∀ v:Int,0≤v→v < n→0≤rd out v→rd (if rd out u < 0 then out.set u.toNat (dc+1) else out) v=rd out v)∧0≤rd (if rd out u < 0 then out.set u.toNat (dc+1) else out) u ∧
   (∀ v:Int,0≤v→v < n→rd (if rd out u < 0 then out.set u.toNat (dc+1) else out) v+negs (if rd out u < 0 then out.set u.toNat (dc+1) else out)≤n) ∧
   2 * negs (if rd out u < 0 then out.set u.toNat (dc+1) else out)+(if rd out u < 0 then work ++ [u] else work).length≤2 * negs out+work.length:=by
 have hc:=h.inw c (by simp);have hu:=h.nxr c hc.1.1 hc.1.2 u hm
 by_cases hn:rd out u < 0
 ·rw [if_pos hn,if_pos hn];subst hdc;obtain ⟨h1,h2,h3⟩:=h.reach hu hm hn;have hul:0≤u∧u < out.length:=by rw [h.len];exact hu
  have hs:∀ v:Int,0≤v→rd (out.set u.toNat (rd out c+1)) v=if v=u then rd out c+1 else rd out v:=fun v h0=>rd_set hul h0
  have hng:=negs_set out u.toNat (rd out c+1) (by omega) (by rw [show ((u.toNat:Nat):Int)=u by omega];exact hn) (by omega);refine ⟨h1,h2,h3,by rw [hs u hu.1,if_pos rfl];omega,fun v h0 h4=>?_,by rw [List.length_append,List.length_singleton];omega⟩;rw [hs v h0];have:=hq c hc.1.1 hc.1.2;have:=hq v h0 h4
  split <;> omega
 ·rw [if_neg hn,if_neg hn];exact ⟨h,hdc,fun _ _ _ _=>rfl,by omega,hq,Nat.le_refl _⟩
theorem fr_new {a b c:World} {S T:Nat→Prop} (h:Fr a b S) (k:Fr b c T) (hT:∀ i,T i→a.heap.size≤i):Fr a c S :=
 ⟨k.os.trans h.os,k.tape.trans h.tape,k.output.trans h.output,Nat.le_trans h.size k.size,fun i hi hn=>(k.block i (Nat.lt_of_lt_of_le hi h.size) fun ht=>by have:=hT i ht;omega).trans (h.block i hi hn)⟩
theorem GrY.lt {w:World} {g B:Nat} {p:Im} {Y:Nat→Prop} (h:GrY w g B p Y):GrY w g B p (fun i=>Y i∧i < w.heap.size):=by
 obtain ⟨h0,dv,fv,cv,h1,h2,h3⟩:=h;have hg:∃ c,w.heap[g]?=some (.cells c 97 (0,0)):=by
  rcases h3 with h3|⟨bs,n,V,h3,_⟩
  ·exact ⟨_,h3⟩
  ·exact ⟨_,h3⟩
 obtain ⟨c,hc⟩:=hg;refine ⟨h0,dv,fv,cv,h1,fun k hk=>⟨h2 k hk,(h1.ne hc hk).1⟩,?_⟩
 rcases h3 with h3|⟨bs,n,V,h3,h4,h5,h6⟩
 ·exact .inl h3
 ·exact .inr ⟨bs,n,V,h3,h4,h5,fun i hi=>⟨h6 i hi,(h4.in_lt hi).2.1⟩⟩
theorem R_only {w:World} {b ob n cap:Nat} {l:List Int} (h:Kd.R (Kd.int .i64) 3 w b (fun _=>True) (.slice (some ⟨ob,0,none⟩) n cap) l):Kd.R (Kd.int .i64) 3 w b (fun k=>k=ob) (.slice (some ⟨ob,0,none⟩) n cap) l :=
 Kd.R_flat (fun h=>h) h fun k hk _=>by simpa [Value.ownBlock] using hk.symm
structure Sp (w wr:World) (g B n0 bo bw ob cap n:Nat) (p:Im) (nx:Int→List Int) (a:Int) (Y:Nat→Prop) (out work:List Int):Prop where
 spr:Spr wr n0 bo bw ob cap Y out work
 gr:GrY wr g B p Y
 lt:∀ i,Y i→i < wr.heap.size
 fr:Fr w wr (fun i=>i=g)
 q:∀ v:Int,0≤v→v < n→rd out v+negs out≤n
 z:rd out a=0
theorem Sp.next {w wr wz:World} {g B n0 bo bw ob cap n:Nat} {p:Im} {nx:Int→List Int} {a:Int} {X:Nat→Prop} {out work out' work':List Int} (h:Sp w wr g B n0 bo bw ob cap n p nx a X out work) (hg:g < n0) (hw:w.heap.size≤n0) (hS:Spr wz n0 bo bw ob cap X out' work')
  (hF:Fr wr wz (fun i=>n0≤i∧¬ X i)) (hq:∀ v:Int,0≤v→v < n→rd out' v+negs out'≤n) (hz:rd out' a=0):Sp w wz g B n0 bo bw ob cap n p nx a X out' work' :=
 ⟨hS,h.gr.keep fun j hj hh=>hF.block j hj fun h2=>by
   rcases hh with hh|hh
   ·omega
   ·exact h2.2 hh,
  fun j hj=>Nat.lt_of_lt_of_le (h.lt j hj) hF.size,fr_new h.fr hF fun j hj=>Nat.le_trans hw hj.1,hq,hz⟩
def z33 (w:World) (g B:Nat) (p:Im) (nx:Int→List Int) (a:Int) (e:Ending) (w':World):Prop :=
 ∃ v d,e=.returned v∧Kd.R (Kd.int .i64) 3 w' w.heap.size (fun _=>True) v d∧((0≤a∧a < p.f5.length)→DistOf p.f5.length nx a d∧∀ v:Int,0≤v→v < p.f5.length→rd d v≤p.f5.length)∧(¬ (0≤a∧a < p.f5.length)→d=[])∧Gr w' g B p∧Fr w w' (fun i=>i=g)
theorem spreadNext {w:World} {g B:Nat} {p:Im} (hp:Rt p) (hg:Gr w g B p) (hnx:∀ v:Int,0≤v→v < p.f5.length→∀ u ∈ nextL p v,0≤u∧u < p.f5.length) (hln:∀ v:Int,(nextL p v).length≤100000) {a:Int} :
  Calls Tryz.prog 66 #[.int .i64 p.f5.length,.int .i64 a,.func (.func 20) #[.pointer (some ⟨g,0,none⟩)] #[]] w (z33 w g B p (nextL p) a):=by
 have h256:=hp.fits.2.2.1;obtain ⟨n,hn⟩:∃ n,p.f5.length=n:=⟨_,rfl⟩
 by_cases ha:0≤a∧a < n
 rotate_left
 ·have hE:∀ w',w'=w→z33 w g B p (nextL p) a (.returned (.slice none 0 0)) w':=fun w' e=>by
   subst e;exact ⟨_,[],rfl,Kd.R_nil _ _ _ _ _,fun h=>absurd (hn ▸ h) ha,fun _=>rfl,hg,Fr.refl _ _⟩
  have HE:=Aside0.mk hE;rw [hn];clear hE hp hnx hg hn hln
  by_cases h0:a < 0
  ·have hd0:decide (a < 0)=true:=decide_eq_true h0;clear ha h0
   go_enter Tryz.func66,Tryz.ntmps66
   go_wp2;go_ret
   exact HE.out _ rfl
  ·have hd0:decide (a < 0)=false:=decide_eq_false h0;have hd1:decide (a ≥ (n:Int))=true:=decide_eq_true (by omega);have hd2:decide ((n:Int)≤a)=true:=decide_eq_true (by omega);clear ha h0
   go_enter Tryz.func66,Tryz.ntmps66
   go_wp2;go_ret
   exact HE.out _ rfl
 have hnx':∀ v:Int,0≤v→v < n→∀ u ∈ nextL p v,0≤u∧u < n:=fun v h0 h1=>by rw [← hn] at h1 ⊢;exact hnx v h0 h1
 have HNX:=Aside0.mk hnx';have HLN:=Aside0.mk hln;have HROW:=Aside0.mk (z1c.calls (n+2) (n:Int) (-1) (List.replicate n (-1)) w (row_f n (-1) (by omega)));have HP:=Aside0.mk hp;have HG:=Aside0.mk hg;have HA:=Aside0.mk ha;have HN:=Aside0.mk hn;have H256:Aside0 (n≤256):=⟨by omega⟩;have hd0:decide (a < 0)=false:=decide_eq_false (by omega);have hd1:decide (a ≥ (n:Int))=false:=decide_eq_false (by omega);have hd2:decide ((n:Int)≤a)=false:=decide_eq_false (by omega);rw [hn];clear hnx hnx' hg hp ha hn h256 hln
 go_enter Tryz.func66,Tryz.ntmps66
 go_wp2_with fail
 refine HROW.out.mono ?_;rintro e w1 ⟨v0,rfl,hR,hB⟩;have hnpos:0 < n:=by have:=HA.out;omega
 obtain ⟨ob,cap,rfl,hob0,hob1,_⟩:=Kd.R_form hR (by simpa using hnpos);rw [List.length_replicate] at hR ⊢;have HR:=Aside0.mk hR;have HB:=Aside0.mk hB;clear hR hB HROW hnpos;have hS2:Spr ((w1.alloc (.cells #[.slice (some ⟨ob,0,none⟩) n cap] 23)).alloc (.cells #[.slice none 0 0] 23)) w.heap.size w1.heap.size (w1.heap.size+1) ob cap (fun i=>i < w.heap.size) (List.replicate n (-1)) []:=by
  have e1:(w1.alloc (.cells #[.slice (some ⟨ob,0,none⟩) n cap] 23)).heap.size=w1.heap.size+1:=by show (w1.heap.push _).size=_;simp
  have hb1:=z0z w1 (.cells #[.slice (some ⟨ob,0,none⟩) n cap] 23);have hb2:=z0z (w1.alloc (.cells #[.slice (some ⟨ob,0,none⟩) n cap] 23)) (.cells #[.slice none 0 0] 23);have hsz:=HB.out.size;rw [e1] at hb2;refine ⟨?_,⟨_,hb2,Que.nil _ _⟩,?_,by omega,⟨hsz,by omega⟩,by omega,by omega⟩
  ·rw [List.length_replicate];exact (Below.heap_alloc _ _ _ (z0v hb1)).trans hb1
  ·rw [List.length_replicate];exact R_only (Kd.R_alloc (Kd.R_alloc HR.out _) _)
 have hF2:Fr w ((w1.alloc (.cells #[.slice (some ⟨ob,0,none⟩) n cap] 23)).alloc (.cells #[.slice none 0 0] 23)) (fun i=>i=g) :=
  ((Fr.of_below HB.out).mono (S':=fun i=>i=g) fun i h1 h2=>by omega).trans ((z1f _ _ _).trans (z1f _ _ _))
 have hY2:GrY ((w1.alloc (.cells #[.slice (some ⟨ob,0,none⟩) n cap] 23)).alloc (.cells #[.slice none 0 0] 23)) g B p (fun i=>i < w.heap.size) :=
  (GrY.of_gr HG.out).keep fun i hi _=>(Below.heap_alloc _ _ _ (Nat.lt_of_lt_of_le (Nat.lt_of_lt_of_le hi HB.out.size) (z1f w1 _ (fun _=>False)).size)).trans ((Below.heap_alloc _ _ _ (Nat.lt_of_lt_of_le hi HB.out.size)).trans (HB.out.block i hi))
 have HS2:=Aside0.mk hS2;have HF2:=Aside0.mk hF2;have HY2:=Aside0.mk hY2;have HSZ1:Aside0 (w.heap.size≤w1.heap.size):=⟨HB.out.size⟩;have HSZ2:Aside0 (w1.heap.size < ((w1.alloc (.cells #[.slice (some ⟨ob,0,none⟩) n cap] 23)).alloc (.cells #[.slice none 0 0] 23)).heap.size):=⟨by show _ < ((w1.heap.push _).push _).size;simp;omega⟩;have HGL:Aside0 (g < w.heap.size):=⟨HG.out.lt⟩;have HOB:=Aside0.mk hob0;clear hS2 hF2 hY2 HR HB hob0 hob1
 go_upto_region 6 with (fail)
 generalize ((w1.alloc (.cells #[.slice (some ⟨ob,0,none⟩) n cap] 23)).alloc (.cells #[.slice none 0 0] 23))=W2 at HS2 HF2 HY2 HSZ2 ⊢;generalize w1.heap.size+1=bw at HS2 ⊢;generalize w1.heap.size=bo at HS2 HSZ1 HSZ2 ⊢;have HC0:=Aside0.mk (z3b HS2.out (by have:=HSZ1.out;have:=HSZ2.out;omega) (fun i h1 h2=>by have:=HSZ1.out;have:=HSZ2.out;omega) (t:=a) (s:=0) (by rw [List.length_replicate];exact HA.out) (by simp))
 go_wp2_with fail
 refine HC0.out.mono ?_;rintro e w3 ⟨rfl,hS3,hF3⟩;have hneg:rd (List.replicate n (-1:Int)) a < 0:=by rw [rd_rep n HA.out.1 HA.out.2];omega
 rw [if_pos hneg,if_pos hneg] at hS3;obtain ⟨hbf,hz0⟩:=Bfs.start HA.out HNX.out;have hng:=negs_set (List.replicate n (-1:Int)) a.toNat 0 (by rw [List.length_replicate];have:=HA.out;omega) (by rw [show ((a.toNat:Nat):Int)=a by have:=HA.out;omega];exact hneg) (Int.le_refl _);rw [negs_rep] at hng;have HSP3:Aside0 (Sp w w3 g B w.heap.size bo bw ob cap n p (nextL p) a (fun i=>i < w.heap.size) ((List.replicate n (-1:Int)).set a.toNat 0) [a]):=⟨⟨by simpa using hS3,
  HY2.out.keep fun i hi h=>hF3.block i hi fun h2=>by
   have:=HGL.out
   rcases h with h|h
   ·omega
   ·exact h2.2 h,
  fun i hi=>by have:=hF3.size;have:=HF2.out.size;omega,fr_new HF2.out hF3 fun i hi=>hi.1,fun v h0 h1=>by
   rw [rd_set (by rw [List.length_replicate];exact HA.out) h0,rd_rep n h0 h1]
   split <;> omega,hz0⟩⟩
 have HBF3:=Aside0.mk hbf;have HM3:Aside0 (2 * negs ((List.replicate n (-1:Int)).set a.toNat 0)+[a].length < 2 * n+2):=⟨by simp only [List.length_singleton];omega⟩;clear hS3 hF3 hneg hbf hz0 hng HC0 HS2 HF2 HY2 HSZ2;go_wp2
 go_loopg [] (2 * n+2) (fun kq wr=>∃ (Y:Nat→Prop) (out work:List Int),Aside0 (Sp w wr g B w.heap.size bo bw ob cap n p (nextL p) a Y out work)∧Aside0 (Bfs n (nextL p) a out work)∧Aside0 (2 * negs out+work.length < kq)∧Aside0 (kq≤2 * n+2))
 case atStart=>exact ⟨_,_,_,HSP3,HBF3,HM3,⟨Nat.le_refl _⟩⟩
 case round =>
  clear HSP3 HBF3 HM3;obtain ⟨Y,out,work,hsp,hbf,hk,HMX⟩:=hrel;have c1:=cell_of_one hsp.out.spr.outBox;obtain ⟨v,hv,hq⟩:=hsp.out.spr.wkBox;cases work with
  | nil =>
   obtain ⟨av,cv,rfl,_⟩:=hq.slice;have c2:=cell_of_one hv;have HE:Aside0 (z33 w g B p (nextL p) a (.returned (.slice (some ⟨ob,0,none⟩) out.length cap)) wr):=⟨⟨_,out,rfl,Kd.R_mono hsp.out.spr.row (fun _ _=>trivial),fun _=>by rw [HN.out];exact ⟨hbf.out.done hsp.out.z,fun v h0 h1=>by have:=hsp.out.q v h0 h1;omega⟩,fun h=>absurd (HN.out ▸ HA.out) h,hsp.out.gr.gr,hsp.out.fr⟩⟩;simp only [List.length_nil] at c2;clear hv hq hsp hbf hk;go_wp2;go_ret
   exact HE.out
  | cons c work =>
   obtain ⟨av,cv,rfl,hcv⟩:=hq.slice;have hcut:=hq.cut;obtain ⟨bq,off,rfl,hbq,hhead⟩:=hq.head;have c2:=cell_of_one hv;have f2:=free_of_one hv;have hc:=hbf.out.inw c (by simp);obtain ⟨i0,hi0,hz0_,hz1_,hz2_⟩:=info_parts infoC_int;have hct:=cut_from (P:=Tryz.prog) 23 3 .i64 Tryz.underlying23 hi0 1 hz1_ (some ⟨bq,off,none⟩) (c :: work).length cv 1 (by omega) (by simp;omega);rw [show (1:Int).toNat=1 from rfl] at hct;obtain ⟨a2,ha2⟩:∃ x:Option Addr,(if cv=1 then (some ⟨bq,off,none⟩:Option Addr) else (some (⟨bq,off,none⟩:Addr)).map (·.add (1 * 1)))=x:=⟨_,rfl⟩;rw [ha2] at hct hcut;obtain ⟨lw,hlw⟩:∃ k,(c :: work).length=k:=⟨_,rfl⟩;have hlw1:work.length+1=lw:=by rw [← hlw];rfl
   rw [hlw] at hct hcut hcv hv c2;have hd0_:decide ((lw:Int) > 0)=true:=decide_eq_true (by omega);have hd1_:decide (0 < (lw:Int))=true:=decide_eq_true (by omega);have hd2_:decide (0 < lw)=true:=decide_eq_true (by omega);have hp0:(0 < lw)=True:=eq_true (by omega);have hp1:(0 < (lw:Int))=True:=eq_true (by omega);have hfs:=z1k wr ⟨bw,0,none⟩ (.slice a2 (lw - 1) (cv - 1));have HSPA:Aside0 (Spr (wr.setCell ⟨bw,0,none⟩ (.slice a2 (lw - 1) (cv - 1))) w.heap.size bo bw ob cap Y out work):=⟨⟨(hfs.block bo (z0v hsp.out.spr.outBox) hsp.out.spr.ne).trans hsp.out.spr.outBox,⟨_,one_setCell hv,hcut.fr hfs fun i hi e=>hi.2.2.1 e⟩,
    Kd.R_step hsp.out.spr.row (fun k hk hlt=>hfs.block k hlt (by rw [hk];exact hsp.out.spr.ob_bw)),hsp.out.spr.ne,hsp.out.spr.lo,hsp.out.spr.nX⟩⟩
   have HYA:Aside0 (GrY (wr.setCell ⟨bw,0,none⟩ (.slice a2 (lw - 1) (cv - 1))) g B p Y):=⟨hsp.out.gr.keep fun i hi h=>hfs.block i hi fun e=>by
    have e:i=bw:=e
    rcases h with h|h
    ·have:=HGL.out;have:=hsp.out.spr.lo;omega
    ·exact hsp.out.spr.nX.1 (e ▸ h)⟩
   have HFA:Aside0 (Fr w (wr.setCell ⟨bw,0,none⟩ (.slice a2 (lw - 1) (cv - 1))) (fun i=>i=g)):=⟨fr_new hsp.out.fr hfs fun i (e:i=bw)=>by rw [e];exact hsp.out.spr.lo.2⟩;have HLA:Aside0 (∀ i,Y i→i < (wr.setCell ⟨bw,0,none⟩ (.slice a2 (lw - 1) (cv - 1))).heap.size):=⟨fun i hi=>Nat.lt_of_lt_of_le (hsp.out.lt i hi) hfs.size⟩;have HZ:=Aside0.mk hsp.out.z;have HQQ:=Aside0.mk hsp.out.q;have HK:Aside0 (2 * negs out+work.length+1 < gk):=⟨by have:=hk.out;simp only [List.length_cons] at this;omega⟩;have HCW:=Aside0.mk hc;clear hfs hq hcut hbq hc hsp hk ha2 hlw hlw1 hcv hv hz0_ hz1_ hz2_ hi0
   go_upto_region 10 with (fail)
   generalize wr.setCell ⟨bw,0,none⟩ (.slice a2 (lw - 1) (cv - 1))=wa at HSPA HYA HFA HLA ⊢;have HNC:=Aside0.mk (graphNext2 HP.out HYA.out.gr (x:=c) (Gr.wfI_of (by have:=HCW.out;have:=H256.out;omega)));clear c1 c2 f2 hhead hct hd0_ hd1_ hd2_ hp0 hp1
   go_wp2_with fail
   refine HNC.out.mono ?_;rintro e wb ⟨⟨vr,rfl,hRr,hMr,hFr⟩,hYr⟩;obtain ⟨ar,cr,rfl⟩:=Kd.R_slice hRr;obtain ⟨X,hX⟩:∃ X:Nat→Prop,X=fun i=>(Y i∨wa.heap.size≤i)∧i < wb.heap.size:=⟨_,rfl⟩
   have HRB:Aside0 (Kd.R (Kd.int .i64) 3 wb wa.heap.size X (.slice ar (nextL p c).length cr) (nextL p c)):=⟨Kd.R_mono (Kd.R_bound hRr) fun k hk=>by rw [hX];exact ⟨.inr hk.2.1,hk.2.2.1⟩⟩;have HYB:Aside0 (GrY wb g B p X):=⟨(hYr Y HYA.out).lt.mono fun i hi=>by rw [hX];exact hi⟩;have HXL:Aside0 (∀ i,X i→i < wb.heap.size):=⟨fun i hi=>by rw [hX] at hi;exact hi.2⟩;have HSB:Aside0 (Spr wb w.heap.size bo bw ob cap X out work):=⟨by
    obtain ⟨v0,hv0,_⟩:=HSPA.out.wkBox;obtain ⟨c0,hc0⟩:=HSPA.out.obT;have h1:=z0v hv0;have h2:=z0v hc0;refine (HSPA.out.mono (X':=X) (fun i hi hok h=>?_) (fun h=>?_) (fun h=>?_)).fr hFr (fun i hi e=>by have:=HGL.out;omega)
    ·rw [hX] at h;exact h.1.elim hok.2.2.2.2 fun h=>by omega
    ·rw [hX] at h;exact h.1.elim HSPA.out.nX.1 fun h=>by omega
    ·rw [hX] at h;exact h.1.elim HSPA.out.nX.2 fun h=>by omega⟩
   have HSP4:Aside0 (Sp w wb g B w.heap.size bo bw ob cap n p (nextL p) a X out work):=⟨⟨HSB.out,HYB.out,HXL.out,HFA.out.trans hFr,HQQ.out,HZ.out⟩⟩;obtain ⟨dc,hdc⟩:∃ z,rd out c=z:=⟨_,rfl⟩;have HDC:=Aside0.mk hdc;have hll:=HLN.out c;obtain ⟨l,hl⟩:∃ l,nextL p c=l:=⟨_,rfl⟩;rw [hl] at HRB hll ⊢;have HLM:Aside0 (∀ u,u ∈ l↔u ∈ nextL p c):=⟨fun u=>by rw [hl]⟩;have HLL:=Aside0.mk hll;clear hRr hMr hFr hYr hX HYB HSB HSPA HYA HFA HLA HNC HQQ HZ hdc hll hl;go_wp2
   go_loopw [38] (fun v38 wi=>∃ (i:Nat) (out' work':List Int),v38=.int .i64 i∧Aside0 (i≤l.length)∧Aside0 (Sp w wi g B w.heap.size bo bw ob cap n p (nextL p) a X out' work')∧Aside0 (Bfs n (nextL p) a out' (c :: work'))∧Aside0 (rd out' c=dc)∧Aside0 (∀ u ∈ l.take i,0≤rd out' u) ∧
     Aside0 (2 * negs out'+work'.length≤2 * negs out+work.length)∧Aside0 (Kd.R (Kd.int .i64) 3 wi wa.heap.size X (.slice ar l.length cr) l)∧Aside0 (wb.heap.size≤wi.heap.size))
    (fun v _=>l.length - (intOf v).toNat)
   case atStart=>exact ⟨0,out,work,rfl,⟨Nat.zero_le _⟩,HSP4,hbf,HDC,⟨by simp⟩,⟨Nat.le_refl _⟩,HRB,⟨Nat.le_refl _⟩⟩
   case round =>
    clear HSP4 hbf HDC HRB;obtain ⟨i,out',work',rfl,hi,hsp,hbf,hdc,htk,hms,hrw,hsz⟩:=hrel;have hi:=hi.out;have hl1:=HLL.out
    by_cases hil:i < l.length
    ·obtain ⟨u,hu⟩:∃ u,rd l (i:Int)=u:=⟨_,rfl⟩;have hum:u ∈ l:=hu ▸ rd_mem hil;obtain ⟨as_,ea,hx⟩:=Kd.at_int (Kd.R_reads' hrw.out).2.2 (i:Int) (by omega) (by omega);cases ea;rw [Int.toNat_natCast,hu] at hx;have hcr:=(hbf.out.inw c (by simp)).1;have hln:=hbf.out.len;obtain ⟨hxc0,_⟩:=Kd.R_celln 0 hsp.out.spr.row c hcr.1 (by omega);have hxc:wr.cell? ⟨ob,c.toNat,none⟩=some (.int .i64 dc):=(by rw [← hdc.out];exact hxc0);clear hxc0;have c1:=cell_of_one hsp.out.spr.outBox;have hdq:=hsp.out.q c hcr.1 hcr.2;rw [hdc.out] at hdq;have hd0:=(hbf.out.inw c (by simp)).2;rw [hdc.out] at hd0;have h256:=H256.out;have hur:=HNX.out c hcr.1 hcr.2 u ((HLM.out u).1 hum);have hbl:=hbf.out.low;have hwk:work'.length < 1000000:=(by have:=hms.out;have:=HK.out;have:=HMX.out;omega);have HC:=Aside0.mk (z3b hsp.out.spr (by have:=hsp.out.fr.size;omega) (fun j h1 h2=>by have:=HXL.out j h2;have:=hsz.out;omega) (t:=u) (s:=dc+1) ⟨hur.1,by omega⟩ hwk);have HST:=Aside0.mk (bfs_step hbf.out hdc.out ((HLM.out u).1 hum) hsp.out.q);have hwr:IntKind.i64.wrap (dc+1)=dc+1:=IntWalk.i64_in _ (by omega);have HWR1:=Lib.hid hwr;clear hwr;have hwr2:wrap64 (dc+1)=dc+1:=by
      have h1:-9223372036854775808≤dc+1∧dc+1≤9223372036854775807:=(by omega);unfold wrap64;omega
     have HWR:=Aside0.mk (And.intro HWR1.out hwr2);clear hwr2 HWR1;have hp0:(0≤(i:Int))=True:=eq_true (by omega);have hp1:((i:Int) < (l.length:Int))=True:=eq_true (by omega);have hp2:(0≤c)=True:=eq_true hcr.1;have hp3:(c < (out'.length:Int))=True:=eq_true (by omega);have hid:decide ((i:Int) < (l.length:Int))=true:=decide_eq_true (by omega);have HU:=Lib.hid hu;have HUR:=Aside0.mk hur;have HIL:=Aside0.mk hil;obtain ⟨hwr,hwr2⟩:=HWR.out;clear hu hum hcr hln hdq hd0 hur hbl hwk hil
     go_wp2_with fail
     refine HC.out.mono ?_;rintro e wz ⟨rfl,hS,hF⟩;clear hwr hwr2 hp0 hp1 hp2 hp3 hid hx hxc c1;have HSPZ:=Aside0.mk (hsp.out.next HGL.out (Nat.le_refl _) hS hF HST.out.2.2.2.2.1 ((HST.out.2.2.1 a HA.out.1 HA.out.2 (by rw [hsp.out.z];exact Int.le_refl _)).trans hsp.out.z));have HRZ:Aside0 (Kd.R (Kd.int .i64) 3 wz wa.heap.size X (.slice (some as_) l.length cr) l):=⟨Kd.R_step hrw.out fun k hk hlt=>hF.block k hlt fun h=>h.2 hk⟩;have HSZZ:Aside0 (wb.heap.size≤wz.heap.size):=⟨Nat.le_trans hsz.out hF.size⟩;have HTKZ:Aside0 (∀ z ∈ l.take (i+1),0≤rd (if rd out' u < 0 then out'.set u.toNat (dc+1) else out') z):=⟨fun z hz=>by
      rw [List.take_add_one,List.mem_append] at hz
      rcases hz with hz|hz
      ·have h1:=htk.out z hz;have h2:=HNX.out c (hbf.out.inw c (by simp)).1.1 (hbf.out.inw c (by simp)).1.2 z ((HLM.out z).1 (List.mem_of_mem_take hz));rw [HST.out.2.2.1 z h2.1 h2.2 h1];exact h1
      ·rw [List.getElem?_eq_getElem HIL.out] at hz;have h1:z=u:=by
        have h2:z=l[i]'HIL.out:=(by simpa using hz);rw [h2,← HU.out];unfold rd;rw [Int.toNat_natCast,List.getD_eq_getElem?_getD,List.getElem?_eq_getElem HIL.out];rfl
       rw [h1];exact HST.out.2.2.2.1⟩
     have HBZ:=Aside0.mk HST.out.1;have HDZ:=Aside0.mk HST.out.2.1;have HMZ:Aside0 (2 * negs (if rd out' u < 0 then out'.set u.toNat (dc+1) else out')+(if rd out' u < 0 then work' ++ [u] else work').length≤2 * negs out+work.length):=⟨Nat.le_trans HST.out.2.2.2.2.2 hms.out⟩;clear hS hF HC HST;generalize (if rd out' u < 0 then out'.set u.toNat (dc+1) else out')=outz at HSPZ HTKZ HBZ HDZ HMZ;generalize (if rd out' u < 0 then work' ++ [u] else work')=workz at HSPZ HBZ HMZ;go_wp2
     go_roundw
     case rel=>exact ⟨i+1,outz,workz,by go_num,⟨HIL.out⟩,HSPZ,HBZ,HDZ,HTKZ,HMZ,HRZ,HSZZ⟩
     case measure=>have:=HIL.out;simp [intOf];omega
    ·have hi':i=l.length:=(by omega);subst hi';have hid:decide ((l.length:Int) < (l.length:Int))=false:=decide_eq_false (by omega);have HBZ:Aside0 (Bfs n (nextL p) a out' work'):=⟨hbf.out.drop fun u hu=>⟨htk.out u (by rw [List.take_length];exact (HLM.out u).2 hu),by
      have h1:=(hbf.out.inw c (by simp)).1;have h2:=HNX.out c h1.1 h1.2 u hu;exact hbf.out.top c (by simp) u h2.1 h2.2⟩⟩
     have HMZ:Aside0 (2 * negs out'+work'.length+1 < gk):=⟨by have:=hms.out;have:=HK.out;omega⟩;clear hbf hdc htk hms hrw hsz;go_wp2
     go_roundg (2 * negs out'+work'.length+1)
     case measure=>exact HMZ.out
     case rel=>exact ⟨X,out',work',hsp,HBZ,⟨Nat.lt_succ_self _⟩,⟨by have:=HMZ.out;have:=HMX.out;omega⟩⟩
set_option maxHeartbeats 4000000 in
theorem farFrom {w:World} {g B:Nat} {p:Im} (hp:Rt p) (hg:Gr w g B p) (hnx:∀ v:Int,0≤v→v < p.f5.length→∀ u ∈ nextL p v,0≤u∧u < p.f5.length) (hl3:p.f3.length≤100) (hl4:p.f4.length≤40) {a:Int} :
  Calls Tryz.prog 31 #[.pointer (some ⟨g,0,none⟩),.int .i64 a] w (z33 w g B p (nextL p) a):=by
 have h256:=hp.fits.2.2.1;have HIM:=Aside0.mk (graphImage hg hl3 hl4 (by omega));have HSP:=Aside0.mk (fun (w1:World) (h:Below w.heap.size w w1)=>spreadNext hp (hg.below h) hnx (fun v=>Nat.le_trans (next_len p h256 v) (by omega)) (a:=a));have HGL:=Aside0.mk hg.lt;have hmf:∀ (fn:Fn) (first cap:Array Value) (w:World),(Instr.makeFunc fn first cap).run Tryz.prog w=.ok (.func fn first cap) w:=fun _ _ _ _=>rfl
 clear hg hnx hl3 hl4 h256
 go_enter Tryz.func31,Tryz.ntmps31
 go_wp2_with fail
 refine HIM.out.mono ?_;rintro e w1 ⟨v3,v4,v5,rfl,h3,h4,h5,hB⟩;obtain ⟨A3,c3,rfl⟩:=Kd.R_slice h3;obtain ⟨A4,c4,rfl⟩:=Kd.R_slice h4;obtain ⟨A5,c5,rfl⟩:=Kd.R_slice h5;have HS1:=Aside0.mk (HSP.out w1 hB);have HB1:=Aside0.mk hB;have hfd:∀ w:World,(Instr.field 26 (.agg #[.int .i64 p.f0,.int .i64 p.f1,.int .i64 p.f2,.slice A3 p.f3.length c3,.slice A4 p.f4.length c4,.slice A5 p.f5.length c5]) 5).run Tryz.prog w=.ok (.slice A5 p.f5.length c5) w:=fun _=>by kernel_rfl
 clear h3 h4 h5 hB HSP HIM
 go_wp2_with fail
 refine HS1.out.mono ?_;rintro e w2 ⟨v,d,rfl,hR,hd,hn,hG,hF⟩;have HE:Aside0 (z33 w g B p (nextL p) a (.returned v) w2):=⟨⟨v,d,rfl,Kd.R_lower hR HB1.out.size,hd,hn,hG,((Fr.of_below HB1.out).mono (S':=fun i=>i=g) fun i h1 h2=>by omega).trans hF⟩⟩;obtain ⟨Ad,cd,rfl⟩:=Kd.R_slice hR;clear hR hd hn hG hF HS1;go_wp2;go_ret
 exact HE.out
theorem spreadPrev {w:World} {g B:Nat} {p:Im} (hp:Rt p) (hg:Gr w g B p) (hnx:∀ v:Int,0≤v→v < p.f5.length→∀ u ∈ prevL p v,0≤u∧u < p.f5.length) (hln:∀ v:Int,(prevL p v).length≤100000) {a:Int} :
  Calls Tryz.prog 66 #[.int .i64 p.f5.length,.int .i64 a,.func (.func 22) #[.pointer (some ⟨g,0,none⟩)] #[]] w (z33 w g B p (prevL p) a):=by
 have h256:=hp.fits.2.2.1;obtain ⟨n,hn⟩:∃ n,p.f5.length=n:=⟨_,rfl⟩
 by_cases ha:0≤a∧a < n
 rotate_left
 ·have hE:∀ w',w'=w→z33 w g B p (prevL p) a (.returned (.slice none 0 0)) w':=fun w' e=>by
   subst e;exact ⟨_,[],rfl,Kd.R_nil _ _ _ _ _,fun h=>absurd (hn ▸ h) ha,fun _=>rfl,hg,Fr.refl _ _⟩
  have HE:=Aside0.mk hE;rw [hn];clear hE hp hnx hg hn hln
  by_cases h0:a < 0
  ·have hd0:decide (a < 0)=true:=decide_eq_true h0;clear ha h0
   go_enter Tryz.func66,Tryz.ntmps66
   go_wp2;go_ret
   exact HE.out _ rfl
  ·have hd0:decide (a < 0)=false:=decide_eq_false h0;have hd1:decide (a ≥ (n:Int))=true:=decide_eq_true (by omega);have hd2:decide ((n:Int)≤a)=true:=decide_eq_true (by omega);clear ha h0
   go_enter Tryz.func66,Tryz.ntmps66
   go_wp2;go_ret
   exact HE.out _ rfl
 have hnx':∀ v:Int,0≤v→v < n→∀ u ∈ prevL p v,0≤u∧u < n:=fun v h0 h1=>by rw [← hn] at h1 ⊢;exact hnx v h0 h1
 have HNX:=Aside0.mk hnx';have HLN:=Aside0.mk hln;have HROW:=Aside0.mk (z1c.calls (n+2) (n:Int) (-1) (List.replicate n (-1)) w (row_f n (-1) (by omega)));have HP:=Aside0.mk hp;have HG:=Aside0.mk hg;have HA:=Aside0.mk ha;have HN:=Aside0.mk hn;have H256:Aside0 (n≤256):=⟨by omega⟩;have hd0:decide (a < 0)=false:=decide_eq_false (by omega);have hd1:decide (a ≥ (n:Int))=false:=decide_eq_false (by omega);have hd2:decide ((n:Int)≤a)=false:=decide_eq_false (by omega);rw [hn];clear hnx hnx' hg hp ha hn h256 hln
 go_enter Tryz.func66,Tryz.ntmps66
 go_wp2_with fail
 refine HROW.out.mono ?_;rintro e w1 ⟨v0,rfl,hR,hB⟩;have hnpos:0 < n:=by have:=HA.out;omega
 obtain ⟨ob,cap,rfl,hob0,hob1,_⟩:=Kd.R_form hR (by simpa using hnpos);rw [List.length_replicate] at hR ⊢;have HR:=Aside0.mk hR;have HB:=Aside0.mk hB;clear hR hB HROW hnpos;have hS2:Spr ((w1.alloc (.cells #[.slice (some ⟨ob,0,none⟩) n cap] 23)).alloc (.cells #[.slice none 0 0] 23)) w.heap.size w1.heap.size (w1.heap.size+1) ob cap (fun i=>i < w.heap.size) (List.replicate n (-1)) []:=by
  have e1:(w1.alloc (.cells #[.slice (some ⟨ob,0,none⟩) n cap] 23)).heap.size=w1.heap.size+1:=by show (w1.heap.push _).size=_;simp
  have hb1:=z0z w1 (.cells #[.slice (some ⟨ob,0,none⟩) n cap] 23);have hb2:=z0z (w1.alloc (.cells #[.slice (some ⟨ob,0,none⟩) n cap] 23)) (.cells #[.slice none 0 0] 23);have hsz:=HB.out.size;rw [e1] at hb2;refine ⟨?_,⟨_,hb2,Que.nil _ _⟩,?_,by omega,⟨hsz,by omega⟩,by omega,by omega⟩
  ·rw [List.length_replicate];exact (Below.heap_alloc _ _ _ (z0v hb1)).trans hb1
  ·rw [List.length_replicate];exact R_only (Kd.R_alloc (Kd.R_alloc HR.out _) _)
 have hF2:Fr w ((w1.alloc (.cells #[.slice (some ⟨ob,0,none⟩) n cap] 23)).alloc (.cells #[.slice none 0 0] 23)) (fun i=>i=g) :=
  ((Fr.of_below HB.out).mono (S':=fun i=>i=g) fun i h1 h2=>by omega).trans ((z1f _ _ _).trans (z1f _ _ _))
 have hY2:GrY ((w1.alloc (.cells #[.slice (some ⟨ob,0,none⟩) n cap] 23)).alloc (.cells #[.slice none 0 0] 23)) g B p (fun i=>i < w.heap.size) :=
  (GrY.of_gr HG.out).keep fun i hi _=>(Below.heap_alloc _ _ _ (Nat.lt_of_lt_of_le (Nat.lt_of_lt_of_le hi HB.out.size) (z1f w1 _ (fun _=>False)).size)).trans ((Below.heap_alloc _ _ _ (Nat.lt_of_lt_of_le hi HB.out.size)).trans (HB.out.block i hi))
 have HS2:=Aside0.mk hS2;have HF2:=Aside0.mk hF2;have HY2:=Aside0.mk hY2;have HSZ1:Aside0 (w.heap.size≤w1.heap.size):=⟨HB.out.size⟩;have HSZ2:Aside0 (w1.heap.size < ((w1.alloc (.cells #[.slice (some ⟨ob,0,none⟩) n cap] 23)).alloc (.cells #[.slice none 0 0] 23)).heap.size):=⟨by show _ < ((w1.heap.push _).push _).size;simp;omega⟩;have HGL:Aside0 (g < w.heap.size):=⟨HG.out.lt⟩;have HOB:=Aside0.mk hob0;clear hS2 hF2 hY2 HR HB hob0 hob1
 go_upto_region 6 with (fail)
 generalize ((w1.alloc (.cells #[.slice (some ⟨ob,0,none⟩) n cap] 23)).alloc (.cells #[.slice none 0 0] 23))=W2 at HS2 HF2 HY2 HSZ2 ⊢;generalize w1.heap.size+1=bw at HS2 ⊢;generalize w1.heap.size=bo at HS2 HSZ1 HSZ2 ⊢;have HC0:=Aside0.mk (z3b HS2.out (by have:=HSZ1.out;have:=HSZ2.out;omega) (fun i h1 h2=>by have:=HSZ1.out;have:=HSZ2.out;omega) (t:=a) (s:=0) (by rw [List.length_replicate];exact HA.out) (by simp))
 go_wp2_with fail
 refine HC0.out.mono ?_;rintro e w3 ⟨rfl,hS3,hF3⟩;have hneg:rd (List.replicate n (-1:Int)) a < 0:=by rw [rd_rep n HA.out.1 HA.out.2];omega
 rw [if_pos hneg,if_pos hneg] at hS3;obtain ⟨hbf,hz0⟩:=Bfs.start HA.out HNX.out;have hng:=negs_set (List.replicate n (-1:Int)) a.toNat 0 (by rw [List.length_replicate];have:=HA.out;omega) (by rw [show ((a.toNat:Nat):Int)=a by have:=HA.out;omega];exact hneg) (Int.le_refl _);rw [negs_rep] at hng;have HSP3:Aside0 (Sp w w3 g B w.heap.size bo bw ob cap n p (prevL p) a (fun i=>i < w.heap.size) ((List.replicate n (-1:Int)).set a.toNat 0) [a]):=⟨⟨by simpa using hS3,
  HY2.out.keep fun i hi h=>hF3.block i hi fun h2=>by
   have:=HGL.out
   rcases h with h|h
   ·omega
   ·exact h2.2 h,
  fun i hi=>by have:=hF3.size;have:=HF2.out.size;omega,fr_new HF2.out hF3 fun i hi=>hi.1,fun v h0 h1=>by
   rw [rd_set (by rw [List.length_replicate];exact HA.out) h0,rd_rep n h0 h1]
   split <;> omega,hz0⟩⟩
 have HBF3:=Aside0.mk hbf;have HM3:Aside0 (2 * negs ((List.replicate n (-1:Int)).set a.toNat 0)+[a].length < 2 * n+2):=⟨by simp only [List.length_singleton];omega⟩;clear hS3 hF3 hneg hbf hz0 hng HC0 HS2 HF2 HY2 HSZ2;go_wp2
 go_loopg [] (2 * n+2) (fun kq wr=>∃ (Y:Nat→Prop) (out work:List Int),Aside0 (Sp w wr g B w.heap.size bo bw ob cap n p (prevL p) a Y out work)∧Aside0 (Bfs n (prevL p) a out work)∧Aside0 (2 * negs out+work.length < kq)∧Aside0 (kq≤2 * n+2))
 case atStart=>exact ⟨_,_,_,HSP3,HBF3,HM3,⟨Nat.le_refl _⟩⟩
 case round =>
  clear HSP3 HBF3 HM3;obtain ⟨Y,out,work,hsp,hbf,hk,HMX⟩:=hrel;have c1:=cell_of_one hsp.out.spr.outBox;obtain ⟨v,hv,hq⟩:=hsp.out.spr.wkBox;cases work with
  | nil =>
   obtain ⟨av,cv,rfl,_⟩:=hq.slice;have c2:=cell_of_one hv;have HE:Aside0 (z33 w g B p (prevL p) a (.returned (.slice (some ⟨ob,0,none⟩) out.length cap)) wr):=⟨⟨_,out,rfl,Kd.R_mono hsp.out.spr.row (fun _ _=>trivial),fun _=>by rw [HN.out];exact ⟨hbf.out.done hsp.out.z,fun v h0 h1=>by have:=hsp.out.q v h0 h1;omega⟩,fun h=>absurd (HN.out ▸ HA.out) h,hsp.out.gr.gr,hsp.out.fr⟩⟩;simp only [List.length_nil] at c2;clear hv hq hsp hbf hk;go_wp2;go_ret
   exact HE.out
  | cons c work =>
   obtain ⟨av,cv,rfl,hcv⟩:=hq.slice;have hcut:=hq.cut;obtain ⟨bq,off,rfl,hbq,hhead⟩:=hq.head;have c2:=cell_of_one hv;have f2:=free_of_one hv;have hc:=hbf.out.inw c (by simp);obtain ⟨i0,hi0,hz0_,hz1_,hz2_⟩:=info_parts infoC_int;have hct:=cut_from (P:=Tryz.prog) 23 3 .i64 Tryz.underlying23 hi0 1 hz1_ (some ⟨bq,off,none⟩) (c :: work).length cv 1 (by omega) (by simp;omega);rw [show (1:Int).toNat=1 from rfl] at hct;obtain ⟨a2,ha2⟩:∃ x:Option Addr,(if cv=1 then (some ⟨bq,off,none⟩:Option Addr) else (some (⟨bq,off,none⟩:Addr)).map (·.add (1 * 1)))=x:=⟨_,rfl⟩;rw [ha2] at hct hcut;obtain ⟨lw,hlw⟩:∃ k,(c :: work).length=k:=⟨_,rfl⟩;have hlw1:work.length+1=lw:=by rw [← hlw];rfl
   rw [hlw] at hct hcut hcv hv c2;have hd0_:decide ((lw:Int) > 0)=true:=decide_eq_true (by omega);have hd1_:decide (0 < (lw:Int))=true:=decide_eq_true (by omega);have hd2_:decide (0 < lw)=true:=decide_eq_true (by omega);have hp0:(0 < lw)=True:=eq_true (by omega);have hp1:(0 < (lw:Int))=True:=eq_true (by omega);have hfs:=z1k wr ⟨bw,0,none⟩ (.slice a2 (lw - 1) (cv - 1));have HSPA:Aside0 (Spr (wr.setCell ⟨bw,0,none⟩ (.slice a2 (lw - 1) (cv - 1))) w.heap.size bo bw ob cap Y out work):=⟨⟨(hfs.block bo (z0v hsp.out.spr.outBox) hsp.out.spr.ne).trans hsp.out.spr.outBox,⟨_,one_setCell hv,hcut.fr hfs fun i hi e=>hi.2.2.1 e⟩,
    Kd.R_step hsp.out.spr.row (fun k hk hlt=>hfs.block k hlt (by rw [hk];exact hsp.out.spr.ob_bw)),hsp.out.spr.ne,hsp.out.spr.lo,hsp.out.spr.nX⟩⟩
   have HYA:Aside0 (GrY (wr.setCell ⟨bw,0,none⟩ (.slice a2 (lw - 1) (cv - 1))) g B p Y):=⟨hsp.out.gr.keep fun i hi h=>hfs.block i hi fun e=>by
    have e:i=bw:=e
    rcases h with h|h
    ·have:=HGL.out;have:=hsp.out.spr.lo;omega
    ·exact hsp.out.spr.nX.1 (e ▸ h)⟩
   have HFA:Aside0 (Fr w (wr.setCell ⟨bw,0,none⟩ (.slice a2 (lw - 1) (cv - 1))) (fun i=>i=g)):=⟨fr_new hsp.out.fr hfs fun i (e:i=bw)=>by rw [e];exact hsp.out.spr.lo.2⟩;have HLA:Aside0 (∀ i,Y i→i < (wr.setCell ⟨bw,0,none⟩ (.slice a2 (lw - 1) (cv - 1))).heap.size):=⟨fun i hi=>Nat.lt_of_lt_of_le (hsp.out.lt i hi) hfs.size⟩;have HZ:=Aside0.mk hsp.out.z;have HQQ:=Aside0.mk hsp.out.q;have HK:Aside0 (2 * negs out+work.length+1 < gk):=⟨by have:=hk.out;simp only [List.length_cons] at this;omega⟩;have HCW:=Aside0.mk hc;clear hfs hq hcut hbq hc hsp hk ha2 hlw hlw1 hcv hv hz0_ hz1_ hz2_ hi0
   go_upto_region 10 with (fail)
   generalize wr.setCell ⟨bw,0,none⟩ (.slice a2 (lw - 1) (cv - 1))=wa at HSPA HYA HFA HLA ⊢;have HNC:=Aside0.mk (graphPrev2 HP.out HYA.out.gr (x:=c) (Gr.wfI_of (by have:=HCW.out;have:=H256.out;omega)));clear c1 c2 f2 hhead hct hd0_ hd1_ hd2_ hp0 hp1
   go_wp2_with fail
   refine HNC.out.mono ?_;rintro e wb ⟨⟨vr,rfl,hRr,hMr,hFr⟩,hYr⟩;obtain ⟨ar,cr,rfl⟩:=Kd.R_slice hRr;obtain ⟨X,hX⟩:∃ X:Nat→Prop,X=fun i=>(Y i∨wa.heap.size≤i)∧i < wb.heap.size:=⟨_,rfl⟩
   have HRB:Aside0 (Kd.R (Kd.int .i64) 3 wb wa.heap.size X (.slice ar (prevL p c).length cr) (prevL p c)):=⟨Kd.R_mono (Kd.R_bound hRr) fun k hk=>by rw [hX];exact ⟨.inr hk.2.1,hk.2.2.1⟩⟩;have HYB:Aside0 (GrY wb g B p X):=⟨(hYr Y HYA.out).lt.mono fun i hi=>by rw [hX];exact hi⟩;have HXL:Aside0 (∀ i,X i→i < wb.heap.size):=⟨fun i hi=>by rw [hX] at hi;exact hi.2⟩;have HSB:Aside0 (Spr wb w.heap.size bo bw ob cap X out work):=⟨by
    obtain ⟨v0,hv0,_⟩:=HSPA.out.wkBox;obtain ⟨c0,hc0⟩:=HSPA.out.obT;have h1:=z0v hv0;have h2:=z0v hc0;refine (HSPA.out.mono (X':=X) (fun i hi hok h=>?_) (fun h=>?_) (fun h=>?_)).fr hFr (fun i hi e=>by have:=HGL.out;omega)
    ·rw [hX] at h;exact h.1.elim hok.2.2.2.2 fun h=>by omega
    ·rw [hX] at h;exact h.1.elim HSPA.out.nX.1 fun h=>by omega
    ·rw [hX] at h;exact h.1.elim HSPA.out.nX.2 fun h=>by omega⟩
   have HSP4:Aside0 (Sp w wb g B w.heap.size bo bw ob cap n p (prevL p) a X out work):=⟨⟨HSB.out,HYB.out,HXL.out,HFA.out.trans hFr,HQQ.out,HZ.out⟩⟩;obtain ⟨dc,hdc⟩:∃ z,rd out c=z:=⟨_,rfl⟩;have HDC:=Aside0.mk hdc;have hll:=HLN.out c;obtain ⟨l,hl⟩:∃ l,prevL p c=l:=⟨_,rfl⟩;rw [hl] at HRB hll ⊢;have HLM:Aside0 (∀ u,u ∈ l↔u ∈ prevL p c):=⟨fun u=>by rw [hl]⟩;have HLL:=Aside0.mk hll;clear hRr hMr hFr hYr hX HYB HSB HSPA HYA HFA HLA HNC HQQ HZ hdc hll hl;go_wp2
   go_loopw [38] (fun v38 wi=>∃ (i:Nat) (out' work':List Int),v38=.int .i64 i∧Aside0 (i≤l.length)∧Aside0 (Sp w wi g B w.heap.size bo bw ob cap n p (prevL p) a X out' work')∧Aside0 (Bfs n (prevL p) a out' (c :: work'))∧Aside0 (rd out' c=dc)∧Aside0 (∀ u ∈ l.take i,0≤rd out' u) ∧
     Aside0 (2 * negs out'+work'.length≤2 * negs out+work.length)∧Aside0 (Kd.R (Kd.int .i64) 3 wi wa.heap.size X (.slice ar l.length cr) l)∧Aside0 (wb.heap.size≤wi.heap.size))
    (fun v _=>l.length - (intOf v).toNat)
   case atStart=>exact ⟨0,out,work,rfl,⟨Nat.zero_le _⟩,HSP4,hbf,HDC,⟨by simp⟩,⟨Nat.le_refl _⟩,HRB,⟨Nat.le_refl _⟩⟩
   case round =>
    clear HSP4 hbf HDC HRB;obtain ⟨i,out',work',rfl,hi,hsp,hbf,hdc,htk,hms,hrw,hsz⟩:=hrel;have hi:=hi.out;have hl1:=HLL.out
    by_cases hil:i < l.length
    ·obtain ⟨u,hu⟩:∃ u,rd l (i:Int)=u:=⟨_,rfl⟩;have hum:u ∈ l:=hu ▸ rd_mem hil;obtain ⟨as_,ea,hx⟩:=Kd.at_int (Kd.R_reads' hrw.out).2.2 (i:Int) (by omega) (by omega);cases ea;rw [Int.toNat_natCast,hu] at hx;have hcr:=(hbf.out.inw c (by simp)).1;have hln:=hbf.out.len;obtain ⟨hxc0,_⟩:=Kd.R_celln 0 hsp.out.spr.row c hcr.1 (by omega);have hxc:wr.cell? ⟨ob,c.toNat,none⟩=some (.int .i64 dc):=(by rw [← hdc.out];exact hxc0);clear hxc0;have c1:=cell_of_one hsp.out.spr.outBox;have hdq:=hsp.out.q c hcr.1 hcr.2;rw [hdc.out] at hdq;have hd0:=(hbf.out.inw c (by simp)).2;rw [hdc.out] at hd0;have h256:=H256.out;have hur:=HNX.out c hcr.1 hcr.2 u ((HLM.out u).1 hum);have hbl:=hbf.out.low;have hwk:work'.length < 1000000:=(by have:=hms.out;have:=HK.out;have:=HMX.out;omega);have HC:=Aside0.mk (z3b hsp.out.spr (by have:=hsp.out.fr.size;omega) (fun j h1 h2=>by have:=HXL.out j h2;have:=hsz.out;omega) (t:=u) (s:=dc+1) ⟨hur.1,by omega⟩ hwk);have HST:=Aside0.mk (bfs_step hbf.out hdc.out ((HLM.out u).1 hum) hsp.out.q);have hwr:IntKind.i64.wrap (dc+1)=dc+1:=IntWalk.i64_in _ (by omega);have HWR1:=Lib.hid hwr;clear hwr;have hwr2:wrap64 (dc+1)=dc+1:=by
      have h1:-9223372036854775808≤dc+1∧dc+1≤9223372036854775807:=(by omega);unfold wrap64;omega
     have HWR:=Aside0.mk (And.intro HWR1.out hwr2);clear hwr2 HWR1;have hp0:(0≤(i:Int))=True:=eq_true (by omega);have hp1:((i:Int) < (l.length:Int))=True:=eq_true (by omega);have hp2:(0≤c)=True:=eq_true hcr.1;have hp3:(c < (out'.length:Int))=True:=eq_true (by omega);have hid:decide ((i:Int) < (l.length:Int))=true:=decide_eq_true (by omega);have HU:=Lib.hid hu;have HUR:=Aside0.mk hur;have HIL:=Aside0.mk hil;obtain ⟨hwr,hwr2⟩:=HWR.out;clear hu hum hcr hln hdq hd0 hur hbl hwk hil
     go_wp2_with fail
     refine HC.out.mono ?_;rintro e wz ⟨rfl,hS,hF⟩;clear hwr hwr2 hp0 hp1 hp2 hp3 hid hx hxc c1;have HSPZ:=Aside0.mk (hsp.out.next HGL.out (Nat.le_refl _) hS hF HST.out.2.2.2.2.1 ((HST.out.2.2.1 a HA.out.1 HA.out.2 (by rw [hsp.out.z];exact Int.le_refl _)).trans hsp.out.z));have HRZ:Aside0 (Kd.R (Kd.int .i64) 3 wz wa.heap.size X (.slice (some as_) l.length cr) l):=⟨Kd.R_step hrw.out fun k hk hlt=>hF.block k hlt fun h=>h.2 hk⟩;have HSZZ:Aside0 (wb.heap.size≤wz.heap.size):=⟨Nat.le_trans hsz.out hF.size⟩;have HTKZ:Aside0 (∀ z ∈ l.take (i+1),0≤rd (if rd out' u < 0 then out'.set u.toNat (dc+1) else out') z):=⟨fun z hz=>by
      rw [List.take_add_one,List.mem_append] at hz
      rcases hz with hz|hz
      ·have h1:=htk.out z hz;have h2:=HNX.out c (hbf.out.inw c (by simp)).1.1 (hbf.out.inw c (by simp)).1.2 z ((HLM.out z).1 (List.mem_of_mem_take hz));rw [HST.out.2.2.1 z h2.1 h2.2 h1];exact h1
      ·rw [List.getElem?_eq_getElem HIL.out] at hz;have h1:z=u:=by
        have h2:z=l[i]'HIL.out:=(by simpa using hz);rw [h2,← HU.out];unfold rd;rw [Int.toNat_natCast,List.getD_eq_getElem?_getD,List.getElem?_eq_getElem HIL.out];rfl
       rw [h1];exact HST.out.2.2.2.1⟩
     have HBZ:=Aside0.mk HST.out.1;have HDZ:=Aside0.mk HST.out.2.1;have HMZ:Aside0 (2 * negs (if rd out' u < 0 then out'.set u.toNat (dc+1) else out')+(if rd out' u < 0 then work' ++ [u] else work').length≤2 * negs out+work.length):=⟨Nat.le_trans HST.out.2.2.2.2.2 hms.out⟩;clear hS hF HC HST;generalize (if rd out' u < 0 then out'.set u.toNat (dc+1) else out')=outz at HSPZ HTKZ HBZ HDZ HMZ;generalize (if rd out' u < 0 then work' ++ [u] else work')=workz at HSPZ HBZ HMZ;go_wp2
     go_roundw
     case rel=>exact ⟨i+1,outz,workz,by go_num,⟨HIL.out⟩,HSPZ,HBZ,HDZ,HTKZ,HMZ,HRZ,HSZZ⟩
     case measure=>have:=HIL.out;simp [intOf];omega
    ·have hi':i=l.length:=(by omega);subst hi';have hid:decide ((l.length:Int) < (l.length:Int))=false:=decide_eq_false (by omega);have HBZ:Aside0 (Bfs n (prevL p) a out' work'):=⟨hbf.out.drop fun u hu=>⟨htk.out u (by rw [List.take_length];exact (HLM.out u).2 hu),by
      have h1:=(hbf.out.inw c (by simp)).1;have h2:=HNX.out c h1.1 h1.2 u hu;exact hbf.out.top c (by simp) u h2.1 h2.2⟩⟩
     have HMZ:Aside0 (2 * negs out'+work'.length+1 < gk):=⟨by have:=hms.out;have:=HK.out;omega⟩;clear hbf hdc htk hms hrw hsz;go_wp2
     go_roundg (2 * negs out'+work'.length+1)
     case measure=>exact HMZ.out
     case rel=>exact ⟨X,out',work',hsp,HBZ,⟨Nat.lt_succ_self _⟩,⟨by have:=HMZ.out;have:=HMX.out;omega⟩⟩
set_option maxHeartbeats 4000000 in
theorem farTo {w:World} {g B:Nat} {p:Im} (hp:Rt p) (hg:Gr w g B p) (hnx:∀ v:Int,0≤v→v < p.f5.length→∀ u ∈ prevL p v,0≤u∧u < p.f5.length) (hl3:p.f3.length≤100) (hl4:p.f4.length≤40) {a:Int} :
  Calls Tryz.prog 33 #[.pointer (some ⟨g,0,none⟩),.int .i64 a] w (z33 w g B p (prevL p) a):=by
 have h256:=hp.fits.2.2.1;have HIM:=Aside0.mk (graphImage hg hl3 hl4 (by omega));have HSP:=Aside0.mk (fun (w1:World) (h:Below w.heap.size w w1)=>spreadPrev hp (hg.below h) hnx (fun v=>Nat.le_trans (prev_len p h256 v) (by omega)) (a:=a));have HGL:=Aside0.mk hg.lt;have hmf:∀ (fn:Fn) (first cap:Array Value) (w:World),(Instr.makeFunc fn first cap).run Tryz.prog w=.ok (.func fn first cap) w:=fun _ _ _ _=>rfl
 clear hg hnx hl3 hl4 h256
 go_enter Tryz.func33,Tryz.ntmps33
 go_wp2_with fail
 refine HIM.out.mono ?_;rintro e w1 ⟨v3,v4,v5,rfl,h3,h4,h5,hB⟩;obtain ⟨A3,c3,rfl⟩:=Kd.R_slice h3;obtain ⟨A4,c4,rfl⟩:=Kd.R_slice h4;obtain ⟨A5,c5,rfl⟩:=Kd.R_slice h5;have HS1:=Aside0.mk (HSP.out w1 hB);have HB1:=Aside0.mk hB;have hfd:∀ w:World,(Instr.field 26 (.agg #[.int .i64 p.f0,.int .i64 p.f1,.int .i64 p.f2,.slice A3 p.f3.length c3,.slice A4 p.f4.length c4,.slice A5 p.f5.length c5]) 5).run Tryz.prog w=.ok (.slice A5 p.f5.length c5) w:=fun _=>by kernel_rfl
 clear h3 h4 h5 hB HSP HIM
 go_wp2_with fail
 refine HS1.out.mono ?_;rintro e w2 ⟨v,d,rfl,hR,hd,hn,hG,hF⟩;have HE:Aside0 (z33 w g B p (prevL p) a (.returned v) w2):=⟨⟨v,d,rfl,Kd.R_lower hR HB1.out.size,hd,hn,hG,((Fr.of_below HB1.out).mono (S':=fun i=>i=g) fun i h1 h2=>by omega).trans hF⟩⟩;obtain ⟨Ad,cd,rfl⟩:=Kd.R_slice hR;clear hR hd hn hG hF HS1;go_wp2;go_ret
 exact HE.out
end Go.Proofs.YtcbnhfnnjkkceaaGreat.X
end
section
namespace Go.Proofs.YtcbnhfnnjkkceaaGreat.X
open Go.RowKit Go.Proofs.YtcbnhfnnjkkceaaGreatW.PrintWords Go.Proofs.YtcbnhfnnjkkceaaGreat.Gr
end Go.Proofs.YtcbnhfnnjkkceaaGreat.X
end
section
namespace Go.Proofs.YtcbnhfnnjkkceaaGreat.X
open Go.RowKit Go.Proofs.YtcbnhfnnjkkceaaGreatW.PrintWords Go.Proofs.YtcbnhfnnjkkceaaGreat.Gr
theorem chk_has (k:Nat) (a:Int):∃ s,z0e.f (k+3) a=some s∧s.size≤4:=by
 have h2:∀ (x:Int) (b:Bool),∃ s,z0e.j2 (k+1) x b=some s∧s.size≤4:=fun x b=>by
  rw [z0e.j2]
  repeat' split
  all_goals exact ⟨_,rfl,by decide⟩
 have h1:∀ (x:Int) (b:Bool),∃ s,z0e.j1 (k+2) x b=some s∧s.size≤4:=fun x b=>by
  rw [z0e.j1]
  repeat' split
  all_goals first|exact h2 _ _|exact ⟨_,rfl,by decide⟩
 have h0:∀ (x:Int) (b:Bool),∃ s,z0e.j0 (k+3) x b=some s∧s.size≤4:=fun x b=>by
  rw [z0e.j0]
  repeat' split
  all_goals first|exact h1 _ _|exact ⟨_,rfl,by decide⟩
 unfold z0e.f
 repeat' split
 all_goals exact h0 _ _
theorem chk_in_l0 (s:ByteArray) (x:Int) (hs:s.size≤4):∀ (d k j:Nat),j+d=s.size→d < k→∃ b,z0f.l0 k s x j=some b
 | 0,k,j,h,hk=>by
  obtain ⟨k,rfl⟩:∃ i,k=i+1:=⟨k - 1,by omega⟩;rw [z0f.l0,if_neg (by omega)];exact ⟨_,rfl⟩
 | d+1,k,j,h,hk=>by
  obtain ⟨k,rfl⟩:∃ i,k=i+1:=⟨k - 1,by omega⟩;rw [z0f.l0,if_pos (by omega),if_pos (by omega)]
  split
  ·exact ⟨_,rfl⟩
  ·rw [show wrap64 ((j:Int)+1)=((j+1:Nat):Int) by unfold wrap64;omega];exact chk_in_l0 s x hs d k (j+1) (by omega) (by omega)
theorem chk_in {k:Nat} (hk:5≤k) (s:ByteArray) (x:Int) (hs:s.size≤4):∃ b,z0f.f k s x=some b:=by
 unfold z0f.f;have:=chk_in_l0 s x hs s.size k 0 (by omega) (by omega)
 simpa using this
theorem chk_reg {k:Nat} (hk:5≤k) (s:ByteArray) (x y:Int) (hs:s.size≤4):∃ b,z0h.f k s x y=some b:=by
 unfold z0h.f;obtain ⟨b,hb⟩:=chk_in hk s x hs;rw [hb,Option.bind_some]
 repeat' split
 all_goals exact ⟨_,rfl⟩
theorem chk_wrong {k:Nat} (hk:8≤k) (a b c d e:Int):∃ r,z0d.f k a b c d e=some r:=by
 obtain ⟨k,rfl⟩:∃ i,k=i+8:=⟨k - 8,by omega⟩;have h1:∀ (s:ByteArray) (x:Bool),s.size≤4→∃ r,z0d.j1 (k+7) s x a b c d e=some r:=fun s x hs=>by
  rw [z0d.j1];obtain ⟨t,ht⟩:=chk_in (k:=k+6) (by omega) s 105 hs;rw [ht,Option.bind_some]
  repeat' split
  all_goals exact ⟨_,rfl⟩
 have h0:∀ x:Bool,∃ r,z0d.j0 (k+8) x a b c d e=some r:=fun x=>by
  rw [z0d.j0];obtain ⟨s,hs,hsz⟩:=chk_has (k+4) a;obtain ⟨t1,ht1⟩:=chk_reg (k:=k+7) (by omega) s 97 b hsz;obtain ⟨t2,ht2⟩:=chk_reg (k:=k+7) (by omega) s 98 c hsz;obtain ⟨t3,ht3⟩:=chk_in (k:=k+7) (by omega) s 119 hsz;obtain ⟨t4,ht4⟩:=chk_reg (k:=k+7) (by omega) s 99 d hsz;obtain ⟨t5,ht5⟩:=chk_in (k:=k+7) (by omega) s 105 hsz;rw [hs,Option.bind_some,ht1,Option.bind_some,ht2,Option.bind_some,ht3,Option.bind_some,ht4,Option.bind_some,ht5,Option.bind_some]
  repeat' split
  all_goals first|exact h1 _ _ hsz|exact ⟨_,rfl⟩
 unfold z0d.f
 split <;> exact h0 _
theorem chk_put_l0:∀ (n k:Nat) (x5:List Int) (y a b c d e:Int),n≤8→n < k→x5.length=8→∃ r,z0q.l0 k x5 y ((n:Int) - 1) a b c d e=some r
 | 0,k,x5,y,a,b,c,d,e,hn,hk,hx=>by
  obtain ⟨k,rfl⟩:∃ i,k=i+1:=⟨k - 1,by omega⟩;rw [z0q.l0,if_neg (by omega),Option.bind_some,if_pos (by simp only [List.length_cons,List.length_nil];omega)];exact ⟨_,rfl⟩
 | n+1,k,x5,y,a,b,c,d,e,hn,hk,hx=>by
  obtain ⟨k,rfl⟩:∃ i,k=i+1:=⟨k - 1,by omega⟩;rw [z0q.l0,if_pos (by omega),if_pos (by omega),if_pos (by omega),show wrap64 (((n+1:Nat):Int) - 1 - 1)=(n:Int) - 1 by unfold wrap64;omega];exact chk_put_l0 n k _ _ a b c d e (by omega) (by omega) (by rw [List.length_set];exact hx)
theorem chk_put {k:Nat} (hk:12≤k) (a b c d e:Int):∃ r,z0q.f k a b c d e=some r:=by
 unfold z0q.f;obtain ⟨t,ht⟩:=chk_wrong (k:=k) (by omega) a b c d e;rw [ht,Option.bind_some]
 split
 ·exact ⟨_,rfl⟩
 ·split
  ·exact ⟨_,rfl⟩
  ·rw [if_pos (by omega)];exact chk_put_l0 8 k _ _ a b c d e (by omega) (by omega) (by simp)
theorem chk_fun_l0 (p:Im) (x:Int) (hl:p.f4.length≤40):∀ (d k j:Nat) (r:Int),j+d=p.f4.length→d < k→∃ r',z0k.l0 k x r j p.f0 p.f1 p.f2 p.f3 p.f4 p.f5=some r'
 | 0,k,j,r,h,hk=>by
  obtain ⟨k,rfl⟩:∃ i,k=i+1:=⟨k - 1,by omega⟩;rw [z0k.l0,if_neg (by omega)];exact ⟨_,rfl⟩
 | d+1,k,j,r,h,hk=>by
  obtain ⟨k,rfl⟩:∃ i,k=i+1:=⟨k - 1,by omega⟩;rw [z0k.l0,if_pos (by omega),if_pos (by omega),show wrap64 ((j:Int)+1)=((j+1:Nat):Int) by unfold wrap64;omega]
  split <;> exact chk_fun_l0 p x hl d k (j+1) _ (by omega) (by omega)
theorem chk_fun (p:Im) (hl:p.f4.length≤40) {k:Nat} (hk:50≤k) (x:Int):∃ r,z0k.f k p.f0 p.f1 p.f2 p.f3 p.f4 p.f5 x=some r:=by
 obtain ⟨k,rfl⟩:∃ i,k=i+1:=⟨k - 1,by omega⟩;have h0:∀ b:Bool,∃ r,z0k.j0 (k+1) x b p.f0 p.f1 p.f2 p.f3 p.f4 p.f5=some r:=fun b=>by
  rw [z0k.j0]
  split
  ·exact ⟨_,rfl⟩
  ·have:=chk_fun_l0 p x hl p.f4.length k 0 (-1) (by omega) (by omega)
   simpa using this
 unfold z0k.f
 split <;> exact h0 _
theorem chk_goes (a:Int):∃ b,z1n.f a=some b:=by
 unfold z1n.f
 repeat' split
 all_goals exact ⟨_,rfl⟩
theorem chk_stray_l0 (p:Im) (hl:p.f4.length≤40) (hn:p.f5.length≤300):∀ (d k x:Nat),x+d=p.f5.length→4 * d+60≤k→∃ r,z0c.l0 k x p.f0 p.f1 p.f2 p.f3 p.f4 p.f5=some r
 | 0,k,x,h,hk=>by
  obtain ⟨k,rfl⟩:∃ i,k=i+1:=⟨k - 1,by omega⟩;rw [z0c.l0,if_neg (by omega)];exact ⟨_,rfl⟩
 | d+1,k,x,h,hk=>by
  obtain ⟨k,rfl⟩:∃ i,k=i+4:=⟨k - 4,by omega⟩;have ih:=fun k' (h':4 * d+60≤k')=>chk_stray_l0 p hl hn d k' (x+1) (by omega) h'
  have hw:wrap64 ((x:Int)+1)=((x+1:Nat):Int):=by unfold wrap64;omega
  have h3:∀ (b:Bool) (f0 f1 f2 f3 f4:Int),∃ r,z0c.j3 (k+1) x b p.f0 p.f1 p.f2 p.f3 p.f4 p.f5 f0 f1 f2 f3 f4=some r:=fun b f0 f1 f2 f3 f4=>by
   rw [z0c.j3,hw]
   repeat' split
   all_goals first|exact ⟨_,rfl⟩|exact ih k (by omega)
  have h2:∀ (g:Int) (b:Bool) (f0 f1 f2 f3 f4:Int),∃ r,z0c.j2 (k+2) x g b p.f0 p.f1 p.f2 p.f3 p.f4 p.f5 f0 f1 f2 f3 f4=some r:=fun g b f0 f1 f2 f3 f4=>by
   obtain ⟨t,ht⟩:=chk_fun p hl (k:=k+1) (by omega) (wrap64 f4);rw [z0c.j2,hw,ht,Option.bind_some]
   repeat' split
   all_goals first|exact ⟨_,rfl⟩|exact ih (k+1) (by omega)|exact h3 _ _ _ _ _ _
  have h1:∀ (g:Int) (b:Bool) (f0 f1 f2 f3 f4:Int),∃ r,z0c.j1 (k+3) x g b p.f0 p.f1 p.f2 p.f3 p.f4 p.f5 f0 f1 f2 f3 f4=some r:=fun g b f0 f1 f2 f3 f4=>by
   rw [z0c.j1]
   repeat' split
   all_goals first|exact ⟨_,rfl⟩|exact h2 _ _ _ _ _ _ _
  obtain ⟨t,ht⟩:=chk_fun p hl (k:=k+3) (by omega) (x:Int);obtain ⟨u,hu⟩:=chk_fun p hl (k:=k+3) (by omega) ((x+1:Nat):Int);obtain ⟨v,hv⟩:=chk_goes (z0a p.f5 x).f0;rw [z0c.l0,if_pos (by omega),if_pos (by omega),ht,Option.bind_some,hv,Option.bind_some,hw,hu,Option.bind_some]
  repeat' split
  all_goals exact h1 _ _ _ _ _ _ _
theorem chk_l1 (p:Im) (hl:p.f4.length≤40) (hn:p.f5.length≤300):∀ (d k x:Nat),x+d=p.f5.length→d+1300≤k→∃ r,z0b.l1 k x p.f0 p.f1 p.f2 p.f3 p.f4 p.f5=some r
 | 0,k,x,h,hk=>by
  obtain ⟨k,rfl⟩:∃ i,k=i+1:=⟨k - 1,by omega⟩;obtain ⟨t,ht⟩:=chk_stray_l0 p hl hn p.f5.length k 0 (by omega) (by omega);rw [z0b.l1,if_neg (by omega)];unfold z0c.f;have ht:z0c.l0 k 0 p.f0 p.f1 p.f2 p.f3 p.f4 p.f5=some t:=by simpa using ht
  rw [ht,Option.bind_some]
  split <;> exact ⟨_,rfl⟩
 | d+1,k,x,h,hk=>by
  obtain ⟨k,rfl⟩:∃ i,k=i+1:=⟨k - 1,by omega⟩;obtain ⟨t,ht⟩:=chk_put (k:=k) (by omega) (z0a p.f5 x).f0 (z0a p.f5 x).f1 (z0a p.f5 x).f2 (z0a p.f5 x).f3 (z0a p.f5 x).f4;rw [z0b.l1,if_pos (by omega),if_pos (by omega),ht,Option.bind_some,show wrap64 ((x:Int)+1)=((x+1:Nat):Int) by unfold wrap64;omega]
  split
  ·exact chk_l1 p hl hn d k (x+1) (by omega) (by omega)
  ·exact ⟨_,rfl⟩
theorem chk_l0 (p:Im) (h1:1≤p.f4.length) (hl:p.f4.length≤40) (hn:p.f5.length≤300):∀ (d k x:Nat),x+d=p.f4.length→d+1700≤k→∃ r,z0b.l0 k x p.f0 p.f1 p.f2 p.f3 p.f4 p.f5=some r∧(r=0→z2r p)
 | 0,k,x,h,hk=>by
  obtain ⟨k,rfl⟩:∃ i,k=i+2:=⟨k - 2,by omega⟩;rw [z0b.l0,if_neg (by omega),show wrap64 ((p.f4.length:Int) - 1)=(p.f4.length:Int) - 1 by unfold wrap64;omega,if_pos (show 0≤(p.f4.length:Int) - 1 by omega),if_pos (show (p.f4.length:Int) - 1 < p.f4.length by omega)]
  split
  ·rw [z0b.j2,if_pos rfl];exact ⟨3,rfl,fun h=>by omega⟩
  ·rw [z0b.j2]
   by_cases hc:rd p.f4 ((p.f4.length:Int) - 1) ≥ p.f5.length
   ·rw [if_pos (decide_eq_true hc)];exact ⟨3,rfl,fun h=>by omega⟩
   ·rw [if_neg (by simpa using hc)];obtain ⟨r,hr⟩:=chk_l1 p hl hn p.f5.length k 0 (by omega) (by omega);exact ⟨r,by simpa using hr,fun _=>by unfold z2r;omega⟩
 | d+1,k,x,h,hk=>by
  obtain ⟨k,rfl⟩:∃ i,k=i+1:=⟨k - 1,by omega⟩;have ih:=chk_l0 p h1 hl hn d k (x+1) (by omega) (by omega);rw [z0b.l0,if_pos (by omega),show wrap64 ((x:Int)+1)=((x+1:Nat):Int) by unfold wrap64;omega];have h3:∃ r:Int,some (3:Int)=some r∧(r=0→z2r p):=⟨3,rfl,fun h=>by omega⟩
  by_cases hx:(x:Int)=0
  ·rw [if_pos hx,if_pos (by omega),if_neg (show ¬ ((x:Int) > 0) by omega)]
   split
   ·exact ih
   ·exact h3
  ·rw [if_neg hx,if_pos (show (x:Int) > 0 by omega),if_pos (show 0≤(x:Int) by omega),show wrap64 ((x:Int) - 1)=(x:Int) - 1 by unfold wrap64;omega,if_pos (show 0≤(x:Int) - 1 by omega),if_pos (show (x:Int) - 1 < p.f4.length by omega)]
   split
   ·exact h3
   ·exact ih
theorem chk_in3 (a lo hi:Int):z0l.f a lo hi=some (decide (lo≤a∧a≤hi)):=by
 unfold z0l.f
 by_cases h:a ≥ lo
 ·rw [if_pos h];simp [h]
 ·rw [if_neg h];simp [h]
theorem chk_f (p:Im) (hl:p.f4.length≤40) (hn:p.f5.length≤300):∃ r,z0b.f 1800 p.f0 p.f1 p.f2 p.f3 p.f4 p.f5=some r∧(r=0→z2r p):=by
 have hT:∃ r,z0b.j0 1800 true p.f0 p.f1 p.f2 p.f3 p.f4 p.f5=some r∧(r=0→z2r p):=by
  rw [z0b.j0,if_pos rfl];exact ⟨3,rfl,fun h=>by omega⟩
 unfold z0b.f;simp only [chk_in3,Option.bind_some]
 split
 ·split
  ·split
   ·split
    ·exact hT
    ·by_cases hc:1≤(p.f4.length:Int)∧(p.f4.length:Int)≤16
     ·rw [decide_eq_true hc];show ∃ r,z0b.j0 1800 false p.f0 p.f1 p.f2 p.f3 p.f4 p.f5=some r∧(r=0→z2r p);rw [z0b.j0,if_neg (by simp)];have:=chk_l0 p (by omega) hl hn p.f4.length 1799 0 (by omega) (by omega)
      simpa using this
     ·rw [decide_eq_false hc];exact hT
   ·exact hT
  ·exact hT
 ·exact hT
theorem right_f (p:Im) (hl:p.f4.length≤40) (hn:p.f5.length≤300):∃ b,z1j.f 1800 p.f0 p.f1 p.f2 p.f3 p.f4 p.f5=some b∧(b=true→z2r p):=by
 obtain ⟨r,hr,h⟩:=chk_f p hl hn;unfold z1j.f;rw [hr,Option.bind_some];exact ⟨_,rfl,fun e=>h (by simpa using e)⟩
end Go.Proofs.YtcbnhfnnjkkceaaGreat.X
end
section
namespace Go.Proofs.YtcbnhfnnjkkceaaGreat.X
open Go.RowKit Go.Proofs.YtcbnhfnnjkkceaaGreatW.PrintWords Go.Proofs.YtcbnhfnnjkkceaaGreatW.PrintLast Go.Proofs.YtcbnhfnnjkkceaaGreatW.PrintMore Go.Proofs.YtcbnhfnnjkkceaaGreat.Gr
theorem dist3 {nx:Int→List Int} {a b c:Int} {d:List Int} (hd:DistOf 3 nx a d) (ha:0≤a∧a < 3) (hb:0≤b∧b < 3) (hc:0≤c∧c < 3) (hab:a≠b) (hac:a≠c) (hbc:b≠c) (h1:nx a=[b]) (h2:nx b=[c]):rd d a=0∧rd d b=1∧rd d c=2:=by
 have w1:Way 3 nx a 1 b:=⟨a,rfl,ha,by rw [h1];simp⟩;have w2:Way 3 nx a 2 c:=⟨b,w1,hb,by rw [h2];simp⟩;have e0:=hd.least 0 a ha.1 ha.2 rfl;have e1:=hd.least 1 b hb.1 hb.2 w1;have e2:=hd.least 2 c hc.1 hc.2 w2;have v1:=hd.way b hb.1 hb.2 e1.1;have v2:=hd.way c hc.1 hc.2 e2.1;have hn0:∀ x,Way 3 nx a 0 x→x=a:=fun x h=>h
 have hn1:∀ x,Way 3 nx a 1 x→x=b:=fun x h=>by
  obtain ⟨u,hu,_,hx⟩:=h;have hu:u=a:=hu;rw [hu,h1] at hx
  simpa using hx
 refine ⟨by omega,?_,?_⟩
 ·rcases Int.lt_or_le (rd d b) 1 with h|h
  ·rw [show (rd d b).toNat=0 by omega] at v1;exact absurd (hn0 b v1).symm hab
  ·omega
 ·rcases Int.lt_or_le (rd d c) 1 with h|h
  ·rw [show (rd d c).toNat=0 by omega] at v2;exact absurd (hn0 c v2).symm hac
  ·rcases Int.lt_or_le (rd d c) 2 with h'|h'
   ·rw [show (rd d c).toNat=1 by omega] at v2;exact absurd (hn1 c v2).symm hbc
   ·omega
theorem list3 {d:List Int} (hl:d.length=3):d=[rd d 0,rd d 1,rd d 2]:=by
 match d,hl with
 | [x,y,z],_=>rfl
theorem p20_last:z2r p20:=by unfold z2r p20;decide
theorem p20_prev:prevL p20 1=[2]∧prevL p20 2=[0]:=by decide +kernel
theorem far20 {d:List Int} (h:DistOf p20.f5.length (nextL p20) 0 d):d=[0,2,1]:=by
 obtain ⟨h0,h1,h2⟩:=dist3 h (a:=0) (b:=2) (c:=1) (by omega) (by omega) (by omega) (by omega) (by omega) (by omega) p20_next.1 p20_next.2.1;rw [list3 h.len,h0,h1,h2]
theorem to20 {d:List Int} (h:DistOf p20.f5.length (prevL p20) 1 d):d=[2,0,1]:=by
 obtain ⟨h0,h1,h2⟩:=dist3 h (a:=1) (b:=2) (c:=0) (by omega) (by omega) (by omega) (by omega) (by omega) (by omega) p20_prev.1 p20_prev.2;rw [list3 h.len,h0,h1,h2]
theorem awake21_calls (w:World):Calls Tryz.prog 28 #[] w fun e w'=>e=.returned (.bool true)∧Below w.heap.size w w':=by
 have hb1:=z04 (Below.refl w.heap.size w) (Obj.cells #[.int .i64 0,.int .i64 2] 3);have hb2:=z04 hb1 (Obj.cells #[.int .i64 23,.int .i64 0,.int .i64 0,.int .i64 0,.int .u64 1,.int .i64 0,.int .i64 0,.int .i64 0,.int .i64 0,.int .u64 0,.int .i64 24,.int .i64 0,.int .i64 0,.int .i64 0,.int .u64 0] 79);have hf:=z06 (z0z w (Obj.cells #[.int .i64 0,.int .i64 2] 3)) (Obj.cells #[.int .i64 23,.int .i64 0,.int .i64 0,.int .i64 0,.int .u64 1,.int .i64 0,.int .i64 0,.int .i64 0,.int .i64 0,.int .u64 0,.int .i64 24,.int .i64 0,.int .i64 0,.int .i64 0,.int .u64 0] 79);have hc:=z0z (w.alloc (Obj.cells #[.int .i64 0,.int .i64 2] 3)) (Obj.cells #[.int .i64 23,.int .i64 0,.int .i64 0,.int .i64 0,.int .u64 1,.int .i64 0,.int .i64 0,.int .i64 0,.int .i64 0,.int .u64 0,.int .i64 24,.int .i64 0,.int .i64 0,.int .i64 0,.int .u64 0] 79);rw [show (w.alloc (Obj.cells #[.int .i64 0,.int .i64 2] 3)).heap.size=w.heap.size+1 by show (w.heap.push _).size=_;simp] at hc;have HNEW:=Aside0.mk (new_yes' p20 none 0 (some ⟨w.heap.size,0,none⟩) 2 (some ⟨w.heap.size+1,0,none⟩) 3 _ (Kd.C_nil (Kd.int .u8) _) (by decide) (ints_lit [0,2] (by decide) hf) (by decide) (code20_lit hc) (by decide) p20_wf p20_enc);have HB:=Aside0.mk hb2;clear hb1 hb2 hf hc
 go_enter Tryz.func28,Tryz.ntmps28
 go_wp2_with fail
 refine HNEW.out.mono ?_;rintro e w0 ⟨g,rfl,hG,hB⟩;have HG:=Aside0.mk hG;have HLG:Aside0 (w.heap.size≤g):=⟨Nat.le_trans HB.out.size hG.1⟩;have HBw:=Aside0.mk (z0y HB.out HB.out.size hB);obtain ⟨BB,hBB⟩:∃ n,(w.alloc (Obj.cells #[.int .i64 0,.int .i64 2] 3)).alloc (Obj.cells #[.int .i64 23,.int .i64 0,.int .i64 0,.int .i64 0,.int .u64 1,.int .i64 0,.int .i64 0,.int .i64 0,.int .i64 0,.int .u64 0,.int .i64 24,.int .i64 0,.int .i64 0,.int .i64 0,.int .u64 0] 79)=n:=⟨_,rfl⟩;rw [hBB] at HG;clear hG hB hBB HNEW HB;have HROW:=Aside0.mk (farFrom p20_rt HG.out (fun v h0 h1=>next_in p20_wf p20_enc p20_last ⟨h0,h1⟩) (by decide) (by decide) (a:=0))
 go_wp2_with fail
 refine HROW.out.mono ?_;rintro e w1' ⟨v,d,rfl,hR,hd,_,hG,hF⟩;have HGn:=Aside0.mk hG;have HBn:=Aside0.mk (fr_below hF HBw.out HBw.out.size HLG.out);clear HG HBw HROW;have HG:=HGn;have HBw:=HBn;clear HGn HBn;rw [far20 (hd (by decide)).1] at hR;obtain ⟨A,c,rfl⟩:=Kd.R_slice hR;have HI:=Aside0.mk (ints_calls true (Kd.C_below (Kd.R_reads' hR).2.2 (z04 (Below.refl _ _) (Obj.cells #[.int .i64 0,.int .i64 2,.int .i64 1] 3))) (Kd.R_reads' hR).2.1 (ints_lit [0,2,1] (by decide) (z0z w1' (Obj.cells #[.int .i64 0,.int .i64 2,.int .i64 1] 3))) (Nat.le_refl 3) (by decide) (by decide));clear hR hd hG hF
 go_wp2_with fail
 refine HI.out.mono ?_;rintro e w' ⟨rfl,nd,rfl⟩;have HGn:=Aside0.mk (HG.out.below (z2g (z04 (Below.refl _ _) (Obj.cells #[.int .i64 0,.int .i64 2,.int .i64 1] 3)) nd));have HBn:=Aside0.mk (z2g (z04 HBw.out (Obj.cells #[.int .i64 0,.int .i64 2,.int .i64 1] 3)) nd);clear HG HBw HI;have HG:=HGn;have HBw:=HBn;generalize (w1'.alloc (Obj.cells #[.int .i64 0,.int .i64 2,.int .i64 1] 3)).drewN nd=w1 at HG HBw ⊢;clear HGn HBn;have HROW:=Aside0.mk (farTo p20_rt HG.out (fun v _ _=>prev_in) (by decide) (by decide) (a:=1))
 go_wp2_with fail
 refine HROW.out.mono ?_;rintro e w2' ⟨v,d,rfl,hR,hd,_,hG,hF⟩;have HGn:=Aside0.mk hG;have HBn:=Aside0.mk (fr_below hF HBw.out HBw.out.size HLG.out);clear HG HBw HROW;have HG:=HGn;have HBw:=HBn;clear HGn HBn;rw [to20 (hd (by decide)).1] at hR;obtain ⟨A,c,rfl⟩:=Kd.R_slice hR;have HI:=Aside0.mk (ints_calls true (Kd.C_below (Kd.R_reads' hR).2.2 (z04 (Below.refl _ _) (Obj.cells #[.int .i64 2,.int .i64 0,.int .i64 1] 3))) (Kd.R_reads' hR).2.1 (ints_lit [2,0,1] (by decide) (z0z w2' (Obj.cells #[.int .i64 2,.int .i64 0,.int .i64 1] 3))) (Nat.le_refl 3) (by decide) (by decide));clear hR hd hG hF
 go_wp2_with fail
 refine HI.out.mono ?_;rintro e w' ⟨rfl,nd,rfl⟩;have HGn:=Aside0.mk (HG.out.below (z2g (z04 (Below.refl _ _) (Obj.cells #[.int .i64 2,.int .i64 0,.int .i64 1] 3)) nd));have HBn:=Aside0.mk (z2g (z04 HBw.out (Obj.cells #[.int .i64 2,.int .i64 0,.int .i64 1] 3)) nd);clear HG HBw HI;have HG:=HGn;have HBw:=HBn;generalize (w2'.alloc (Obj.cells #[.int .i64 2,.int .i64 0,.int .i64 1] 3)).drewN nd=w2 at HG HBw ⊢;clear HGn HBn;go_wp2;go_ret
 exact ⟨rfl,HBw.out⟩
def MadePost (w:World) (p:Im) (e:Ending) (w':World):Prop :=
 (e=.returned (.tuple #[.pointer none,.bool false])∧Below w.heap.size w w') ∨
 ∃ g B,e=.returned (.tuple #[.pointer (some ⟨g,0,none⟩),.bool true])∧w.heap.size≤g∧Gr w' g B p∧Below w.heap.size w w'∧encV p=0∧z2r p∧p.f3.length≤100∧p.f4.length≤40
theorem made_calls (p:Im) (A3:Option Addr) (c3:Nat) (A4:Option Addr) (c4:Nat) (A5:Option Addr) (c5:Nat) (w:World)
  (hr3:Kd.C (Kd.int .u8) w A3 p.f3.length p.f3) (hc3:p.f3.length≤c3) (hr4:Kd.C (Kd.int .i64) w A4 p.f4.length p.f4) (hc4:p.f4.length≤c4) (hr5:Kd.C k79 w A5 p.f5.length p.f5) (hc5:p.f5.length≤c5)
  (hw:wfP p) :
  Calls Tryz.prog 29 #[.agg #[.int .i64 p.f0,.int .i64 p.f1,.int .i64 p.f2,.slice A3 p.f3.length c3,.slice A4 p.f4.length c4,.slice A5 p.f5.length c5]] w (MadePost w p):=by
 have hb1:=z04 (Below.refl w.heap.size w) (Obj.cells #[.int .i64 p.f0,.int .i64 p.f1,.int .i64 p.f2,.slice A3 p.f3.length c3,.slice A4 p.f4.length c4,.slice A5 p.f5.length c5] 26);have BX1:=Aside0.mk (z0z w (Obj.cells #[.int .i64 p.f0,.int .i64 p.f1,.int .i64 p.f2,.slice A3 p.f3.length c3,.slice A4 p.f4.length c4,.slice A5 p.f5.length c5] 26));have HS1:Aside0 ((w.alloc (Obj.cells #[.int .i64 p.f0,.int .i64 p.f1,.int .i64 p.f2,.slice A3 p.f3.length c3,.slice A4 p.f4.length c4,.slice A5 p.f5.length c5] 26)).heap.size=w.heap.size+1):=⟨by show (w.heap.push _).size=_;simp⟩;have HC3:=Aside0.mk (Kd.C_below hr3 hb1);have HC4:=Aside0.mk (Kd.C_below hr4 hb1);have HC5:=Aside0.mk (Kd.C_below hr5 hb1);have HB1:=Aside0.mk hb1;clear hr3 hr4 hr5 hb1
 go_enter Tryz.func29,Tryz.ntmps29
 go_upto_region 1 with (fail)
 generalize w.alloc (Obj.cells #[.int .i64 p.f0,.int .i64 p.f1,.int .i64 p.f2,.slice A3 p.f3.length c3,.slice A4 p.f4.length c4,.slice A5 p.f5.length c5] 26)=W1 at BX1 HS1 HC3 HC4 HC5 HB1 ⊢;have k0:=z01 BX1.out 0;have k1:=z01 BX1.out 1;have k2:=z01 BX1.out 2;have k3:=z01 BX1.out 3;have k4:=z01 BX1.out 4;have k5:=z01 BX1.out 5
 by_cases h0:p.f5.length≤60
 rotate_left
 ·have hd0:decide ((p.f5.length:Int) > 60)=true:=decide_eq_true (by omega);have he0:decide (60 < (p.f5.length:Int))=true:=decide_eq_true (by omega);clear h0;go_wp2;go_ret2
  exact .inl ⟨rfl,HB1.out⟩
 have hd0:decide ((p.f5.length:Int) > 60)=false:=decide_eq_false (by omega);have he0:decide (60 < (p.f5.length:Int))=false:=decide_eq_false (by omega)
 by_cases h1:p.f3.length≤100
 rotate_left
 ·have hd1:decide ((p.f3.length:Int) > 100)=true:=decide_eq_true (by omega);have he1:decide (100 < (p.f3.length:Int))=true:=decide_eq_true (by omega);clear h1;go_wp2;go_ret2
  exact .inl ⟨rfl,HB1.out⟩
 have hd1:decide ((p.f3.length:Int) > 100)=false:=decide_eq_false (by omega);have he1:decide (100 < (p.f3.length:Int))=false:=decide_eq_false (by omega)
 by_cases h2:p.f4.length≤40
 rotate_left
 ·have hd2:decide ((p.f4.length:Int) > 40)=true:=decide_eq_true (by omega);have he2:decide (40 < (p.f4.length:Int))=true:=decide_eq_true (by omega);clear h2;go_wp2;go_ret2
  exact .inl ⟨rfl,HB1.out⟩
 have hd2:decide ((p.f4.length:Int) > 40)=false:=decide_eq_false (by omega);have he2:decide (40 < (p.f4.length:Int))=false:=decide_eq_false (by omega);obtain ⟨r,hr,hrl⟩:=right_f p h2 (by omega);have HR:=Aside0.mk (z1j.calls 1800 p.f0 p.f1 p.f2 A3 c3 p.f3 A4 c4 p.f4 A5 c5 p.f5 r W1 HC3.out hc3 HC4.out hc4 HC5.out hc5 hr);have HRL:=Aside0.mk hrl;have HH1:=Aside0.mk h1;have HH2:=Aside0.mk h2;clear hr hrl h0 h1 h2
 go_wp2_with fail
 refine HR.out.mono ?_;rintro e w3 ⟨rfl,hB⟩;have HC3:=Aside0.mk (Kd.C_below HC3.out hB);have HC4:=Aside0.mk (Kd.C_below HC4.out hB);have HC5:=Aside0.mk (Kd.C_below HC5.out hB);have BX3:=Aside0.mk ((hB.block w.heap.size (by rw [HS1.out];omega)).trans BX1.out);have HBn:=Aside0.mk (z0y HB1.out HB1.out.size hB);clear HB1 hB HR k0 k1 k2 k3 k4 k5;have HB1:=HBn;clear HBn;cases r with
 | false =>
  go_wp2;go_ret2
  exact .inl ⟨rfl,HB1.out⟩
 | true =>
  have k0:=z01 BX3.out 0;have k1:=z01 BX3.out 1;have k2:=z01 BX3.out 2;have k3:=z01 BX3.out 3;have k4:=z01 BX3.out 4;have k5:=z01 BX3.out 5
  by_cases h0:encV p=0
  rotate_left
  ·have HNEW:=Aside0.mk (new_no' p A3 c3 A4 c4 A5 c5 w3 HC3.out hc3 HC4.out hc4 HC5.out hc5 hw h0);have hz:(encV p == 0)=false:=by simpa using h0
   have HBN:=Aside0.mk (fun w' (h:Below w3.heap.size w3 w')=>z0y HB1.out HB1.out.size h);clear h0
   go_wp2_with fail
   refine HNEW.out.mono ?_;rintro e w4 ⟨rfl,hB⟩;have HBn:=Aside0.mk (HBN.out w4 hB);clear hB HNEW;go_wp2;go_ret2
   exact .inl ⟨rfl,HBn.out⟩
  ·have HNEW:=Aside0.mk (new_yes' p A3 c3 A4 c4 A5 c5 w3 HC3.out hc3 HC4.out hc4 HC5.out hc5 hw h0);have HZ:=Aside0.mk h0;clear h0
   go_wp2_with fail
   refine HNEW.out.mono ?_;rintro e w4 ⟨g,rfl,hG,hB⟩;have HE:Aside0 (MadePost w p (.returned (.tuple #[.pointer (some ⟨g,0,none⟩),.bool true])) w4):=⟨.inr ⟨g,_,rfl,Nat.le_trans HB1.out.size hG.1,hG,z0y HB1.out HB1.out.size hB,HZ.out,HRL.out (by simp),HH1.out,HH2.out⟩⟩;clear hG hB HNEW;go_wp2;go_ret2
   exact HE.out
section
variable {p:Im} (hw:wfP p) (hE:encV p=0) (hla:z2r p) {tr:List (Int × List Int)} (hT:Tr p tr)
include hw hE hla hT
theorem tr_in:∀ j:Nat,j < tr.length→0≤rd (tr.map (·.1)) (j:Int)∧rd (tr.map (·.1)) (j:Int) < p.f5.length:=by
 intro j hj;cases j with
 | zero =>
  have h0:tr[0]?=some (0,[]):=by rw [← List.head?_eq_getElem?];exact hT.hd
  have hf:=(encV_rt hw hE).fits;have hs:=(z2p.1 hE).1;have h1:=z34 hf (f:=(p.f4.length:Int) - 1) (by have:=hs.2.2.2.2.1;omega) (by omega);have hl:rd p.f4 ((p.f4.length:Int) - 1) < p.f5.length:=hla;rw [rd_map h0];simp only [];omega
 | succ j =>
  obtain ⟨a0,a1,a2⟩:=tr_next hw hE hT (j:=j) hj;exact next_in hw hE hla ⟨a0,a1⟩ _ a2
theorem tr_way (f:Nat):∀ k:Nat,f+k < tr.length→Way p.f5.length (nextL p) (rd (tr.map (·.1)) (f:Int)) k (rd (tr.map (·.1)) ((f+k:Nat):Int))
 | 0,_=>rfl
 | k+1,h=>⟨_,tr_way f k (by omega),tr_in hw hE hla hT (f+k) (by omega),(tr_next hw hE hT (j:=f+k) h).2.2⟩
end
theorem farRuns_law (p:Im) (A3:Option Addr) (c3:Nat) (A4:Option Addr) (c4:Nat) (A5:Option Addr) (c5:Nat) (Ai:Option Addr) (ci:Nat) (inp:List Int) (steps:Int) (fr:Int) (w:World)
  (hr3:Kd.C (Kd.int .u8) w A3 p.f3.length p.f3) (hc3:p.f3.length≤c3) (hr4:Kd.C (Kd.int .i64) w A4 p.f4.length p.f4) (hc4:p.f4.length≤c4) (hr5:Kd.C k79 w A5 p.f5.length p.f5) (hc5:p.f5.length≤c5)
  (hw:wfP p) (hin:Kd.C (Kd.int .u8) w Ai inp.length inp) (hsw:Gr.wfI steps) (hfw:Gr.wfI fr) :
  Calls Tryz.prog 6 #[.agg #[.int .i64 p.f0,.int .i64 p.f1,.int .i64 p.f2,.slice A3 p.f3.length c3,.slice A4 p.f4.length c4,.slice A5 p.f5.length c5],.slice Ai inp.length ci,.int .i64 steps,.int .i64 fr] w fun e w'=>e=.returned (.bool true)∧Below w.heap.size w w':=by
 have hb1:=z04 (Below.refl w.heap.size w) (Obj.cells #[.int .i64 p.f0,.int .i64 p.f1,.int .i64 p.f2,.slice A3 p.f3.length c3,.slice A4 p.f4.length c4,.slice A5 p.f5.length c5] 26);have BX1:=Aside0.mk (z0z w (Obj.cells #[.int .i64 p.f0,.int .i64 p.f1,.int .i64 p.f2,.slice A3 p.f3.length c3,.slice A4 p.f4.length c4,.slice A5 p.f5.length c5] 26));have HS1:Aside0 ((w.alloc (Obj.cells #[.int .i64 p.f0,.int .i64 p.f1,.int .i64 p.f2,.slice A3 p.f3.length c3,.slice A4 p.f4.length c4,.slice A5 p.f5.length c5] 26)).heap.size=w.heap.size+1):=⟨by show (w.heap.push _).size=_;simp⟩;have HC3:=Aside0.mk (Kd.C_below hr3 hb1);have HC4:=Aside0.mk (Kd.C_below hr4 hb1);have HC5:=Aside0.mk (Kd.C_below hr5 hb1);have HB1:=Aside0.mk hb1;have HCI:=Aside0.mk (Kd.C_below hin hb1);clear hr3 hr4 hr5 hin hb1;have HAW:=Aside0.mk (awake21_calls (w.alloc (Obj.cells #[.int .i64 p.f0,.int .i64 p.f1,.int .i64 p.f2,.slice A3 p.f3.length c3,.slice A4 p.f4.length c4,.slice A5 p.f5.length c5] 26)))
 go_enter Tryz.func6,Tryz.ntmps6
 go_wp2_with fail
 generalize w.alloc (Obj.cells #[.int .i64 p.f0,.int .i64 p.f1,.int .i64 p.f2,.slice A3 p.f3.length c3,.slice A4 p.f4.length c4,.slice A5 p.f5.length c5] 26)=W1 at BX1 HS1 HC3 HC4 HC5 HCI HB1 HAW ⊢;refine HAW.out.mono ?_;rintro e w2 ⟨rfl,hB⟩;rw [HS1.out] at hB;have HBw:=Aside0.mk hB;have hbk:=(hB.block w.heap.size (by omega)).trans BX1.out;have HC3:=Aside0.mk (Kd.C_below HC3.out (by rw [HS1.out];exact hB));have HC4:=Aside0.mk (Kd.C_below HC4.out (by rw [HS1.out];exact hB));have HC5:=Aside0.mk (Kd.C_below HC5.out (by rw [HS1.out];exact hB));have HCI:=Aside0.mk (Kd.C_below HCI.out (by rw [HS1.out];exact hB));have k0:=z01 hbk 0;have k1:=z01 hbk 1;have k2:=z01 hbk 2;have k3:=z01 hbk 3;have k4:=z01 hbk 4;have k5:=z01 hbk 5;have HMD:=Aside0.mk (made_calls p A3 c3 A4 c4 A5 c5 w2 HC3.out hc3 HC4.out hc4 HC5.out hc5 hw);have HSW:Aside0 (w.heap.size+1≤w2.heap.size):=⟨by rw [← HS1.out];exact hB.size⟩;clear hB hbk HAW
 go_wp2_with fail
 refine HMD.out.mono ?_;rintro e w3 (⟨rfl,hB⟩|⟨g,BB,rfl,hg0,hG,hB,h0,hla,h3,h4⟩)
 ·have HBn:=Aside0.mk (z0y HBw.out (by rw [← HS1.out];exact HBw.out.size) hB);clear HBw hB HMD k0 k1 k2 k3 k4 k5;go_wp2;go_ret
  exact ⟨rfl,z0y HB1.out HB1.out.size (by rw [HS1.out];exact HBn.out)⟩
 have HRUN:=Aside0.mk (run_calls hw (ci:=ci) steps (Kd.C_below HC3.out hB) hc3 (Kd.C_below HC4.out hB) hc4 (Kd.C_below HC5.out hB) hc5 (Kd.C_below HCI.out hB));have hbk:=(hB.block w.heap.size (by have:=HBw.out.size;have:=HS1.out;omega)).trans ((HBw.out.block w.heap.size (by omega)).trans BX1.out);have HE0:=Aside0.mk (And.intro h0 hla);have HLG:Aside0 (w.heap.size+1≤g):=⟨Nat.le_trans HSW.out hg0⟩;have HBn:=Aside0.mk (z0y HBw.out (by rw [← HS1.out];exact HBw.out.size) hB);have HG:=Aside0.mk hG;have hrt:=encV_rt hw h0;have HRT:=Aside0.mk hrt;have HNX:Aside0 (∀ v:Int,0≤v→v < p.f5.length→∀ u ∈ nextL p v,0≤u∧u < p.f5.length):=⟨fun v a b=>next_in hw h0 hla ⟨a,b⟩⟩;have H3:=Aside0.mk h3;have H4:=Aside0.mk h4;have H256:=Aside0.mk hrt.fits.2.2.1;clear HBw hB hG hg0 h0 hla h3 h4 hrt HMD k0 k1 k2 k3 k4 k5;have HBw:=HBn;clear HBn;have k0:=z01 hbk 0;have k1:=z01 hbk 1;have k2:=z01 hbk 2;have k3:=z01 hbk 3;have k4:=z01 hbk 4;have k5:=z01 hbk 5;clear hbk;have HBn:=HBw
 by_cases hil:(inp.length:Int) > 40
 ·have hd1:decide ((inp.length:Int) > 40)=true:=decide_eq_true hil;have hd2:decide (40 < (inp.length:Int))=true:=decide_eq_true hil;go_wp2;go_ret
  exact ⟨rfl,z0y HB1.out HB1.out.size (by rw [HS1.out];exact HBn.out)⟩
 have hd1:decide ((inp.length:Int) > 40)=false:=decide_eq_false hil;have hd2:decide (40 < (inp.length:Int))=false:=decide_eq_false hil
 by_cases hst:steps > 300
 ·have hd3:decide (steps > 300)=true:=decide_eq_true hst;have hd4:decide (300 < steps)=true:=decide_eq_true hst;go_wp2;go_ret
  exact ⟨rfl,z0y HB1.out HB1.out.size (by rw [HS1.out];exact HBn.out)⟩
 have hd3:decide (steps > 300)=false:=decide_eq_false hst;have hd4:decide (300 < steps)=false:=decide_eq_false hst
 go_wp2_with fail
 refine HRUN.out.mono ?_;rintro e w5 ⟨pv,mv,en,err,rg,l,rfl,⟨am,nm,cm,rfl⟩,hq,hB5,hor⟩;have HB5:=Aside0.mk (z0y HBn.out (by rw [← HS1.out];exact HBn.out.size) hB5);have HG5:=Aside0.mk (HG.out.below hB5);have hgl:g < w3.heap.size:=HG.out.lt;have HOR:=Aside0.mk hor;have HQ:=Aside0.mk hq;obtain ⟨ap,cp,rfl,_⟩:=hq.slice;have HGL:=Aside0.mk hgl;clear k0 k1 k2 k3 k4 k5 HRUN hor hq hB5 hgl;unfold TrC
 by_cases hf0:fr < 0
 ·have he0:decide (fr < 0)=true:=decide_eq_true hf0;go_wp2;go_ret
  exact ⟨rfl,z0y HB1.out HB1.out.size (by rw [HS1.out];exact bel_alloc HB5.out (HSZ5 HB5.out HS1.out) _)⟩
 have he0:decide (fr < 0)=false:=decide_eq_false hf0
 by_cases hf1:fr ≥ (l.length:Int)
 ·have he1:decide (fr ≥ (l.length:Int))=true:=decide_eq_true hf1;have he2:decide ((l.length:Int)≤fr)=true:=decide_eq_true hf1;go_wp2;go_ret
  exact ⟨rfl,z0y HB1.out HB1.out.size (by rw [HS1.out];exact bel_alloc HB5.out (HSZ5 HB5.out HS1.out) _)⟩
 have he1:decide (fr ≥ (l.length:Int))=false:=decide_eq_false hf1;have he2:decide ((l.length:Int)≤fr)=false:=decide_eq_false hf1;obtain ⟨f,rfl⟩:∃ f:Nat,fr=(f:Int):=⟨fr.toNat,by omega⟩;have hfl:f < l.length:=by omega
 obtain ⟨pb,po,cp',epv,hpb,hpl,hcells⟩:=que_path HQ.out (by omega);cases epv
 rcases HOR.out with hor|hor|hor
 ·exact absurd HE0.out.1 hor.1
 ·have:=hor.2.2.2;rw [this] at hfl;simp at hfl
 obtain ⟨_,_,rfl,hl1,hl2,tr,hT,hlt⟩:=hor;have hlen:l.length=tr.length:=by rw [hlt,List.length_map]
 have HGI:Aside0 (GI (w.heap.size+1) W1 g BB p w5.heap.size pb po l (TrC (.slice (some ⟨pb,po,none⟩) l.length cp) en rg (.slice am nm cm)) (w5.alloc (Obj.cells (TrC (.slice (some ⟨pb,po,none⟩) l.length cp) en rg (.slice am nm cm)) 46))):=⟨by
  have hbl:=z04 (Below.refl w5.heap.size w5) (Obj.cells (TrC (.slice (some ⟨pb,po,none⟩) l.length cp) en rg (.slice am nm cm)) 46);have hsz:=HB5.out.size;rw [HS1.out] at hsz;have hgl:=HGL.out;exact ⟨Nat.le_trans hsz hbl.size,HG5.out.below hbl,bel_alloc HB5.out (HSZ5 HB5.out HS1.out) _,z0z w5 _,fun j hj=>(World.cell?_of_block (a:=⟨pb,po+j,none⟩) (hbl.block pb hpl)).trans (hcells j hj),HLG.out,by have:=HG5.out.lt;omega,by omega,Nat.lt_of_lt_of_le hpl hbl.size⟩⟩
 have HTR:=Aside0.mk (And.intro hT hlt);have HLN:=Aside0.mk (And.intro hlen hl1);have HIN:Aside0 (∀ j:Nat,j < l.length→0≤rd l (j:Int)∧rd l (j:Int) < p.f5.length):=⟨fun j hj=>by rw [hlt];exact tr_in hw HE0.out.1 HE0.out.2 hT j (by omega)⟩;have HWAY:Aside0 (∀ k:Nat,f+k < l.length→Way p.f5.length (nextL p) (rd l (f:Int)) k (rd l ((f+k:Nat):Int))):=⟨fun k hk=>by rw [hlt];exact tr_way hw HE0.out.1 HE0.out.2 hT f k (by omega)⟩;clear hl1 hl2 hT hlt hcells HG5 HG HB5 HBn HBw HQ HOR hlen hpb hpl;unfold TrC at HGI
 go_upto_region 9 with (fail)
 generalize w5.alloc (Obj.cells #[.slice (some ⟨pb,po,none⟩) l.length cp,.int .i64 en,.int .u64 (rg 0),.int .u64 (rg 1),.int .u64 (rg 2),.int .u64 (rg 3),.int .u64 (rg 4),.int .u64 (rg 5),.int .u64 (rg 6),.int .u64 (rg 7),.slice am nm cm] 46)=w6 at HGI ⊢;generalize w5.heap.size=bt at HGI ⊢;obtain ⟨tc,htc⟩:∃ tc:Array Value,#[.slice (some ⟨pb,po,none⟩) l.length cp,.int .i64 en,.int .u64 (rg 0),.int .u64 (rg 1),.int .u64 (rg 2),.int .u64 (rg 3),.int .u64 (rg 4),.int .u64 (rg 5),.int .u64 (rg 6),.int .u64 (rg 7),.slice am nm cm]=tc:=⟨_,rfl⟩;have htc0:tc[0]?=some (.slice (some ⟨pb,po,none⟩) l.length cp):=by rw [← htc];rfl
 rw [htc] at HGI;have HTC:=Aside0.mk htc0;clear htc htc0;have ct:w6.cell? ⟨bt,0,none⟩=some (.slice (some ⟨pb,po,none⟩) l.length cp):=(z01 HGI.out.tr 0).trans HTC.out;obtain ⟨xa,hxa⟩:∃ z,rd l (f:Int)=z:=⟨_,rfl⟩;have cf:w6.cell? ⟨pb,po+f,none⟩=some (.int .i64 xa):=by rw [← hxa];exact HGI.out.pth f hfl
 have HXA:=Aside0.mk hxa;have hp0:(0≤(f:Int))=True:=eq_true (by omega);have hp1:((f:Int) < (l.length:Int))=True:=eq_true (by omega);have HFR:=Aside0.mk (farFrom HRT.out HGI.out.gr HNX.out H3.out H4.out (a:=xa));have HFL:=Aside0.mk hfl;clear hxa
 go_wp2_with fail
 refine HFR.out.mono ?_;rintro e w7 ⟨v,d,rfl,hR,hd,hn,hG,hF⟩;obtain ⟨Ad,cd,rfl⟩:=Kd.R_slice hR;have hxin:0≤xa∧xa < p.f5.length:=by rw [← HXA.out];exact HIN.out f HFL.out
 have HDI:=Aside0.mk (hd hxin).1;have HGI7:=Aside0.mk (HGI.out.fr hG hF);have HR7:=Aside0.mk (Kd.R_lower hR (Nat.zero_le _));have HDL:Aside0 (d.length=p.f5.length):=⟨(hd hxin).1.len⟩;clear hR hd hn hG hF HGI HFR ct cf hxin;go_wp2
 go_loopw [14] (fun v14 wr=>∃ i:Nat,v14=.int .i64 i∧Aside0 (f≤i∧i≤l.length)∧Aside0 (GI (w.heap.size+1) W1 g BB p bt pb po l tc wr)∧Aside0 (Kd.R (Kd.int .i64) 3 wr 0 (fun _=>True) (.slice Ad d.length cd) d)) (fun v _=>l.length - (intOf v).toNat)
 case atStart=>exact ⟨f,rfl,⟨Nat.le_refl _,by have:=HFL.out;omega⟩,HGI7,HR7⟩
 case round =>
  clear HGI7 HR7;obtain ⟨i,rfl,hi,hI,hRd⟩:=hrel;obtain ⟨wo,rfl⟩:∃ wo:World,wo=wr:=⟨_,rfl⟩;have ct:wo.cell? ⟨bt,0,none⟩=some (.slice (some ⟨pb,po,none⟩) l.length cp):=(z01 hI.out.tr 0).trans HTC.out
  by_cases hlt:i < l.length
  ·have hkd:decide ((i:Int) < (l.length:Int))=true:=decide_eq_true (by omega);have hxb0:=HIN.out i hlt;have hway:=HWAY.out (i - f) (by have:=hi.out;omega);rw [show f+(i - f)=i by have:=hi.out;omega,HXA.out] at hway;have hle:=HDI.out.least (i - f) _ hxb0.1 hxb0.2 hway;obtain ⟨xb,hxb⟩:∃ z,rd l (i:Int)=z:=⟨_,rfl⟩;have cb:wo.cell? ⟨pb,po+i,none⟩=some (.int .i64 xb):=by rw [← hxb];exact hI.out.pth i hlt
   rw [hxb] at hxb0 hle;obtain ⟨ad,eA,hc⟩:=Kd.at_int (Kd.R_reads' hRd.out).2.2 xb hxb0.1 (by rw [HDL.out];exact hxb0.2);obtain ⟨dz,hdz⟩:∃ z,rd d xb=z:=⟨_,rfl⟩;rw [hdz] at hc hle;subst eA;have hif:((i - f:Nat):Int)=(i:Int) - (f:Int):=by have:=hi.out;omega
   rw [hif] at hle;have hwi:IntKind.i64.wrap ((i:Int)+1)=(i:Int)+1:=IntWalk.i64_in _ (by have:=HLN.out;omega);have hws:IntKind.i64.wrap ((i:Int) - (f:Int))=(i:Int) - (f:Int):=IntWalk.i64_in _ (by have:=HLN.out;have:=HFL.out;omega);have hp2:(0≤(i:Int))=True:=eq_true (by omega);have hp3:((i:Int) < (l.length:Int))=True:=eq_true (by omega);have hp4:(0≤xb)=True:=eq_true hxb0.1;have hp5:(xb < (d.length:Int))=True:=eq_true (by rw [HDL.out];exact hxb0.2);have hg1:decide (xb ≥ (d.length:Int))=false:=decide_eq_false (by rw [HDL.out];omega);have hg2:decide ((d.length:Int)≤xb)=false:=decide_eq_false (by rw [HDL.out];omega);have hg2':¬ (d.length:Int)≤xb:=by rw [HDL.out];omega
   have hg3:decide (dz < 0)=false:=decide_eq_false (by omega);have hg3':¬ dz < 0:=by omega
   have hg4:decide (dz > (i:Int) - (f:Int))=false:=decide_eq_false (by omega);have hg5:decide ((i:Int) - (f:Int) < dz)=false:=decide_eq_false (by omega);have hg5':¬ (i:Int) - (f:Int) < dz:=by omega
   clear hxb hdz hif hway hxb0 hle;go_wp2
   go_roundw
   case rel=>exact ⟨i+1,by go_num,⟨by have:=hi.out;omega⟩,hI,hRd⟩
   case measure=>simp [intOf];omega
  ·have hkd:decide ((i:Int) < (l.length:Int))=false:=decide_eq_false (by omega);go_wp2;go_ret
   exact ⟨rfl,z0y HB1.out HB1.out.size (by rw [HS1.out];exact hI.out.bel)⟩
end Go.Proofs.YtcbnhfnnjkkceaaGreat.X
end
section
namespace Go.Proofs.YtcbnhfnnjkkceaaGreat.farRuns
open Go.ChangeShapes Go.WideShapes Go.ChangeAt Go.RowKit
theorem own:ownKnob Tryz.prog.godebug=none:=by kernel_rfl
theorem laidOut:laidOutB Tryz.prog=true:=by kernel_rfl
theorem lifted (os:Os) (started:os.Started) (H:Type) (enc:TypeId × Value→H) :
  ReturnsInHanded {} Tryz.checked os 6 .any (Rows.farRunsSpec.pre6 enc Tryz.prog Tryz.f6 Rows.farRunsRow.domain false) (Rows.farRunsSpec.post enc Tryz.prog Tryz.f6 false true false false):=by
 refine returnsInHanded_of_change_sized (C:=Tryz.checked) own started (by kernel_rfl) Tryz.func6
  (ChangeSpec.witness6 (enc:=enc) (C:=Tryz.checked) false ⟨#[],#[.agg #[.int .i64 0,.int .i64 0,.int .i64 0,.slice none 0 0,.slice none 0 0,.slice none 0 0],.slice none 0 0,.int .i64 0,.int .i64 0],[]⟩ 8 (by kernel_rfl) (by kernel_rfl) (by kernel_rfl) (by kernel_rfl)) ?_
 intro W base args ds gs before hval0 hW hcnd hsz0 _;have hsz:(DataW.weightsEach Tryz.prog (Tryz.f6.params.toList ++ Rows.farRunsSpec.plain.varTypes Tryz.prog) (ds ++ gs)).all (·≤reachBytes)=true:=hsz0;have hval:∀ (j:Nat) t v,Tryz.f6.params[j]?=some t→args[j]?=some v→Value.okWide Tryz.prog W .any base t v:=hval0;have hW':=hW;obtain ⟨p,q,hA0,hV,rfl,hfz,hnd⟩:=hW;have hA:DataW.TrodAll enc Tryz.prog W 0 (fun _=>true) true Tryz.f6.params.toList args.toList ds p:=hA0;rw [Tryz.params6] at hA hval hsz;obtain ⟨v0,vs0,d0,ds0,p0,q0,hargs,rfl,rfl,h0,r0⟩:=trodAll_cons hA;obtain ⟨v1,vs1,d1,ds1,p1,q1,rfl,rfl,rfl,h1,r1⟩:=trodAll_cons r0;obtain ⟨v2,vs2,d2,ds2,p2,q2,rfl,rfl,rfl,h2,r2⟩:=trodAll_cons r1;obtain ⟨v3,vs3,d3,ds3,p3,q3,rfl,rfl,rfl,h3,r3⟩:=trodAll_cons r2;obtain ⟨rfl,rfl,rfl⟩:=trodAll_nil r3;obtain rfl:args=#[v0,v1,v2,v3]:=by cases args;simp_all
 obtain ⟨rfl,rfl⟩:=trodVars_none hV;have k0:=h0;have lt0:∀ x ∈ p0,x.block < W.heap.size:=by obtain ⟨m,hm⟩:=k0;exact DataW.trod_lt m _ _ _ hm
 obtain ⟨im0,A3_0,c3_0,A4_0,c4_0,A5_0,c5_0,rfl,hr3_0,hc3_0,hr4_0,hc4_0,hr5_0,hc5_0,hw0⟩:=X.open_image (hval 0 26 v0 rfl rfl) h0;have k1:=h1;have lt1:∀ x ∈ p1,x.block < W.heap.size:=by obtain ⟨m,hm⟩:=k1;exact DataW.trod_lt m _ _ _ hm
 obtain ⟨l1,a1,cap1,rfl,hr1,hc1⟩:=X.open_bytes (hval 1 22 v1 rfl rfl) h1;obtain ⟨a2,rfl,rfl,rfl,w2⟩:=open_int Tryz.underlying3 (hval 2 3 v2 rfl rfl) h2;obtain ⟨a3,rfl,rfl,rfl,w3⟩:=open_int Tryz.underlying3 (hval 3 3 v3 rfl rfl) h3;clear hA0 hval0 hsz0 hsz;refine (X.farRuns_law im0 A3_0 c3_0 A4_0 c4_0 A5_0 c5_0 a1 cap1 l1 a2 a3 W hr3_0 hc3_0 hr4_0 hc4_0 hr5_0 hc5_0 hw0 hr1 w2 w3).mono fun e W' ⟨he,bel⟩=>?_
 subst he;exact ⟨_,rfl,_,_,_,[],_,[],hW',trodAll_mk1 (shut_bool Tryz.underlying4 _),(trodAll_cons_mk (Below.trod laidOut (by kernel_rfl) (of_decide_eq_true (by kernel_rfl)) k0 bel lt0) (trodAll_cons_mk (Below.trod laidOut (by kernel_rfl) (of_decide_eq_true (by kernel_rfl)) k1 bel lt1) (trodAll_cons_mk (shut_int Tryz.underlying3 w2) (trodAll_cons_mk (shut_int Tryz.underlying3 w3) trodAll_mk0)))),rfl,bel.frame _,fun h=>by cases h⟩
theorem over:Rows.farRunsRow.holds Tryz.pinned (OpenSpec.ofChange Rows.farRunsSpec) :=
 OpenClaim.holds_of_wide 6 Tryz.f6 rfl rfl rfl rfl rfl rfl rfl ⟨rfl,rfl,rfl,rfl,rfl⟩ rfl rfl rfl rfl rfl (by kernel_rfl) Tryz.func6 (by kernel_rfl)
  (of_decide_eq_true (by kernel_rfl)) (by unfold Func.isWrapper;first|(rw [if_pos (by decide +kernel)];kernel_rfl)|(rw [if_neg (by decide +kernel)];exact ⟨rfl,rfl⟩))
  (fun os started H enc _=>lifted os started H enc)
theorem proved:Rows.FarRunsSaid:=over
#print axioms proved
end Go.Proofs.YtcbnhfnnjkkceaaGreat.farRuns
namespace Go.Proofs.YtcbnhfnnjkkceaaGreat
theorem farRuns_holds:Rows.FarRunsSaid:=farRuns.proved
end Go.Proofs.YtcbnhfnnjkkceaaGreat
end
