/- For the statement of the row : what its proof needs of the text M7. -/
import Derived.Test.YtcbnhfnnjkkceaaGreatOM1
import Derived.Test.YtcbnhfnnjkkceaaGreatOM2
import Derived.Test.YtcbnhfnnjkkceaaGreatOM3
import Derived.Test.YtcbnhfnnjkkceaaGreatOM4
import Derived.Test.YtcbnhfnnjkkceaaGreatOM5
set_option maxHeartbeats 8000000
set_option maxRecDepth 100000
set_option linter.unusedSimpArgs false
set_option linter.unusedVariables false

section
namespace Go.Proofs.YtcbnhfnnjkkceaaGreat.X
open Go.RowKit Go.Proofs.YtcbnhfnnjkkceaaGreatW.PrintWords Go.Proofs.YtcbnhfnnjkkceaaGreatW.PrintLast Go.Proofs.YtcbnhfnnjkkceaaGreatW.PrintMore
attribute [local go_sem] z1w z1x z23 z26 z1r z1q z1u z1v
attribute [local go_sem] z1w z1x z23 z26 z1r z1q z1u z1v
attribute [local go_sem] z1w z1x z23 z26 z1r z1q z1u z1v
def z1a.l0:Nat→List Int→Int→Int→Option (Bool)
 | 0,_,_,_=>none
 | k+1,x0,x1,x5=>if x5 < (x0.length:Int) then (if 0≤x5 then (if (rd x0 x5)=x1 then (some true) else (z1a.l0 k x0 x1 (wrap64 (x5+1)))) else (none)) else (some false)
def z1a.f (k:Nat) (l0:List Int) (a1:Int):Option (Bool):=z1a.l0 k l0 a1 0
theorem z1a.mono_l:∀ k,(∀ y0 y1 y2,LeO (z1a.l0 k y0 y1 y2) (z1a.l0 (k+1) y0 y1 y2))
 | 0=>fun _ _ _ r h=>by simp [z1a.l0] at h
 | k+1=>by
  have ih0:=z1a.mono_l k
  ·intro y0 y1 y2;unfold z1a.l0
   repeat' first|exact ih0 _ _ _|exact LeO.none _|refine LeO.ite ?_ ?_|refine LeO.bind ?_ (fun _=>?_)|exact LeO.refl _
theorem z1a.mono:∀ a0 a1 k,LeO (z1a.f k a0 a1) (z1a.f (k+1) a0 a1):=by
 intro a0 a1 k;have ih0:=z1a.mono_l k;unfold z1a.f
 repeat' first|exact ih0 _ _ _|exact LeO.none _|refine LeO.ite ?_ ?_|refine LeO.bind ?_ (fun _=>?_)|exact LeO.refl _
theorem z1a.calls (k:Nat) (A0:Option Addr) (c0:Nat) (l0:List Int) (a1:Int) (r:Bool) (w:World) (hr0:Kd.C (Kd.int .i64) w A0 l0.length l0) (hc0:l0.length≤c0) (h:z1a.f k l0 a1=some r) :
  Calls Tryz.prog 36 #[.slice A0 l0.length c0,.int .i64 a1] w fun e w'=>e=.returned (.bool r)∧Drawn0 w w':=by
 have HR0:=Aside0.mk hr0;have HC0:=Aside0.mk hc0;clear hr0 hc0;have H:(z1a.l0 k l0 a1 0)=some r:=h;clear h;have H':=Aside0.mk H;clear H
 go_enter Tryz.func36,Tryz.ntmps36
 go_wp2
 go_loopg [5] k (fun kq v5 w'=>∃ (x5_1:Int),v5=.int .i64 x5_1∧Aside0 (z1a.l0 kq l0 a1 x5_1=some r)∧Aside0 (kq≤k)∧Drawn0 w w')
 case atStart=>exact ⟨(0),(by first|rfl|(simp;done)|(simp [*];done)),H',⟨Nat.le_refl _⟩,by repeat (first|exact Drawn0.refl _|apply Drawn0.step)⟩
 case round =>
  clear H';obtain ⟨x5_1,rfl,HA,HK1,⟨m1,rfl⟩⟩:=hrel;cases gk with
  | zero=>exact absurd HA.out (by simp [z1a.l0])
  | succ k1 =>
   have H:=HA.out;clear HA;simp only [z1a.l0] at H
   by_cases c3:x5_1 < (l0.length:Int)
   ·rw [if_pos c3] at H;have c3b0:decide (x5_1 < (l0.length:Int))=true:=decide_eq_true c3;clear c3
    by_cases c4:0≤x5_1
    ·rw [if_pos c4] at H;have c4b0:decide (0≤x5_1)=true:=decide_eq_true c4;clear c4
     by_cases c5:(rd l0 x5_1)=a1
     ·rw [if_pos c5] at H;have c5b0:((rd l0 x5_1) == a1)=true:=beq_iff_eq.mpr c5;have c5b1:((rd l0 x5_1) != a1)=false:=bne_eq_false_iff_eq.mpr c5;clear c5;obtain rfl:=Option.some.inj H;have p305:0≤(x5_1:Int):=of_decide_eq_true (by assumption);have q305:x5_1 < (l0.length:Int):=of_decide_eq_true (by assumption);obtain ⟨ad305,e305,hx305_0⟩:=Kd.at_int HR0.out x5_1 p305 q305;cases e305;replace p305:=eq_true p305;replace q305:=eq_true q305;go_wp2;go_ret
      exact ⟨by first|rfl|(simp;done)|(simp [*];done),by repeat (first|exact Drawn0.refl _|apply Drawn0.step)⟩
     ·rw [if_neg c5] at H;have c5b0:((rd l0 x5_1) == a1)=false:=beq_eq_false_iff_ne.mpr c5;have c5b1:((rd l0 x5_1) != a1)=true:=bne_iff_ne.mpr c5;have H':=Aside0.mk H;clear H;have p305:0≤(x5_1:Int):=of_decide_eq_true (by assumption);have q305:x5_1 < (l0.length:Int):=of_decide_eq_true (by assumption);obtain ⟨ad305,e305,hx305_0⟩:=Kd.at_int HR0.out x5_1 p305 q305;cases e305;replace p305:=eq_true p305;replace q305:=eq_true q305;go_wp2
      go_roundg k1
      case measure=>have:=HK1.out;omega
      case rel=>exact ⟨(wrap64 (x5_1+1)),(by first|rfl|(simp;done)|(simp [*];done)),H',⟨by have:=HK1.out;omega⟩,by repeat (first|exact Drawn0.refl _|apply Drawn0.step)⟩
    ·rw [if_neg c4] at H;exact absurd H (by simp)
   ·rw [if_neg c3] at H;have c3b0:decide (x5_1 < (l0.length:Int))=false:=decide_eq_false c3;clear c3;obtain rfl:=Option.some.inj H;go_wp2;go_ret
    exact ⟨by first|rfl|(simp;done)|(simp [*];done),by repeat (first|exact Drawn0.refl _|apply Drawn0.step)⟩
def z10.l0:Nat→List (List Int)→List (List Int)→Int→Option (Bool)
 | 0,_,_,_=>none
 | k+1,x0,x1,x5=>if x5 < (x0.length:Int) then (if 0≤x5 then (if x5 < (x1.length:Int) then ((z0v.f k (rd_L7 x0 x5) (rd_L7 x1 x5)).bind fun t308=>(if t308=true then (z10.l0 k x0 x1 (wrap64 (x5+1))) else (some false))) else (none)) else (none)) else (some true)
def z10.f (k:Nat) (l0:List (List Int)) (l1:List (List Int)):Option (Bool):=if (l0.length:Int)=(l1.length:Int) then (z10.l0 k l0 l1 0) else (some false)
theorem z10.mono_l:∀ k,(∀ y0 y1 y2,LeO (z10.l0 k y0 y1 y2) (z10.l0 (k+1) y0 y1 y2))
 | 0=>fun _ _ _ r h=>by simp [z10.l0] at h
 | k+1=>by
  have ih0:=z10.mono_l k
  ·intro y0 y1 y2;unfold z10.l0
   repeat' first|exact ih0 _ _ _|exact z0v.mono _ _ _|exact LeO.none _|refine LeO.ite ?_ ?_|refine LeO.bind ?_ (fun _=>?_)|exact LeO.refl _
theorem z10.mono:∀ a0 a1 k,LeO (z10.f k a0 a1) (z10.f (k+1) a0 a1):=by
 intro a0 a1 k;have ih0:=z10.mono_l k;unfold z10.f
 repeat' first|exact ih0 _ _ _|exact z0v.mono _ _ _|exact LeO.none _|refine LeO.ite ?_ ?_|refine LeO.bind ?_ (fun _=>?_)|exact LeO.refl _
theorem z10.calls (k:Nat) (A0:Option Addr) (c0:Nat) (l0:List (List Int)) (A1:Option Addr) (c1:Nat) (l1:List (List Int)) (r:Bool) (w:World) (hr0:Kd.C (Kd.slice 3 (Kd.int .i64)) w A0 l0.length l0) (hc0:l0.length≤c0) (hr1:Kd.C (Kd.slice 3 (Kd.int .i64)) w A1 l1.length l1) (hc1:l1.length≤c1) (h:z10.f k l0 l1=some r) :
  Calls Tryz.prog 42 #[.slice A0 l0.length c0,.slice A1 l1.length c1] w fun e w'=>e=.returned (.bool r)∧Drawn0 w w':=by
 have HR0:=Aside0.mk hr0;have HC0:=Aside0.mk hc0;clear hr0 hc0;have HR1:=Aside0.mk hr1;have HC1:=Aside0.mk hc1;clear hr1 hc1;have H:(if (l0.length:Int)=(l1.length:Int) then (z10.l0 k l0 l1 0) else (some false))=some r:=h;clear h
 by_cases c3:(l0.length:Int)=(l1.length:Int)
 ·rw [if_pos c3] at H;have c3b0:((l0.length:Int) == (l1.length:Int))=true:=beq_iff_eq.mpr c3;have c3b1:((l0.length:Int) != (l1.length:Int))=false:=bne_eq_false_iff_eq.mpr c3;have c3b2:(l0.length == l1.length)=true:=by first|simpa using c3|(simp at c3 ⊢;omega)
  clear c3;have H':=Aside0.mk H;clear H
  go_enter Tryz.func42,Tryz.ntmps42
  go_wp2
  repeat (go_quiet (fail);try go_wp2)
  go_loopg [5] k (fun kq v5 w'=>∃ (x5_1:Int),v5=.int .i64 x5_1∧Aside0 (z10.l0 kq l0 l1 x5_1=some r)∧Aside0 (kq≤k)∧Drawn0 w w')
  case atStart=>exact ⟨(0),(by first|rfl|(simp;done)|(simp [*];done)),H',⟨Nat.le_refl _⟩,by repeat (first|exact Drawn0.refl _|apply Drawn0.step)⟩
  case round =>
   clear H';obtain ⟨x5_1,rfl,HA,HK1,⟨m1,rfl⟩⟩:=hrel;cases gk with
   | zero=>exact absurd HA.out (by simp [z10.l0])
   | succ k1 =>
    have H:=HA.out;clear HA;simp only [z10.l0] at H
    by_cases c4:x5_1 < (l0.length:Int)
    ·rw [if_pos c4] at H;have c4b0:decide (x5_1 < (l0.length:Int))=true:=decide_eq_true c4;clear c4
     by_cases c5:0≤x5_1
     ·rw [if_pos c5] at H;have c5b0:decide (0≤x5_1)=true:=decide_eq_true c5;clear c5
      by_cases c6:x5_1 < (l1.length:Int)
      ·rw [if_pos c6] at H;have c6b0:decide (x5_1 < (l1.length:Int))=true:=decide_eq_true c6;clear c6;replace H:=Option.bind_eq_some_iff.mp H;obtain ⟨t308,A70,H⟩:=H;skip;have A7:=Aside0.mk A70;clear A70
       by_cases c8:t308=true
       ·subst c8;have H1:(z10.l0 k1 l0 l1 (wrap64 (x5_1+1)))=some r:=(by rw [if_pos rfl] at H;exact H);clear H;have H:=H1;clear H1;have H':=Aside0.mk H;clear H;have p306:0≤(x5_1:Int):=of_decide_eq_true (by assumption);have q306:x5_1 < (l0.length:Int):=of_decide_eq_true (by assumption);obtain ⟨ad306,A306_0,c306_0,e306,hx306_0,hl306_0,hi306_0⟩:=at_L7 HR0.out x5_1 p306 q306;cases e306;have HR306_0:=Aside0.mk hi306_0;have HC306_0:=Aside0.mk hl306_0;clear hi306_0 hl306_0;replace p306:=eq_true p306;replace q306:=eq_true q306;have p307:0≤(x5_1:Int):=of_decide_eq_true (by assumption);have q307:x5_1 < (l1.length:Int):=of_decide_eq_true (by assumption);obtain ⟨ad307,A307_0,c307_0,e307,hx307_0,hl307_0,hi307_0⟩:=at_L7 HR1.out x5_1 p307 q307;cases e307;have HR307_0:=Aside0.mk hi307_0;have HC307_0:=Aside0.mk hl307_0;clear hi307_0 hl307_0;replace p307:=eq_true p307;replace q307:=eq_true q307
        go_wp2_with (first|(go_at_call 19;(with_reducible refine (z0v.calls k1 _ _ (rd_L7 l0 x5_1) _ _ (rd_L7 l1 x5_1) true _ ?side1 ?side2 ?side3 ?side4 A7.out).mono ?_);(case side1=>repeat (first|exact HR306_0.out|(with_reducible refine Kd.C_alloc ?_ _)|(with_reducible refine Kd.C_drewN ?_ _)|(with_reducible refine Kd.C_drew ?_)));(case side2=>exact HC306_0.out);(case side3=>repeat (first|exact HR307_0.out|(with_reducible refine Kd.C_alloc ?_ _)|(with_reducible refine Kd.C_drewN ?_ _)|(with_reducible refine Kd.C_drew ?_)));(case side4=>exact HC307_0.out);rintro e w' ⟨rfl,⟨nd,rfl⟩⟩;(try first|exact ⟨rfl,_,zqa _ _ _⟩|exact ⟨rfl,_,zqb _ _ _ _⟩)))
        repeat (go_quiet (first|(go_at_call 19;(with_reducible refine (z0v.calls k1 _ _ (rd_L7 l0 x5_1) _ _ (rd_L7 l1 x5_1) true _ ?side1 ?side2 ?side3 ?side4 A7.out).mono ?_);(case side1=>repeat (first|exact HR306_0.out|(with_reducible refine Kd.C_alloc ?_ _)|(with_reducible refine Kd.C_drewN ?_ _)|(with_reducible refine Kd.C_drew ?_)));(case side2=>exact HC306_0.out);(case side3=>repeat (first|exact HR307_0.out|(with_reducible refine Kd.C_alloc ?_ _)|(with_reducible refine Kd.C_drewN ?_ _)|(with_reducible refine Kd.C_drew ?_)));(case side4=>exact HC307_0.out);rintro e w' ⟨rfl,⟨nd,rfl⟩⟩;(try first|exact ⟨rfl,_,zqa _ _ _⟩|exact ⟨rfl,_,zqb _ _ _ _⟩)));try go_wp2_with (first|(go_at_call 19;(with_reducible refine (z0v.calls k1 _ _ (rd_L7 l0 x5_1) _ _ (rd_L7 l1 x5_1) true _ ?side1 ?side2 ?side3 ?side4 A7.out).mono ?_);(case side1=>repeat (first|exact HR306_0.out|(with_reducible refine Kd.C_alloc ?_ _)|(with_reducible refine Kd.C_drewN ?_ _)|(with_reducible refine Kd.C_drew ?_)));(case side2=>exact HC306_0.out);(case side3=>repeat (first|exact HR307_0.out|(with_reducible refine Kd.C_alloc ?_ _)|(with_reducible refine Kd.C_drewN ?_ _)|(with_reducible refine Kd.C_drew ?_)));(case side4=>exact HC307_0.out);rintro e w' ⟨rfl,⟨nd,rfl⟩⟩;(try first|exact ⟨rfl,_,zqa _ _ _⟩|exact ⟨rfl,_,zqb _ _ _ _⟩))))
        go_roundg k1
        case measure=>have:=HK1.out;omega
        case rel=>exact ⟨(wrap64 (x5_1+1)),(by first|rfl|(simp;done)|(simp [*];done)),H',⟨by have:=HK1.out;omega⟩,by repeat (first|exact Drawn0.refl _|apply Drawn0.step)⟩
       ·replace c8:=Bool.eq_false_iff.mpr c8;subst c8;have H1:(some false)=some r:=(by rw [if_neg (show ¬ (false=true) by decide)] at H;exact H);clear H;have H:=H1;clear H1;obtain rfl:=Option.some.inj H;have p306:0≤(x5_1:Int):=of_decide_eq_true (by assumption);have q306:x5_1 < (l0.length:Int):=of_decide_eq_true (by assumption);obtain ⟨ad306,A306_0,c306_0,e306,hx306_0,hl306_0,hi306_0⟩:=at_L7 HR0.out x5_1 p306 q306;cases e306;have HR306_0:=Aside0.mk hi306_0;have HC306_0:=Aside0.mk hl306_0;clear hi306_0 hl306_0;replace p306:=eq_true p306;replace q306:=eq_true q306;have p307:0≤(x5_1:Int):=of_decide_eq_true (by assumption);have q307:x5_1 < (l1.length:Int):=of_decide_eq_true (by assumption);obtain ⟨ad307,A307_0,c307_0,e307,hx307_0,hl307_0,hi307_0⟩:=at_L7 HR1.out x5_1 p307 q307;cases e307;have HR307_0:=Aside0.mk hi307_0;have HC307_0:=Aside0.mk hl307_0;clear hi307_0 hl307_0;replace p307:=eq_true p307;replace q307:=eq_true q307
        go_wp2_with (first|(go_at_call 19;(with_reducible refine (z0v.calls k1 _ _ (rd_L7 l0 x5_1) _ _ (rd_L7 l1 x5_1) false _ ?side1 ?side2 ?side3 ?side4 A7.out).mono ?_);(case side1=>repeat (first|exact HR306_0.out|(with_reducible refine Kd.C_alloc ?_ _)|(with_reducible refine Kd.C_drewN ?_ _)|(with_reducible refine Kd.C_drew ?_)));(case side2=>exact HC306_0.out);(case side3=>repeat (first|exact HR307_0.out|(with_reducible refine Kd.C_alloc ?_ _)|(with_reducible refine Kd.C_drewN ?_ _)|(with_reducible refine Kd.C_drew ?_)));(case side4=>exact HC307_0.out);rintro e w' ⟨rfl,⟨nd,rfl⟩⟩;(try first|exact ⟨rfl,_,zqa _ _ _⟩|exact ⟨rfl,_,zqb _ _ _ _⟩)))
        repeat (go_quiet (first|(go_at_call 19;(with_reducible refine (z0v.calls k1 _ _ (rd_L7 l0 x5_1) _ _ (rd_L7 l1 x5_1) false _ ?side1 ?side2 ?side3 ?side4 A7.out).mono ?_);(case side1=>repeat (first|exact HR306_0.out|(with_reducible refine Kd.C_alloc ?_ _)|(with_reducible refine Kd.C_drewN ?_ _)|(with_reducible refine Kd.C_drew ?_)));(case side2=>exact HC306_0.out);(case side3=>repeat (first|exact HR307_0.out|(with_reducible refine Kd.C_alloc ?_ _)|(with_reducible refine Kd.C_drewN ?_ _)|(with_reducible refine Kd.C_drew ?_)));(case side4=>exact HC307_0.out);rintro e w' ⟨rfl,⟨nd,rfl⟩⟩;(try first|exact ⟨rfl,_,zqa _ _ _⟩|exact ⟨rfl,_,zqb _ _ _ _⟩)));try go_wp2_with (first|(go_at_call 19;(with_reducible refine (z0v.calls k1 _ _ (rd_L7 l0 x5_1) _ _ (rd_L7 l1 x5_1) false _ ?side1 ?side2 ?side3 ?side4 A7.out).mono ?_);(case side1=>repeat (first|exact HR306_0.out|(with_reducible refine Kd.C_alloc ?_ _)|(with_reducible refine Kd.C_drewN ?_ _)|(with_reducible refine Kd.C_drew ?_)));(case side2=>exact HC306_0.out);(case side3=>repeat (first|exact HR307_0.out|(with_reducible refine Kd.C_alloc ?_ _)|(with_reducible refine Kd.C_drewN ?_ _)|(with_reducible refine Kd.C_drew ?_)));(case side4=>exact HC307_0.out);rintro e w' ⟨rfl,⟨nd,rfl⟩⟩;(try first|exact ⟨rfl,_,zqa _ _ _⟩|exact ⟨rfl,_,zqb _ _ _ _⟩))))
        go_ret
        exact ⟨by first|rfl|(simp;done)|(simp [*];done),by repeat (first|exact Drawn0.refl _|apply Drawn0.step)⟩
      ·rw [if_neg c6] at H;exact absurd H (by simp)
     ·rw [if_neg c5] at H;exact absurd H (by simp)
    ·rw [if_neg c4] at H;have c4b0:decide (x5_1 < (l0.length:Int))=false:=decide_eq_false c4;clear c4;obtain rfl:=Option.some.inj H;go_wp2
     repeat (go_quiet (fail);try go_wp2)
     go_ret
     exact ⟨by first|rfl|(simp;done)|(simp [*];done),by repeat (first|exact Drawn0.refl _|apply Drawn0.step)⟩
 ·rw [if_neg c3] at H;have c3b0:((l0.length:Int) == (l1.length:Int))=false:=beq_eq_false_iff_ne.mpr c3;have c3b1:((l0.length:Int) != (l1.length:Int))=true:=bne_iff_ne.mpr c3;have c3b2:(l0.length == l1.length)=false:=by first|simpa using c3|(simp at c3 ⊢;omega)
  obtain rfl:=Option.some.inj H
  go_enter Tryz.func42,Tryz.ntmps42
  go_wp2
  repeat (go_quiet (fail);try go_wp2)
  go_ret
  exact ⟨by first|rfl|(simp;done)|(simp [*];done),by repeat (first|exact Drawn0.refl _|apply Drawn0.step)⟩
end Go.Proofs.YtcbnhfnnjkkceaaGreat.X
end
