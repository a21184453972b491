/- For the statement of the row : what its proof needs of the text M12. -/
import Derived.Test.YtcbnhfnnjkkceaaGreatOM1
import Derived.Test.YtcbnhfnnjkkceaaGreatOM2
import Derived.Test.YtcbnhfnnjkkceaaGreatOM3
import Derived.Test.YtcbnhfnnjkkceaaGreatOM4
import Derived.Test.YtcbnhfnnjkkceaaGreatOM5
import Derived.Test.YtcbnhfnnjkkceaaGreatOM7
import Derived.Test.YtcbnhfnnjkkceaaGreatOM8
import Derived.Test.YtcbnhfnnjkkceaaGreatOM9
import Derived.Test.YtcbnhfnnjkkceaaGreatOM10
import Derived.Test.YtcbnhfnnjkkceaaGreatOM11
set_option maxHeartbeats 8000000
set_option maxRecDepth 100000
set_option linter.unusedSimpArgs false
set_option linter.unusedVariables false

section
namespace Go.Proofs.YtcbnhfnnjkkceaaGreat.X
open Go.RowKit Go.Proofs.YtcbnhfnnjkkceaaGreatW.PrintWords Go.Proofs.YtcbnhfnnjkkceaaGreatW.PrintLast Go.Proofs.YtcbnhfnnjkkceaaGreatW.PrintMore
attribute [local go_sem] z1w z1x z23 z26 z1r z1q z1u z1v
mutual
def z0b.j0:Nat→Bool→Int→Int→Int→List Int→List Int→List (S79)→Option (Int)
 | 0,_,_,_,_,_,_,_=>none
 | k+1,x37,xaa,xab,xac,xad,xae,xaf=>if x37=true then (some 3) else (z0b.l0 k 0 xaa xab xac xad xae xaf)
def z0b.l0:Nat→Int→Int→Int→Int→List Int→List Int→List (S79)→Option (Int)
 | 0,_,_,_,_,_,_,_=>none
 | k+1,x3,xaa,xab,xac,xad,xae,xaf=>if x3 < (xae.length:Int) then (if x3=0 then (if 0≤x3 then (if (rd xae x3)=0 then (if x3 > 0 then (if 0≤(wrap64 (x3 - 1)) then (if (wrap64 (x3 - 1)) < (xae.length:Int) then (if (rd xae x3)≤(rd xae (wrap64 (x3 - 1))) then (some 3) else (z0b.l0 k (wrap64 (x3+1)) xaa xab xac xad xae xaf)) else (none)) else (none)) else (z0b.l0 k (wrap64 (x3+1)) xaa xab xac xad xae xaf)) else (some 3)) else (none)) else (if x3 > 0 then (if 0≤x3 then (if 0≤(wrap64 (x3 - 1)) then (if (wrap64 (x3 - 1)) < (xae.length:Int) then (if (rd xae x3)≤(rd xae (wrap64 (x3 - 1))) then (some 3) else (z0b.l0 k (wrap64 (x3+1)) xaa xab xac xad xae xaf)) else (none)) else (none)) else (none)) else (z0b.l0 k (wrap64 (x3+1)) xaa xab xac xad xae xaf))) else (if (xaf.length:Int) > 256 then (z0b.j2 k true xaa xab xac xad xae xaf) else (if 0≤(wrap64 ((xae.length:Int) - 1)) then (if (wrap64 ((xae.length:Int) - 1)) < (xae.length:Int) then (z0b.j2 k (decide ((rd xae (wrap64 ((xae.length:Int) - 1))) ≥ (xaf.length:Int))) xaa xab xac xad xae xaf) else (none)) else (none)))
def z0b.j2:Nat→Bool→Int→Int→Int→List Int→List Int→List (S79)→Option (Int)
 | 0,_,_,_,_,_,_,_=>none
 | k+1,x90,xaa,xab,xac,xad,xae,xaf=>if x90=true then (some 3) else (z0b.l1 k 0 xaa xab xac xad xae xaf)
def z0b.l1:Nat→Int→Int→Int→Int→List Int→List Int→List (S79)→Option (Int)
 | 0,_,_,_,_,_,_,_=>none
 | k+1,x4,xaa,xab,xac,xad,xae,xaf=>if x4 < (xaf.length:Int) then (if 0≤x4 then ((z0r.f k ((z0a xaf x4).f0) ((z0a xaf x4).f1) ((z0a xaf x4).f2) ((z0a xaf x4).f3) ((z0a xaf x4).f4)).bind fun bt237=>(if bt237.2=0 then (z0b.l1 k (wrap64 (x4+1)) xaa xab xac xad xae xaf) else (some bt237.2))) else (none)) else ((z0c.f k xaa xab xac xad xae xaf).bind fun t241=>(if t241 ≥ 0 then (some 7) else (some 0)))
end
def z0b.f (k:Nat) (a0_0:Int) (a0_1:Int) (a0_2:Int) (l0_3:List Int) (l0_4:List Int) (l0_5:List (S79)):Option (Int):=(z0l.f a0_0 0 64).bind fun t226=>(if t226=true then ((z0l.f a0_1 0 16).bind fun t227=>(if t227=true then ((z0l.f a0_2 0 16).bind fun t228=>(if t228=true then (if (l0_3.length:Int) > a0_0 then (z0b.j0 k true a0_0 a0_1 a0_2 l0_3 l0_4 l0_5) else ((z0l.f (l0_4.length:Int) 1 16).bind fun t229=>(z0b.j0 k (!t229) a0_0 a0_1 a0_2 l0_3 l0_4 l0_5))) else (z0b.j0 k true a0_0 a0_1 a0_2 l0_3 l0_4 l0_5))) else (z0b.j0 k true a0_0 a0_1 a0_2 l0_3 l0_4 l0_5))) else (z0b.j0 k true a0_0 a0_1 a0_2 l0_3 l0_4 l0_5))
theorem z0b.mono_l:∀ k,(∀ y0 y1 y2 y3 y4 y5 y6,LeO (z0b.j0 k y0 y1 y2 y3 y4 y5 y6) (z0b.j0 (k+1) y0 y1 y2 y3 y4 y5 y6))∧(∀ y0 y1 y2 y3 y4 y5 y6,LeO (z0b.l0 k y0 y1 y2 y3 y4 y5 y6) (z0b.l0 (k+1) y0 y1 y2 y3 y4 y5 y6))∧(∀ y0 y1 y2 y3 y4 y5 y6,LeO (z0b.j2 k y0 y1 y2 y3 y4 y5 y6) (z0b.j2 (k+1) y0 y1 y2 y3 y4 y5 y6))∧(∀ y0 y1 y2 y3 y4 y5 y6,LeO (z0b.l1 k y0 y1 y2 y3 y4 y5 y6) (z0b.l1 (k+1) y0 y1 y2 y3 y4 y5 y6))
 | 0=>⟨fun _ _ _ _ _ _ _ r h=>by simp [z0b.j0] at h,fun _ _ _ _ _ _ _ r h=>by simp [z0b.l0] at h,fun _ _ _ _ _ _ _ r h=>by simp [z0b.j2] at h,fun _ _ _ _ _ _ _ r h=>by simp [z0b.l1] at h⟩
 | k+1=>by
  obtain ⟨ih0,ih1,ih2,ih3⟩:=z0b.mono_l k;refine ⟨?_,?_,?_,?_⟩
  ·intro y0 y1 y2 y3 y4 y5 y6;unfold z0b.j0
   repeat' first|exact ih0 _ _ _ _ _ _ _|exact ih1 _ _ _ _ _ _ _|exact ih2 _ _ _ _ _ _ _|exact ih3 _ _ _ _ _ _ _|exact z0r.mono _ _ _ _ _ _|exact z0c.mono _ _ _ _ _ _ _|exact LeO.none _|refine LeO.ite ?_ ?_|refine LeO.bind ?_ (fun _=>?_)|exact LeO.refl _
  ·intro y0 y1 y2 y3 y4 y5 y6;unfold z0b.l0
   repeat' first|exact ih0 _ _ _ _ _ _ _|exact ih1 _ _ _ _ _ _ _|exact ih2 _ _ _ _ _ _ _|exact ih3 _ _ _ _ _ _ _|exact z0r.mono _ _ _ _ _ _|exact z0c.mono _ _ _ _ _ _ _|exact LeO.none _|refine LeO.ite ?_ ?_|refine LeO.bind ?_ (fun _=>?_)|exact LeO.refl _
  ·intro y0 y1 y2 y3 y4 y5 y6;unfold z0b.j2
   repeat' first|exact ih0 _ _ _ _ _ _ _|exact ih1 _ _ _ _ _ _ _|exact ih2 _ _ _ _ _ _ _|exact ih3 _ _ _ _ _ _ _|exact z0r.mono _ _ _ _ _ _|exact z0c.mono _ _ _ _ _ _ _|exact LeO.none _|refine LeO.ite ?_ ?_|refine LeO.bind ?_ (fun _=>?_)|exact LeO.refl _
  ·intro y0 y1 y2 y3 y4 y5 y6;unfold z0b.l1
   repeat' first|exact ih0 _ _ _ _ _ _ _|exact ih1 _ _ _ _ _ _ _|exact ih2 _ _ _ _ _ _ _|exact ih3 _ _ _ _ _ _ _|exact z0r.mono _ _ _ _ _ _|exact z0c.mono _ _ _ _ _ _ _|exact LeO.none _|refine LeO.ite ?_ ?_|refine LeO.bind ?_ (fun _=>?_)|exact LeO.refl _
theorem z0b.mono:∀ a0 a1 a2 a3 a4 a5 k,LeO (z0b.f k a0 a1 a2 a3 a4 a5) (z0b.f (k+1) a0 a1 a2 a3 a4 a5):=by
 intro a0 a1 a2 a3 a4 a5 k;obtain ⟨ih0,ih1,ih2,ih3⟩:=z0b.mono_l k;unfold z0b.f
 repeat' first|exact ih0 _ _ _ _ _ _ _|exact ih1 _ _ _ _ _ _ _|exact ih2 _ _ _ _ _ _ _|exact ih3 _ _ _ _ _ _ _|exact z0r.mono _ _ _ _ _ _|exact z0c.mono _ _ _ _ _ _ _|exact LeO.none _|refine LeO.ite ?_ ?_|refine LeO.bind ?_ (fun _=>?_)|exact LeO.refl _
theorem z0b.calls (k:Nat) (a0_0:Int) (a0_1:Int) (a0_2:Int) (A0_3:Option Addr) (c0_3:Nat) (l0_3:List Int) (A0_4:Option Addr) (c0_4:Nat) (l0_4:List Int) (A0_5:Option Addr) (c0_5:Nat) (l0_5:List (S79)) (r:Int) (w:World) (hr0_3:Kd.C (Kd.int .u8) w A0_3 l0_3.length l0_3) (hc0_3:l0_3.length≤c0_3) (hr0_4:Kd.C (Kd.int .i64) w A0_4 l0_4.length l0_4) (hc0_4:l0_4.length≤c0_4) (hr0_5:Kd.C k79 w A0_5 l0_5.length l0_5) (hc0_5:l0_5.length≤c0_5) (h:z0b.f k a0_0 a0_1 a0_2 l0_3 l0_4 l0_5=some r) :
  Calls Tryz.prog 16 #[.agg #[.int .i64 a0_0,.int .i64 a0_1,.int .i64 a0_2,.slice A0_3 l0_3.length c0_3,.slice A0_4 l0_4.length c0_4,.slice A0_5 l0_5.length c0_5]] w fun e w'=>e=.returned (.int .i64 r)∧Below w.heap.size w w':=by
 have hu26:=Tryz.underlying26;have hu79:=Tryz.underlying79;have HR0_3:=Aside0.mk hr0_3;have HC0_3:=Aside0.mk hc0_3;clear hr0_3 hc0_3;have HR0_4:=Aside0.mk hr0_4;have HC0_4:=Aside0.mk hc0_4;clear hr0_4 hc0_4;have HR0_5:=Aside0.mk hr0_5;have HC0_5:=Aside0.mk hc0_5;clear hr0_5 hc0_5;have HB:=Aside0.mk (Below.refl w.heap.size w);have H:((z0l.f a0_0 0 64).bind fun t226=>(if t226=true then ((z0l.f a0_1 0 16).bind fun t227=>(if t227=true then ((z0l.f a0_2 0 16).bind fun t228=>(if t228=true then (if (l0_3.length:Int) > a0_0 then (z0b.j0 k true a0_0 a0_1 a0_2 l0_3 l0_4 l0_5) else ((z0l.f (l0_4.length:Int) 1 16).bind fun t229=>(z0b.j0 k (!t229) a0_0 a0_1 a0_2 l0_3 l0_4 l0_5))) else (z0b.j0 k true a0_0 a0_1 a0_2 l0_3 l0_4 l0_5))) else (z0b.j0 k true a0_0 a0_1 a0_2 l0_3 l0_4 l0_5))) else (z0b.j0 k true a0_0 a0_1 a0_2 l0_3 l0_4 l0_5)))=some r:=h;clear h;have HC2:=Aside0.mk H;clear H
 go_enter Tryz.func16,Tryz.ntmps16
 go_upto_region 1 with (first|((with_reducible refine z15 (N:=1) rfl ?_);(try (refine z20 (by rfl) ?_;dsimp only));refine z1e ?hg (N:=1) ?hd (cs:=#[.int .i64 a0_0,.int .i64 a0_1,.int .i64 a0_2,.slice A0_3 l0_3.length c0_3,.slice A0_4 l0_4.length c0_4,.slice A0_5 l0_5.length c0_5]) (t:=26) ?hr ?_;(case hd=>rfl);(case hg=>rfl);(case hr=>first|(go_simp;done)|(go_simp;rfl));intro gb225 hg w3 hbox hb;have n0_:=Aside0.mk (z0t (by repeat (first|exact HB.out|apply z04|apply z03|apply z05)) hb);have n1_:=Aside0.mk (hbox);have n2_:=Aside0.mk ((by rw [hg];exact (z0o (by repeat (first|exact HB.out|apply z04|apply z03|apply z05))):w.heap.size≤gb225));have n3_:=Aside0.mk ((by rw [hg];exact (z0o (by repeat (first|exact HB.out|apply z04|apply z03|apply z05))):w.heap.size≤gb225));clear HB;have HB:=n0_;have BK225:=n1_;have GW225:=n2_;have GE225:=n3_;clear n0_ n1_ n2_ n3_;clear hb hbox hg))
 repeat (go_quiet (first|((with_reducible refine z15 (N:=1) rfl ?_);(try (refine z20 (by rfl) ?_;dsimp only));refine z1e ?hg (N:=1) ?hd (cs:=#[.int .i64 a0_0,.int .i64 a0_1,.int .i64 a0_2,.slice A0_3 l0_3.length c0_3,.slice A0_4 l0_4.length c0_4,.slice A0_5 l0_5.length c0_5]) (t:=26) ?hr ?_;(case hd=>rfl);(case hg=>rfl);(case hr=>first|(go_simp;done)|(go_simp;rfl));intro gb225 hg w3 hbox hb;have n0_:=Aside0.mk (z0t (by repeat (first|exact HB.out|apply z04|apply z03|apply z05)) hb);have n1_:=Aside0.mk (hbox);have n2_:=Aside0.mk ((by rw [hg];exact (z0o (by repeat (first|exact HB.out|apply z04|apply z03|apply z05))):w.heap.size≤gb225));have n3_:=Aside0.mk ((by rw [hg];exact (z0o (by repeat (first|exact HB.out|apply z04|apply z03|apply z05))):w.heap.size≤gb225));clear HB;have HB:=n0_;have BK225:=n1_;have GW225:=n2_;have GE225:=n3_;clear n0_ n1_ n2_ n3_;clear hb hbox hg));go_upto_region 1 with (first|((with_reducible refine z15 (N:=1) rfl ?_);(try (refine z20 (by rfl) ?_;dsimp only));refine z1e ?hg (N:=1) ?hd (cs:=#[.int .i64 a0_0,.int .i64 a0_1,.int .i64 a0_2,.slice A0_3 l0_3.length c0_3,.slice A0_4 l0_4.length c0_4,.slice A0_5 l0_5.length c0_5]) (t:=26) ?hr ?_;(case hd=>rfl);(case hg=>rfl);(case hr=>first|(go_simp;done)|(go_simp;rfl));intro gb225 hg w3 hbox hb;have n0_:=Aside0.mk (z0t (by repeat (first|exact HB.out|apply z04|apply z03|apply z05)) hb);have n1_:=Aside0.mk (hbox);have n2_:=Aside0.mk ((by rw [hg];exact (z0o (by repeat (first|exact HB.out|apply z04|apply z03|apply z05))):w.heap.size≤gb225));have n3_:=Aside0.mk ((by rw [hg];exact (z0o (by repeat (first|exact HB.out|apply z04|apply z03|apply z05))):w.heap.size≤gb225));clear HB;have HB:=n0_;have BK225:=n1_;have GW225:=n2_;have GE225:=n3_;clear n0_ n1_ n2_ n3_;clear hb hbox hg)))
 (try simp only [Act.put,zq1,zq2,zq3])
 go_cut [37] (fun v37 wc=>∃ (kq:Nat) (x37_1:Bool),v37=.bool x37_1∧Aside0 (z0b.j0 kq x37_1 a0_0 a0_1 a0_2 l0_3 l0_4 l0_5=some r)∧Aside0 (kq≤k)∧Aside0 (wc.heap[gb225]?=some (.cells #[.int .i64 a0_0,.int .i64 a0_1,.int .i64 a0_2,(.slice A0_3 l0_3.length c0_3),(.slice A0_4 l0_4.length c0_4),(.slice A0_5 l0_5.length c0_5)] 26 (0,0)))∧Aside0 (Below w.heap.size w wc))
 case first =>
  have H:=HC2.out;clear HC2;replace H:=Option.bind_eq_some_iff.mp H;obtain ⟨t226,A40,H⟩:=H;skip;have A4:=Aside0.mk A40;clear A40
  by_cases c5:t226=true
  ·subst c5;rw [if_pos rfl] at H;replace H:=Option.bind_eq_some_iff.mp H;obtain ⟨t227,A60,H⟩:=H;skip;have A6:=Aside0.mk A60;clear A60
   by_cases c7:t227=true
   ·subst c7;have H1:((z0l.f a0_2 0 16).bind fun t228=>(if t228=true then (if (l0_3.length:Int) > a0_0 then (z0b.j0 k true a0_0 a0_1 a0_2 l0_3 l0_4 l0_5) else ((z0l.f (l0_4.length:Int) 1 16).bind fun t229=>(z0b.j0 k (!t229) a0_0 a0_1 a0_2 l0_3 l0_4 l0_5))) else (z0b.j0 k true a0_0 a0_1 a0_2 l0_3 l0_4 l0_5)))=some r:=(by rw [if_pos rfl] at H;exact H);clear H;have H:=H1;clear H1;replace H:=Option.bind_eq_some_iff.mp H;obtain ⟨t228,A80,H⟩:=H;skip;have A8:=Aside0.mk A80;clear A80
    by_cases c9:t228=true
    ·subst c9;have H1:(if (l0_3.length:Int) > a0_0 then (z0b.j0 k true a0_0 a0_1 a0_2 l0_3 l0_4 l0_5) else ((z0l.f (l0_4.length:Int) 1 16).bind fun t229=>(z0b.j0 k (!t229) a0_0 a0_1 a0_2 l0_3 l0_4 l0_5)))=some r:=(by rw [if_pos rfl] at H;exact H);clear H;have H:=H1;clear H1
     by_cases c10:(l0_3.length:Int) > a0_0
     ·rw [if_pos c10] at H;have c10b0:decide (a0_0 < (l0_3.length:Int))=true:=decide_eq_true c10;clear c10
      (first|rw [c10b0]|(simp only [i64_w,i32_w];rw [c10b0])|skip)
      have H':=Aside0.mk H;clear H;have hcz11_0:w3.cell? ⟨gb225,0,none⟩=some (.int .i64 a0_0):=(z01 BK225.out 0).trans rfl;have hcz11_1:w3.cell? ⟨gb225,1,none⟩=some (.int .i64 a0_1):=(z01 BK225.out 1).trans rfl;have hcz11_2:w3.cell? ⟨gb225,2,none⟩=some (.int .i64 a0_2):=(z01 BK225.out 2).trans rfl;have hcz11_3:w3.cell? ⟨gb225,3,none⟩=some (.slice A0_3 l0_3.length c0_3):=(z01 BK225.out 3).trans rfl;have hcz11_4:w3.cell? ⟨gb225,4,none⟩=some (.slice A0_4 l0_4.length c0_4):=(z01 BK225.out 4).trans rfl;have hcz11_5:w3.cell? ⟨gb225,5,none⟩=some (.slice A0_5 l0_5.length c0_5):=(z01 BK225.out 5).trans rfl;have hfz11_0:=z02 BK225.out 0;have hfz11_1:=z02 BK225.out 1;have hfz11_2:=z02 BK225.out 2;have hfz11_3:=z02 BK225.out 3;have hfz11_4:=z02 BK225.out 4;have hfz11_5:=z02 BK225.out 5
      go_wp2_with (first|(go_at_call 56;(with_reducible refine (z0l.calls a0_0 0 64 true _ A4.out).mono ?_);rintro e w' ⟨rfl,⟨nd,rfl⟩⟩;(try first|exact ⟨rfl,_,zqa _ _ _⟩|exact ⟨rfl,_,zqb _ _ _ _⟩))|(go_at_call 56;(with_reducible refine (z0l.calls a0_1 0 16 true _ A6.out).mono ?_);rintro e w' ⟨rfl,⟨nd,rfl⟩⟩;(try first|exact ⟨rfl,_,zqa _ _ _⟩|exact ⟨rfl,_,zqb _ _ _ _⟩))|(go_at_call 56;(with_reducible refine (z0l.calls a0_2 0 16 true _ A8.out).mono ?_);rintro e w' ⟨rfl,⟨nd,rfl⟩⟩;(try first|exact ⟨rfl,_,zqa _ _ _⟩|exact ⟨rfl,_,zqb _ _ _ _⟩)))
      repeat (go_quiet (first|(go_at_call 56;(with_reducible refine (z0l.calls a0_0 0 64 true _ A4.out).mono ?_);rintro e w' ⟨rfl,⟨nd,rfl⟩⟩;(try first|exact ⟨rfl,_,zqa _ _ _⟩|exact ⟨rfl,_,zqb _ _ _ _⟩))|(go_at_call 56;(with_reducible refine (z0l.calls a0_1 0 16 true _ A6.out).mono ?_);rintro e w' ⟨rfl,⟨nd,rfl⟩⟩;(try first|exact ⟨rfl,_,zqa _ _ _⟩|exact ⟨rfl,_,zqb _ _ _ _⟩))|(go_at_call 56;(with_reducible refine (z0l.calls a0_2 0 16 true _ A8.out).mono ?_);rintro e w' ⟨rfl,⟨nd,rfl⟩⟩;(try first|exact ⟨rfl,_,zqa _ _ _⟩|exact ⟨rfl,_,zqb _ _ _ _⟩)));try go_wp2_with (first|(go_at_call 56;(with_reducible refine (z0l.calls a0_0 0 64 true _ A4.out).mono ?_);rintro e w' ⟨rfl,⟨nd,rfl⟩⟩;(try first|exact ⟨rfl,_,zqa _ _ _⟩|exact ⟨rfl,_,zqb _ _ _ _⟩))|(go_at_call 56;(with_reducible refine (z0l.calls a0_1 0 16 true _ A6.out).mono ?_);rintro e w' ⟨rfl,⟨nd,rfl⟩⟩;(try first|exact ⟨rfl,_,zqa _ _ _⟩|exact ⟨rfl,_,zqb _ _ _ _⟩))|(go_at_call 56;(with_reducible refine (z0l.calls a0_2 0 16 true _ A8.out).mono ?_);rintro e w' ⟨rfl,⟨nd,rfl⟩⟩;(try first|exact ⟨rfl,_,zqa _ _ _⟩|exact ⟨rfl,_,zqb _ _ _ _⟩))))
      go_meet
      case rel=>exact ⟨_,(true),(by first|rfl|(simp;done)|(simp [*];done)),H',⟨by first|omega|exact Nat.le_refl _⟩,⟨by (with_reducible repeat (first|refine z08 ?_ _|refine z09 ?_|refine z06 ?_ _));exact BK225.out⟩,⟨by repeat (first|(with_reducible first|exact HB.out|apply z04|apply z03|apply z05|refine z07 ?_ GE225.out)|exact HB.out)⟩⟩
     ·rw [if_neg c10] at H;have c10b0:decide (a0_0 < (l0_3.length:Int))=false:=decide_eq_false c10;clear c10
      (first|rw [c10b0]|(simp only [i64_w,i32_w];rw [c10b0])|skip)
      replace H:=Option.bind_eq_some_iff.mp H;obtain ⟨t229,A120,H⟩:=H;skip;have A12:=Aside0.mk A120;clear A120;have H':=Aside0.mk H;clear H;have hcz13_0:w3.cell? ⟨gb225,0,none⟩=some (.int .i64 a0_0):=(z01 BK225.out 0).trans rfl;have hcz13_1:w3.cell? ⟨gb225,1,none⟩=some (.int .i64 a0_1):=(z01 BK225.out 1).trans rfl;have hcz13_2:w3.cell? ⟨gb225,2,none⟩=some (.int .i64 a0_2):=(z01 BK225.out 2).trans rfl;have hcz13_3:w3.cell? ⟨gb225,3,none⟩=some (.slice A0_3 l0_3.length c0_3):=(z01 BK225.out 3).trans rfl;have hcz13_4:w3.cell? ⟨gb225,4,none⟩=some (.slice A0_4 l0_4.length c0_4):=(z01 BK225.out 4).trans rfl;have hcz13_5:w3.cell? ⟨gb225,5,none⟩=some (.slice A0_5 l0_5.length c0_5):=(z01 BK225.out 5).trans rfl;have hfz13_0:=z02 BK225.out 0;have hfz13_1:=z02 BK225.out 1;have hfz13_2:=z02 BK225.out 2;have hfz13_3:=z02 BK225.out 3;have hfz13_4:=z02 BK225.out 4;have hfz13_5:=z02 BK225.out 5
      go_wp2_with (first|(go_at_call 56;(with_reducible refine (z0l.calls a0_0 0 64 true _ A4.out).mono ?_);rintro e w' ⟨rfl,⟨nd,rfl⟩⟩;(try first|exact ⟨rfl,_,zqa _ _ _⟩|exact ⟨rfl,_,zqb _ _ _ _⟩))|(go_at_call 56;(with_reducible refine (z0l.calls a0_1 0 16 true _ A6.out).mono ?_);rintro e w' ⟨rfl,⟨nd,rfl⟩⟩;(try first|exact ⟨rfl,_,zqa _ _ _⟩|exact ⟨rfl,_,zqb _ _ _ _⟩))|(go_at_call 56;(with_reducible refine (z0l.calls a0_2 0 16 true _ A8.out).mono ?_);rintro e w' ⟨rfl,⟨nd,rfl⟩⟩;(try first|exact ⟨rfl,_,zqa _ _ _⟩|exact ⟨rfl,_,zqb _ _ _ _⟩))|(go_at_call 56;(with_reducible refine (z0l.calls (l0_4.length:Int) 1 16 t229 _ A12.out).mono ?_);rintro e w' ⟨rfl,⟨nd,rfl⟩⟩;(try first|exact ⟨rfl,_,zqa _ _ _⟩|exact ⟨rfl,_,zqb _ _ _ _⟩)))
      repeat (go_quiet (first|(go_at_call 56;(with_reducible refine (z0l.calls a0_0 0 64 true _ A4.out).mono ?_);rintro e w' ⟨rfl,⟨nd,rfl⟩⟩;(try first|exact ⟨rfl,_,zqa _ _ _⟩|exact ⟨rfl,_,zqb _ _ _ _⟩))|(go_at_call 56;(with_reducible refine (z0l.calls a0_1 0 16 true _ A6.out).mono ?_);rintro e w' ⟨rfl,⟨nd,rfl⟩⟩;(try first|exact ⟨rfl,_,zqa _ _ _⟩|exact ⟨rfl,_,zqb _ _ _ _⟩))|(go_at_call 56;(with_reducible refine (z0l.calls a0_2 0 16 true _ A8.out).mono ?_);rintro e w' ⟨rfl,⟨nd,rfl⟩⟩;(try first|exact ⟨rfl,_,zqa _ _ _⟩|exact ⟨rfl,_,zqb _ _ _ _⟩))|(go_at_call 56;(with_reducible refine (z0l.calls (l0_4.length:Int) 1 16 t229 _ A12.out).mono ?_);rintro e w' ⟨rfl,⟨nd,rfl⟩⟩;(try first|exact ⟨rfl,_,zqa _ _ _⟩|exact ⟨rfl,_,zqb _ _ _ _⟩)));try go_wp2_with (first|(go_at_call 56;(with_reducible refine (z0l.calls a0_0 0 64 true _ A4.out).mono ?_);rintro e w' ⟨rfl,⟨nd,rfl⟩⟩;(try first|exact ⟨rfl,_,zqa _ _ _⟩|exact ⟨rfl,_,zqb _ _ _ _⟩))|(go_at_call 56;(with_reducible refine (z0l.calls a0_1 0 16 true _ A6.out).mono ?_);rintro e w' ⟨rfl,⟨nd,rfl⟩⟩;(try first|exact ⟨rfl,_,zqa _ _ _⟩|exact ⟨rfl,_,zqb _ _ _ _⟩))|(go_at_call 56;(with_reducible refine (z0l.calls a0_2 0 16 true _ A8.out).mono ?_);rintro e w' ⟨rfl,⟨nd,rfl⟩⟩;(try first|exact ⟨rfl,_,zqa _ _ _⟩|exact ⟨rfl,_,zqb _ _ _ _⟩))|(go_at_call 56;(with_reducible refine (z0l.calls (l0_4.length:Int) 1 16 t229 _ A12.out).mono ?_);rintro e w' ⟨rfl,⟨nd,rfl⟩⟩;(try first|exact ⟨rfl,_,zqa _ _ _⟩|exact ⟨rfl,_,zqb _ _ _ _⟩))))
      go_meet
      case rel=>exact ⟨_,(!t229),(by first|rfl|(simp;done)|(simp [*];done)),H',⟨by first|omega|exact Nat.le_refl _⟩,⟨by (with_reducible repeat (first|refine z08 ?_ _|refine z09 ?_|refine z06 ?_ _));exact BK225.out⟩,⟨by repeat (first|(with_reducible first|exact HB.out|apply z04|apply z03|apply z05|refine z07 ?_ GE225.out)|exact HB.out)⟩⟩
    ·replace c9:=Bool.eq_false_iff.mpr c9;subst c9;have H1:(z0b.j0 k true a0_0 a0_1 a0_2 l0_3 l0_4 l0_5)=some r:=(by rw [if_neg (show ¬ (false=true) by decide)] at H;exact H);clear H;have H:=H1;clear H1;have H':=Aside0.mk H;clear H;have hcz14_0:w3.cell? ⟨gb225,0,none⟩=some (.int .i64 a0_0):=(z01 BK225.out 0).trans rfl;have hcz14_1:w3.cell? ⟨gb225,1,none⟩=some (.int .i64 a0_1):=(z01 BK225.out 1).trans rfl;have hcz14_2:w3.cell? ⟨gb225,2,none⟩=some (.int .i64 a0_2):=(z01 BK225.out 2).trans rfl;have hcz14_3:w3.cell? ⟨gb225,3,none⟩=some (.slice A0_3 l0_3.length c0_3):=(z01 BK225.out 3).trans rfl;have hcz14_4:w3.cell? ⟨gb225,4,none⟩=some (.slice A0_4 l0_4.length c0_4):=(z01 BK225.out 4).trans rfl;have hcz14_5:w3.cell? ⟨gb225,5,none⟩=some (.slice A0_5 l0_5.length c0_5):=(z01 BK225.out 5).trans rfl;have hfz14_0:=z02 BK225.out 0;have hfz14_1:=z02 BK225.out 1;have hfz14_2:=z02 BK225.out 2;have hfz14_3:=z02 BK225.out 3;have hfz14_4:=z02 BK225.out 4;have hfz14_5:=z02 BK225.out 5
     go_wp2_with (first|(go_at_call 56;(with_reducible refine (z0l.calls a0_0 0 64 true _ A4.out).mono ?_);rintro e w' ⟨rfl,⟨nd,rfl⟩⟩;(try first|exact ⟨rfl,_,zqa _ _ _⟩|exact ⟨rfl,_,zqb _ _ _ _⟩))|(go_at_call 56;(with_reducible refine (z0l.calls a0_1 0 16 true _ A6.out).mono ?_);rintro e w' ⟨rfl,⟨nd,rfl⟩⟩;(try first|exact ⟨rfl,_,zqa _ _ _⟩|exact ⟨rfl,_,zqb _ _ _ _⟩))|(go_at_call 56;(with_reducible refine (z0l.calls a0_2 0 16 false _ A8.out).mono ?_);rintro e w' ⟨rfl,⟨nd,rfl⟩⟩;(try first|exact ⟨rfl,_,zqa _ _ _⟩|exact ⟨rfl,_,zqb _ _ _ _⟩)))
     repeat (go_quiet (first|(go_at_call 56;(with_reducible refine (z0l.calls a0_0 0 64 true _ A4.out).mono ?_);rintro e w' ⟨rfl,⟨nd,rfl⟩⟩;(try first|exact ⟨rfl,_,zqa _ _ _⟩|exact ⟨rfl,_,zqb _ _ _ _⟩))|(go_at_call 56;(with_reducible refine (z0l.calls a0_1 0 16 true _ A6.out).mono ?_);rintro e w' ⟨rfl,⟨nd,rfl⟩⟩;(try first|exact ⟨rfl,_,zqa _ _ _⟩|exact ⟨rfl,_,zqb _ _ _ _⟩))|(go_at_call 56;(with_reducible refine (z0l.calls a0_2 0 16 false _ A8.out).mono ?_);rintro e w' ⟨rfl,⟨nd,rfl⟩⟩;(try first|exact ⟨rfl,_,zqa _ _ _⟩|exact ⟨rfl,_,zqb _ _ _ _⟩)));try go_wp2_with (first|(go_at_call 56;(with_reducible refine (z0l.calls a0_0 0 64 true _ A4.out).mono ?_);rintro e w' ⟨rfl,⟨nd,rfl⟩⟩;(try first|exact ⟨rfl,_,zqa _ _ _⟩|exact ⟨rfl,_,zqb _ _ _ _⟩))|(go_at_call 56;(with_reducible refine (z0l.calls a0_1 0 16 true _ A6.out).mono ?_);rintro e w' ⟨rfl,⟨nd,rfl⟩⟩;(try first|exact ⟨rfl,_,zqa _ _ _⟩|exact ⟨rfl,_,zqb _ _ _ _⟩))|(go_at_call 56;(with_reducible refine (z0l.calls a0_2 0 16 false _ A8.out).mono ?_);rintro e w' ⟨rfl,⟨nd,rfl⟩⟩;(try first|exact ⟨rfl,_,zqa _ _ _⟩|exact ⟨rfl,_,zqb _ _ _ _⟩))))
     go_meet
     case rel=>exact ⟨_,(true),(by first|rfl|(simp;done)|(simp [*];done)),H',⟨by first|omega|exact Nat.le_refl _⟩,⟨by (with_reducible repeat (first|refine z08 ?_ _|refine z09 ?_|refine z06 ?_ _));exact BK225.out⟩,⟨by repeat (first|(with_reducible first|exact HB.out|apply z04|apply z03|apply z05|refine z07 ?_ GE225.out)|exact HB.out)⟩⟩
   ·replace c7:=Bool.eq_false_iff.mpr c7;subst c7;have H1:(z0b.j0 k true a0_0 a0_1 a0_2 l0_3 l0_4 l0_5)=some r:=(by rw [if_neg (show ¬ (false=true) by decide)] at H;exact H);clear H;have H:=H1;clear H1;have H':=Aside0.mk H;clear H;have hcz15_0:w3.cell? ⟨gb225,0,none⟩=some (.int .i64 a0_0):=(z01 BK225.out 0).trans rfl;have hcz15_1:w3.cell? ⟨gb225,1,none⟩=some (.int .i64 a0_1):=(z01 BK225.out 1).trans rfl;have hcz15_2:w3.cell? ⟨gb225,2,none⟩=some (.int .i64 a0_2):=(z01 BK225.out 2).trans rfl;have hcz15_3:w3.cell? ⟨gb225,3,none⟩=some (.slice A0_3 l0_3.length c0_3):=(z01 BK225.out 3).trans rfl;have hcz15_4:w3.cell? ⟨gb225,4,none⟩=some (.slice A0_4 l0_4.length c0_4):=(z01 BK225.out 4).trans rfl;have hcz15_5:w3.cell? ⟨gb225,5,none⟩=some (.slice A0_5 l0_5.length c0_5):=(z01 BK225.out 5).trans rfl;have hfz15_0:=z02 BK225.out 0;have hfz15_1:=z02 BK225.out 1;have hfz15_2:=z02 BK225.out 2;have hfz15_3:=z02 BK225.out 3;have hfz15_4:=z02 BK225.out 4;have hfz15_5:=z02 BK225.out 5
    go_wp2_with (first|(go_at_call 56;(with_reducible refine (z0l.calls a0_0 0 64 true _ A4.out).mono ?_);rintro e w' ⟨rfl,⟨nd,rfl⟩⟩;(try first|exact ⟨rfl,_,zqa _ _ _⟩|exact ⟨rfl,_,zqb _ _ _ _⟩))|(go_at_call 56;(with_reducible refine (z0l.calls a0_1 0 16 false _ A6.out).mono ?_);rintro e w' ⟨rfl,⟨nd,rfl⟩⟩;(try first|exact ⟨rfl,_,zqa _ _ _⟩|exact ⟨rfl,_,zqb _ _ _ _⟩)))
    repeat (go_quiet (first|(go_at_call 56;(with_reducible refine (z0l.calls a0_0 0 64 true _ A4.out).mono ?_);rintro e w' ⟨rfl,⟨nd,rfl⟩⟩;(try first|exact ⟨rfl,_,zqa _ _ _⟩|exact ⟨rfl,_,zqb _ _ _ _⟩))|(go_at_call 56;(with_reducible refine (z0l.calls a0_1 0 16 false _ A6.out).mono ?_);rintro e w' ⟨rfl,⟨nd,rfl⟩⟩;(try first|exact ⟨rfl,_,zqa _ _ _⟩|exact ⟨rfl,_,zqb _ _ _ _⟩)));try go_wp2_with (first|(go_at_call 56;(with_reducible refine (z0l.calls a0_0 0 64 true _ A4.out).mono ?_);rintro e w' ⟨rfl,⟨nd,rfl⟩⟩;(try first|exact ⟨rfl,_,zqa _ _ _⟩|exact ⟨rfl,_,zqb _ _ _ _⟩))|(go_at_call 56;(with_reducible refine (z0l.calls a0_1 0 16 false _ A6.out).mono ?_);rintro e w' ⟨rfl,⟨nd,rfl⟩⟩;(try first|exact ⟨rfl,_,zqa _ _ _⟩|exact ⟨rfl,_,zqb _ _ _ _⟩))))
    go_meet
    case rel=>exact ⟨_,(true),(by first|rfl|(simp;done)|(simp [*];done)),H',⟨by first|omega|exact Nat.le_refl _⟩,⟨by (with_reducible repeat (first|refine z08 ?_ _|refine z09 ?_|refine z06 ?_ _));exact BK225.out⟩,⟨by repeat (first|(with_reducible first|exact HB.out|apply z04|apply z03|apply z05|refine z07 ?_ GE225.out)|exact HB.out)⟩⟩
  ·replace c5:=Bool.eq_false_iff.mpr c5;subst c5;rw [if_neg (show ¬ (false=true) by decide)] at H;have H':=Aside0.mk H;clear H;have hcz16_0:w3.cell? ⟨gb225,0,none⟩=some (.int .i64 a0_0):=(z01 BK225.out 0).trans rfl;have hcz16_1:w3.cell? ⟨gb225,1,none⟩=some (.int .i64 a0_1):=(z01 BK225.out 1).trans rfl;have hcz16_2:w3.cell? ⟨gb225,2,none⟩=some (.int .i64 a0_2):=(z01 BK225.out 2).trans rfl;have hcz16_3:w3.cell? ⟨gb225,3,none⟩=some (.slice A0_3 l0_3.length c0_3):=(z01 BK225.out 3).trans rfl;have hcz16_4:w3.cell? ⟨gb225,4,none⟩=some (.slice A0_4 l0_4.length c0_4):=(z01 BK225.out 4).trans rfl;have hcz16_5:w3.cell? ⟨gb225,5,none⟩=some (.slice A0_5 l0_5.length c0_5):=(z01 BK225.out 5).trans rfl;have hfz16_0:=z02 BK225.out 0;have hfz16_1:=z02 BK225.out 1;have hfz16_2:=z02 BK225.out 2;have hfz16_3:=z02 BK225.out 3;have hfz16_4:=z02 BK225.out 4;have hfz16_5:=z02 BK225.out 5
   go_wp2_with (first|(go_at_call 56;(with_reducible refine (z0l.calls a0_0 0 64 false _ A4.out).mono ?_);rintro e w' ⟨rfl,⟨nd,rfl⟩⟩;(try first|exact ⟨rfl,_,zqa _ _ _⟩|exact ⟨rfl,_,zqb _ _ _ _⟩)))
   repeat (go_quiet (first|(go_at_call 56;(with_reducible refine (z0l.calls a0_0 0 64 false _ A4.out).mono ?_);rintro e w' ⟨rfl,⟨nd,rfl⟩⟩;(try first|exact ⟨rfl,_,zqa _ _ _⟩|exact ⟨rfl,_,zqb _ _ _ _⟩)));try go_wp2_with (first|(go_at_call 56;(with_reducible refine (z0l.calls a0_0 0 64 false _ A4.out).mono ?_);rintro e w' ⟨rfl,⟨nd,rfl⟩⟩;(try first|exact ⟨rfl,_,zqa _ _ _⟩|exact ⟨rfl,_,zqb _ _ _ _⟩))))
   go_meet
   case rel=>exact ⟨_,(true),(by first|rfl|(simp;done)|(simp [*];done)),H',⟨by first|omega|exact Nat.le_refl _⟩,⟨by (with_reducible repeat (first|refine z08 ?_ _|refine z09 ?_|refine z06 ?_ _));exact BK225.out⟩,⟨by repeat (first|(with_reducible first|exact HB.out|apply z04|apply z03|apply z05|refine z07 ?_ GE225.out)|exact HB.out)⟩⟩
 case rest =>
  clear HC2;obtain ⟨kq,x37_1,rfl,HA,HJ1,BK225,HB⟩:=hcut;cases kq with
  | zero=>exact absurd HA.out (by simp [z0b.j0])
  | succ kj1 =>
   have H:=HA.out;clear HA;simp only [z0b.j0] at H
   by_cases c17:x37_1=true
   ·subst c17;have H1:(some 3)=some r:=(by rw [if_pos rfl] at H;exact H);clear H;have H:=H1;clear H1;obtain rfl:=Option.some.inj H;go_wp2
    repeat (go_quiet (fail);try go_wp2)
    go_ret
    exact ⟨by first|rfl|(simp [z0k,z0j] <;> rfl)|(simp [*,z0k,z0j] <;> rfl),by repeat (first|(with_reducible first|exact HB.out|apply z04|apply z03|apply z05|refine z07 ?_ GE225.out)|exact HB.out)⟩
   ·replace c17:=Bool.eq_false_iff.mpr c17;subst c17;have H1:(z0b.l0 kj1 0 a0_0 a0_1 a0_2 l0_3 l0_4 l0_5)=some r:=(by rw [if_neg (show ¬ (false=true) by decide)] at H;exact H);clear H;have H:=H1;clear H1;have H':=Aside0.mk H;clear H;go_wp2
    repeat (go_quiet (fail);try go_wp2)
    go_loopg [3] kj1 (fun kq v3 w'=>∃ (x3_2:Int),v3=.int .i64 x3_2∧Aside0 (z0b.l0 kq x3_2 a0_0 a0_1 a0_2 l0_3 l0_4 l0_5=some r)∧Aside0 (kq≤kj1)∧Aside0 (w'.heap[gb225]?=some (.cells #[.int .i64 a0_0,.int .i64 a0_1,.int .i64 a0_2,(.slice A0_3 l0_3.length c0_3),(.slice A0_4 l0_4.length c0_4),(.slice A0_5 l0_5.length c0_5)] 26 (0,0)))∧Aside0 (Below w.heap.size w w'))
    case atStart=>exact ⟨(0),(by first|rfl|(simp;done)|(simp [*];done)),H',⟨Nat.le_refl _⟩,⟨by (with_reducible repeat (first|refine z08 ?_ _|refine z09 ?_|refine z06 ?_ _));exact BK225.out⟩,⟨by repeat (first|(with_reducible first|exact HB.out|apply z04|apply z03|apply z05|refine z07 ?_ GE225.out)|exact HB.out)⟩⟩
    case round =>
     clear H';obtain ⟨x3_2,rfl,HA,HK2,BK225,HB⟩:=hrel;cases gk with
     | zero=>exact absurd HA.out (by simp [z0b.l0])
     | succ k2 =>
      have H:=HA.out;clear HA;simp only [z0b.l0] at H
      by_cases c18:x3_2 < (l0_4.length:Int)
      ·rw [if_pos c18] at H;have c18b0:decide (x3_2 < (l0_4.length:Int))=true:=decide_eq_true c18;clear c18
       by_cases c19:x3_2=0
       ·rw [if_pos c19] at H;have c19b0:(x3_2 == 0)=true:=beq_iff_eq.mpr c19;have c19b1:(x3_2 != 0)=false:=bne_eq_false_iff_eq.mpr c19;clear c19
        by_cases c20:0≤x3_2
        ·rw [if_pos c20] at H;have c20b0:decide (0≤x3_2)=true:=decide_eq_true c20;clear c20
         by_cases c21:(rd l0_4 x3_2)=0
         ·rw [if_pos c21] at H;have c21b0:((rd l0_4 x3_2) == 0)=true:=beq_iff_eq.mpr c21;have c21b1:((rd l0_4 x3_2) != 0)=false:=bne_eq_false_iff_eq.mpr c21;clear c21
          by_cases c22:x3_2 > 0
          ·rw [if_pos c22] at H;have c22b0:decide (0 < x3_2)=true:=decide_eq_true c22;clear c22;obtain ⟨ji23,hji23⟩:∃ j_:Int,(wrap64 (x3_2 - 1))=j_:=⟨_,rfl⟩;replace H:(if 0≤(ji23) then (if (ji23) < (l0_4.length:Int) then (if (rd l0_4 x3_2)≤(rd l0_4 (ji23)) then (some 3) else (z0b.l0 k2 (wrap64 (x3_2+1)) a0_0 a0_1 a0_2 l0_3 l0_4 l0_5)) else (none)) else (none))=some r:=by first|(rw [hji23] at H;exact H)|(simp only [hji23] at H ⊢;exact H)
           have hji23w:(IntKind.i64.wrap (x3_2 - 1))=ji23:=(i64_w _).trans hji23
           by_cases c24:0≤(ji23)
           ·rw [if_pos c24] at H;have c24b0:decide (0≤(ji23))=true:=decide_eq_true c24;clear c24
            by_cases c25:(ji23) < (l0_4.length:Int)
            ·rw [if_pos c25] at H;have c25b0:decide ((ji23) < (l0_4.length:Int))=true:=decide_eq_true c25;clear c25
             by_cases c26:(rd l0_4 x3_2)≤(rd l0_4 (ji23))
             ·rw [if_pos c26] at H;have c26b0:decide ((rd l0_4 x3_2)≤(rd l0_4 (ji23)))=true:=decide_eq_true c26;clear c26;obtain rfl:=Option.some.inj H;have hcz27_0:wr.cell? ⟨gb225,0,none⟩=some (.int .i64 a0_0):=(z01 BK225.out 0).trans rfl;have hcz27_1:wr.cell? ⟨gb225,1,none⟩=some (.int .i64 a0_1):=(z01 BK225.out 1).trans rfl;have hcz27_2:wr.cell? ⟨gb225,2,none⟩=some (.int .i64 a0_2):=(z01 BK225.out 2).trans rfl;have hcz27_3:wr.cell? ⟨gb225,3,none⟩=some (.slice A0_3 l0_3.length c0_3):=(z01 BK225.out 3).trans rfl;have hcz27_4:wr.cell? ⟨gb225,4,none⟩=some (.slice A0_4 l0_4.length c0_4):=(z01 BK225.out 4).trans rfl;have hcz27_5:wr.cell? ⟨gb225,5,none⟩=some (.slice A0_5 l0_5.length c0_5):=(z01 BK225.out 5).trans rfl;have hfz27_0:=z02 BK225.out 0;have hfz27_1:=z02 BK225.out 1;have hfz27_2:=z02 BK225.out 2;have hfz27_3:=z02 BK225.out 3;have hfz27_4:=z02 BK225.out 4;have hfz27_5:=z02 BK225.out 5;have p230:0≤(x3_2:Int):=of_decide_eq_true (by assumption);have q230:x3_2 < (l0_4.length:Int):=of_decide_eq_true (by assumption);obtain ⟨ad230,e230,hx230_0⟩:=Kd.at_int HR0_4.out x3_2 p230 q230;cases e230;replace hx230_0:=(HB.out.cell (World.block_lt_of_cell? w _ hx230_0)).trans hx230_0;replace p230:=eq_true p230;replace q230:=eq_true q230;have p231:0≤(x3_2:Int):=of_decide_eq_true (by assumption);have q231:x3_2 < (l0_4.length:Int):=of_decide_eq_true (by assumption);obtain ⟨ad231,e231,hx231_0⟩:=Kd.at_int HR0_4.out x3_2 p231 q231;obtain rfl:ad230=ad231:=(by injection e231);replace hx231_0:=(HB.out.cell (World.block_lt_of_cell? w _ hx231_0)).trans hx231_0;replace p231:=eq_true p231;replace q231:=eq_true q231;have p232:0≤((ji23):Int):=of_decide_eq_true (by assumption);have q232:(ji23) < (l0_4.length:Int):=of_decide_eq_true (by assumption);obtain ⟨ad232,e232,hx232_0⟩:=Kd.at_int HR0_4.out (ji23) p232 q232;obtain rfl:ad230=ad232:=(by injection e232);replace hx232_0:=(HB.out.cell (World.block_lt_of_cell? w _ hx232_0)).trans hx232_0;replace p232:=eq_true p232;replace q232:=eq_true q232;go_wp2
              repeat (go_quiet (fail);try go_wp2)
              go_ret
              exact ⟨by first|rfl|(simp [z0k,z0j] <;> rfl)|(simp only [← hji23];first|rfl|(simp [z0k,z0j] <;> rfl))|(simp [*,z0k,z0j] <;> rfl),by repeat (first|(with_reducible first|exact HB.out|apply z04|apply z03|apply z05|refine z07 ?_ GE225.out)|exact HB.out)⟩
             ·rw [if_neg c26] at H;have c26b0:decide ((rd l0_4 x3_2)≤(rd l0_4 (ji23)))=false:=decide_eq_false c26;clear c26;have H':=Aside0.mk H;clear H;have hcz28_0:wr.cell? ⟨gb225,0,none⟩=some (.int .i64 a0_0):=(z01 BK225.out 0).trans rfl;have hcz28_1:wr.cell? ⟨gb225,1,none⟩=some (.int .i64 a0_1):=(z01 BK225.out 1).trans rfl;have hcz28_2:wr.cell? ⟨gb225,2,none⟩=some (.int .i64 a0_2):=(z01 BK225.out 2).trans rfl;have hcz28_3:wr.cell? ⟨gb225,3,none⟩=some (.slice A0_3 l0_3.length c0_3):=(z01 BK225.out 3).trans rfl;have hcz28_4:wr.cell? ⟨gb225,4,none⟩=some (.slice A0_4 l0_4.length c0_4):=(z01 BK225.out 4).trans rfl;have hcz28_5:wr.cell? ⟨gb225,5,none⟩=some (.slice A0_5 l0_5.length c0_5):=(z01 BK225.out 5).trans rfl;have hfz28_0:=z02 BK225.out 0;have hfz28_1:=z02 BK225.out 1;have hfz28_2:=z02 BK225.out 2;have hfz28_3:=z02 BK225.out 3;have hfz28_4:=z02 BK225.out 4;have hfz28_5:=z02 BK225.out 5;have p230:0≤(x3_2:Int):=of_decide_eq_true (by assumption);have q230:x3_2 < (l0_4.length:Int):=of_decide_eq_true (by assumption);obtain ⟨ad230,e230,hx230_0⟩:=Kd.at_int HR0_4.out x3_2 p230 q230;cases e230;replace hx230_0:=(HB.out.cell (World.block_lt_of_cell? w _ hx230_0)).trans hx230_0;replace p230:=eq_true p230;replace q230:=eq_true q230;have p231:0≤(x3_2:Int):=of_decide_eq_true (by assumption);have q231:x3_2 < (l0_4.length:Int):=of_decide_eq_true (by assumption);obtain ⟨ad231,e231,hx231_0⟩:=Kd.at_int HR0_4.out x3_2 p231 q231;obtain rfl:ad230=ad231:=(by injection e231);replace hx231_0:=(HB.out.cell (World.block_lt_of_cell? w _ hx231_0)).trans hx231_0;replace p231:=eq_true p231;replace q231:=eq_true q231;have p232:0≤((ji23):Int):=of_decide_eq_true (by assumption);have q232:(ji23) < (l0_4.length:Int):=of_decide_eq_true (by assumption);obtain ⟨ad232,e232,hx232_0⟩:=Kd.at_int HR0_4.out (ji23) p232 q232;obtain rfl:ad230=ad232:=(by injection e232);replace hx232_0:=(HB.out.cell (World.block_lt_of_cell? w _ hx232_0)).trans hx232_0;replace p232:=eq_true p232;replace q232:=eq_true q232;go_wp2
              repeat (go_quiet (fail);try go_wp2)
              go_roundg k2
              case measure=>have:=HJ1.out;have:=HK2.out;omega
              case rel=>exact ⟨(wrap64 (x3_2+1)),(by first|rfl|(simp;done)|(simp [*];done)),H',⟨by have:=HJ1.out;have:=HK2.out;omega⟩,⟨by (with_reducible repeat (first|refine z08 ?_ _|refine z09 ?_|refine z06 ?_ _));exact BK225.out⟩,⟨by repeat (first|(with_reducible first|exact HB.out|apply z04|apply z03|apply z05|refine z07 ?_ GE225.out)|exact HB.out)⟩⟩
            ·rw [if_neg c25] at H;exact absurd H (by simp)
           ·rw [if_neg c24] at H;exact absurd H (by simp)
          ·rw [if_neg c22] at H;have c22b0:decide (0 < x3_2)=false:=decide_eq_false c22;clear c22;have H':=Aside0.mk H;clear H;have hcz29_0:wr.cell? ⟨gb225,0,none⟩=some (.int .i64 a0_0):=(z01 BK225.out 0).trans rfl;have hcz29_1:wr.cell? ⟨gb225,1,none⟩=some (.int .i64 a0_1):=(z01 BK225.out 1).trans rfl;have hcz29_2:wr.cell? ⟨gb225,2,none⟩=some (.int .i64 a0_2):=(z01 BK225.out 2).trans rfl;have hcz29_3:wr.cell? ⟨gb225,3,none⟩=some (.slice A0_3 l0_3.length c0_3):=(z01 BK225.out 3).trans rfl;have hcz29_4:wr.cell? ⟨gb225,4,none⟩=some (.slice A0_4 l0_4.length c0_4):=(z01 BK225.out 4).trans rfl;have hcz29_5:wr.cell? ⟨gb225,5,none⟩=some (.slice A0_5 l0_5.length c0_5):=(z01 BK225.out 5).trans rfl;have hfz29_0:=z02 BK225.out 0;have hfz29_1:=z02 BK225.out 1;have hfz29_2:=z02 BK225.out 2;have hfz29_3:=z02 BK225.out 3;have hfz29_4:=z02 BK225.out 4;have hfz29_5:=z02 BK225.out 5;have p230:0≤(x3_2:Int):=of_decide_eq_true (by assumption);have q230:x3_2 < (l0_4.length:Int):=of_decide_eq_true (by assumption);obtain ⟨ad230,e230,hx230_0⟩:=Kd.at_int HR0_4.out x3_2 p230 q230;cases e230;replace hx230_0:=(HB.out.cell (World.block_lt_of_cell? w _ hx230_0)).trans hx230_0;replace p230:=eq_true p230;replace q230:=eq_true q230;go_wp2
           repeat (go_quiet (fail);try go_wp2)
           go_roundg k2
           case measure=>have:=HJ1.out;have:=HK2.out;omega
           case rel=>exact ⟨(wrap64 (x3_2+1)),(by first|rfl|(simp;done)|(simp [*];done)),H',⟨by have:=HJ1.out;have:=HK2.out;omega⟩,⟨by (with_reducible repeat (first|refine z08 ?_ _|refine z09 ?_|refine z06 ?_ _));exact BK225.out⟩,⟨by repeat (first|(with_reducible first|exact HB.out|apply z04|apply z03|apply z05|refine z07 ?_ GE225.out)|exact HB.out)⟩⟩
         ·rw [if_neg c21] at H;have c21b0:((rd l0_4 x3_2) == 0)=false:=beq_eq_false_iff_ne.mpr c21;have c21b1:((rd l0_4 x3_2) != 0)=true:=bne_iff_ne.mpr c21;obtain rfl:=Option.some.inj H;have hcz30_0:wr.cell? ⟨gb225,0,none⟩=some (.int .i64 a0_0):=(z01 BK225.out 0).trans rfl;have hcz30_1:wr.cell? ⟨gb225,1,none⟩=some (.int .i64 a0_1):=(z01 BK225.out 1).trans rfl;have hcz30_2:wr.cell? ⟨gb225,2,none⟩=some (.int .i64 a0_2):=(z01 BK225.out 2).trans rfl;have hcz30_3:wr.cell? ⟨gb225,3,none⟩=some (.slice A0_3 l0_3.length c0_3):=(z01 BK225.out 3).trans rfl;have hcz30_4:wr.cell? ⟨gb225,4,none⟩=some (.slice A0_4 l0_4.length c0_4):=(z01 BK225.out 4).trans rfl;have hcz30_5:wr.cell? ⟨gb225,5,none⟩=some (.slice A0_5 l0_5.length c0_5):=(z01 BK225.out 5).trans rfl;have hfz30_0:=z02 BK225.out 0;have hfz30_1:=z02 BK225.out 1;have hfz30_2:=z02 BK225.out 2;have hfz30_3:=z02 BK225.out 3;have hfz30_4:=z02 BK225.out 4;have hfz30_5:=z02 BK225.out 5;have p230:0≤(x3_2:Int):=of_decide_eq_true (by assumption);have q230:x3_2 < (l0_4.length:Int):=of_decide_eq_true (by assumption);obtain ⟨ad230,e230,hx230_0⟩:=Kd.at_int HR0_4.out x3_2 p230 q230;cases e230;replace hx230_0:=(HB.out.cell (World.block_lt_of_cell? w _ hx230_0)).trans hx230_0;replace p230:=eq_true p230;replace q230:=eq_true q230;go_wp2
          repeat (go_quiet (fail);try go_wp2)
          go_ret
          exact ⟨by first|rfl|(simp [z0k,z0j] <;> rfl)|(simp [*,z0k,z0j] <;> rfl),by repeat (first|(with_reducible first|exact HB.out|apply z04|apply z03|apply z05|refine z07 ?_ GE225.out)|exact HB.out)⟩
        ·rw [if_neg c20] at H;exact absurd H (by simp)
       ·rw [if_neg c19] at H;have c19b0:(x3_2 == 0)=false:=beq_eq_false_iff_ne.mpr c19;have c19b1:(x3_2 != 0)=true:=bne_iff_ne.mpr c19
        by_cases c31:x3_2 > 0
        ·rw [if_pos c31] at H;have c31b0:decide (0 < x3_2)=true:=decide_eq_true c31;clear c31
         by_cases c32:0≤x3_2
         ·rw [if_pos c32] at H;have c32b0:decide (0≤x3_2)=true:=decide_eq_true c32;clear c32;obtain ⟨ji33,hji33⟩:∃ j_:Int,(wrap64 (x3_2 - 1))=j_:=⟨_,rfl⟩;replace H:(if 0≤(ji33) then (if (ji33) < (l0_4.length:Int) then (if (rd l0_4 x3_2)≤(rd l0_4 (ji33)) then (some 3) else (z0b.l0 k2 (wrap64 (x3_2+1)) a0_0 a0_1 a0_2 l0_3 l0_4 l0_5)) else (none)) else (none))=some r:=by first|(rw [hji33] at H;exact H)|(simp only [hji33] at H ⊢;exact H)
          have hji33w:(IntKind.i64.wrap (x3_2 - 1))=ji33:=(i64_w _).trans hji33
          by_cases c34:0≤(ji33)
          ·rw [if_pos c34] at H;have c34b0:decide (0≤(ji33))=true:=decide_eq_true c34;clear c34
           by_cases c35:(ji33) < (l0_4.length:Int)
           ·rw [if_pos c35] at H;have c35b0:decide ((ji33) < (l0_4.length:Int))=true:=decide_eq_true c35;clear c35
            by_cases c36:(rd l0_4 x3_2)≤(rd l0_4 (ji33))
            ·rw [if_pos c36] at H;have c36b0:decide ((rd l0_4 x3_2)≤(rd l0_4 (ji33)))=true:=decide_eq_true c36;clear c36;obtain rfl:=Option.some.inj H;have hcz37_0:wr.cell? ⟨gb225,0,none⟩=some (.int .i64 a0_0):=(z01 BK225.out 0).trans rfl;have hcz37_1:wr.cell? ⟨gb225,1,none⟩=some (.int .i64 a0_1):=(z01 BK225.out 1).trans rfl;have hcz37_2:wr.cell? ⟨gb225,2,none⟩=some (.int .i64 a0_2):=(z01 BK225.out 2).trans rfl;have hcz37_3:wr.cell? ⟨gb225,3,none⟩=some (.slice A0_3 l0_3.length c0_3):=(z01 BK225.out 3).trans rfl;have hcz37_4:wr.cell? ⟨gb225,4,none⟩=some (.slice A0_4 l0_4.length c0_4):=(z01 BK225.out 4).trans rfl;have hcz37_5:wr.cell? ⟨gb225,5,none⟩=some (.slice A0_5 l0_5.length c0_5):=(z01 BK225.out 5).trans rfl;have hfz37_0:=z02 BK225.out 0;have hfz37_1:=z02 BK225.out 1;have hfz37_2:=z02 BK225.out 2;have hfz37_3:=z02 BK225.out 3;have hfz37_4:=z02 BK225.out 4;have hfz37_5:=z02 BK225.out 5;have p233:0≤(x3_2:Int):=of_decide_eq_true (by assumption);have q233:x3_2 < (l0_4.length:Int):=of_decide_eq_true (by assumption);obtain ⟨ad233,e233,hx233_0⟩:=Kd.at_int HR0_4.out x3_2 p233 q233;cases e233;replace hx233_0:=(HB.out.cell (World.block_lt_of_cell? w _ hx233_0)).trans hx233_0;replace p233:=eq_true p233;replace q233:=eq_true q233;have p234:0≤((ji33):Int):=of_decide_eq_true (by assumption);have q234:(ji33) < (l0_4.length:Int):=of_decide_eq_true (by assumption);obtain ⟨ad234,e234,hx234_0⟩:=Kd.at_int HR0_4.out (ji33) p234 q234;obtain rfl:ad233=ad234:=(by injection e234);replace hx234_0:=(HB.out.cell (World.block_lt_of_cell? w _ hx234_0)).trans hx234_0;replace p234:=eq_true p234;replace q234:=eq_true q234;go_wp2
             repeat (go_quiet (fail);try go_wp2)
             go_ret
             exact ⟨by first|rfl|(simp [z0k,z0j] <;> rfl)|(simp only [← hji33];first|rfl|(simp [z0k,z0j] <;> rfl))|(simp [*,z0k,z0j] <;> rfl),by repeat (first|(with_reducible first|exact HB.out|apply z04|apply z03|apply z05|refine z07 ?_ GE225.out)|exact HB.out)⟩
            ·rw [if_neg c36] at H;have c36b0:decide ((rd l0_4 x3_2)≤(rd l0_4 (ji33)))=false:=decide_eq_false c36;clear c36;have H':=Aside0.mk H;clear H;have hcz38_0:wr.cell? ⟨gb225,0,none⟩=some (.int .i64 a0_0):=(z01 BK225.out 0).trans rfl;have hcz38_1:wr.cell? ⟨gb225,1,none⟩=some (.int .i64 a0_1):=(z01 BK225.out 1).trans rfl;have hcz38_2:wr.cell? ⟨gb225,2,none⟩=some (.int .i64 a0_2):=(z01 BK225.out 2).trans rfl;have hcz38_3:wr.cell? ⟨gb225,3,none⟩=some (.slice A0_3 l0_3.length c0_3):=(z01 BK225.out 3).trans rfl;have hcz38_4:wr.cell? ⟨gb225,4,none⟩=some (.slice A0_4 l0_4.length c0_4):=(z01 BK225.out 4).trans rfl;have hcz38_5:wr.cell? ⟨gb225,5,none⟩=some (.slice A0_5 l0_5.length c0_5):=(z01 BK225.out 5).trans rfl;have hfz38_0:=z02 BK225.out 0;have hfz38_1:=z02 BK225.out 1;have hfz38_2:=z02 BK225.out 2;have hfz38_3:=z02 BK225.out 3;have hfz38_4:=z02 BK225.out 4;have hfz38_5:=z02 BK225.out 5;have p233:0≤(x3_2:Int):=of_decide_eq_true (by assumption);have q233:x3_2 < (l0_4.length:Int):=of_decide_eq_true (by assumption);obtain ⟨ad233,e233,hx233_0⟩:=Kd.at_int HR0_4.out x3_2 p233 q233;cases e233;replace hx233_0:=(HB.out.cell (World.block_lt_of_cell? w _ hx233_0)).trans hx233_0;replace p233:=eq_true p233;replace q233:=eq_true q233;have p234:0≤((ji33):Int):=of_decide_eq_true (by assumption);have q234:(ji33) < (l0_4.length:Int):=of_decide_eq_true (by assumption);obtain ⟨ad234,e234,hx234_0⟩:=Kd.at_int HR0_4.out (ji33) p234 q234;obtain rfl:ad233=ad234:=(by injection e234);replace hx234_0:=(HB.out.cell (World.block_lt_of_cell? w _ hx234_0)).trans hx234_0;replace p234:=eq_true p234;replace q234:=eq_true q234;go_wp2
             repeat (go_quiet (fail);try go_wp2)
             go_roundg k2
             case measure=>have:=HJ1.out;have:=HK2.out;omega
             case rel=>exact ⟨(wrap64 (x3_2+1)),(by first|rfl|(simp;done)|(simp [*];done)),H',⟨by have:=HJ1.out;have:=HK2.out;omega⟩,⟨by (with_reducible repeat (first|refine z08 ?_ _|refine z09 ?_|refine z06 ?_ _));exact BK225.out⟩,⟨by repeat (first|(with_reducible first|exact HB.out|apply z04|apply z03|apply z05|refine z07 ?_ GE225.out)|exact HB.out)⟩⟩
           ·rw [if_neg c35] at H;exact absurd H (by simp)
          ·rw [if_neg c34] at H;exact absurd H (by simp)
         ·rw [if_neg c32] at H;exact absurd H (by simp)
        ·rw [if_neg c31] at H;have c31b0:decide (0 < x3_2)=false:=decide_eq_false c31;clear c31;have H':=Aside0.mk H;clear H;have hcz39_0:wr.cell? ⟨gb225,0,none⟩=some (.int .i64 a0_0):=(z01 BK225.out 0).trans rfl;have hcz39_1:wr.cell? ⟨gb225,1,none⟩=some (.int .i64 a0_1):=(z01 BK225.out 1).trans rfl;have hcz39_2:wr.cell? ⟨gb225,2,none⟩=some (.int .i64 a0_2):=(z01 BK225.out 2).trans rfl;have hcz39_3:wr.cell? ⟨gb225,3,none⟩=some (.slice A0_3 l0_3.length c0_3):=(z01 BK225.out 3).trans rfl;have hcz39_4:wr.cell? ⟨gb225,4,none⟩=some (.slice A0_4 l0_4.length c0_4):=(z01 BK225.out 4).trans rfl;have hcz39_5:wr.cell? ⟨gb225,5,none⟩=some (.slice A0_5 l0_5.length c0_5):=(z01 BK225.out 5).trans rfl;have hfz39_0:=z02 BK225.out 0;have hfz39_1:=z02 BK225.out 1;have hfz39_2:=z02 BK225.out 2;have hfz39_3:=z02 BK225.out 3;have hfz39_4:=z02 BK225.out 4;have hfz39_5:=z02 BK225.out 5;go_wp2
         repeat (go_quiet (fail);try go_wp2)
         go_roundg k2
         case measure=>have:=HJ1.out;have:=HK2.out;omega
         case rel=>exact ⟨(wrap64 (x3_2+1)),(by first|rfl|(simp;done)|(simp [*];done)),H',⟨by have:=HJ1.out;have:=HK2.out;omega⟩,⟨by (with_reducible repeat (first|refine z08 ?_ _|refine z09 ?_|refine z06 ?_ _));exact BK225.out⟩,⟨by repeat (first|(with_reducible first|exact HB.out|apply z04|apply z03|apply z05|refine z07 ?_ GE225.out)|exact HB.out)⟩⟩
      ·rw [if_neg c18] at H;have c18b0:decide (x3_2 < (l0_4.length:Int))=false:=decide_eq_false c18;clear c18;have HC40:=Aside0.mk H;clear H;have hcz41_0:wr.cell? ⟨gb225,0,none⟩=some (.int .i64 a0_0):=(z01 BK225.out 0).trans rfl;have hcz41_1:wr.cell? ⟨gb225,1,none⟩=some (.int .i64 a0_1):=(z01 BK225.out 1).trans rfl;have hcz41_2:wr.cell? ⟨gb225,2,none⟩=some (.int .i64 a0_2):=(z01 BK225.out 2).trans rfl;have hcz41_3:wr.cell? ⟨gb225,3,none⟩=some (.slice A0_3 l0_3.length c0_3):=(z01 BK225.out 3).trans rfl;have hcz41_4:wr.cell? ⟨gb225,4,none⟩=some (.slice A0_4 l0_4.length c0_4):=(z01 BK225.out 4).trans rfl;have hcz41_5:wr.cell? ⟨gb225,5,none⟩=some (.slice A0_5 l0_5.length c0_5):=(z01 BK225.out 5).trans rfl;have hfz41_0:=z02 BK225.out 0;have hfz41_1:=z02 BK225.out 1;have hfz41_2:=z02 BK225.out 2;have hfz41_3:=z02 BK225.out 3;have hfz41_4:=z02 BK225.out 4;have hfz41_5:=z02 BK225.out 5
       go_upto_region 8 with (fail)
       repeat (go_quiet (fail);go_upto_region 8 with (fail))
       go_cut [90] (fun v90 wc=>∃ (kq:Nat) (x90_39:Bool),v90=.bool x90_39∧Aside0 (z0b.j2 kq x90_39 a0_0 a0_1 a0_2 l0_3 l0_4 l0_5=some r)∧Aside0 (kq≤k2)∧Aside0 (wc.heap[gb225]?=some (.cells #[.int .i64 a0_0,.int .i64 a0_1,.int .i64 a0_2,(.slice A0_3 l0_3.length c0_3),(.slice A0_4 l0_4.length c0_4),(.slice A0_5 l0_5.length c0_5)] 26 (0,0)))∧Aside0 (Below w.heap.size w wc))
       case first =>
        have H:=HC40.out;clear HC40
        by_cases c42:(l0_5.length:Int) > 256
        ·rw [if_pos c42] at H;have c42b0:decide (256 < (l0_5.length:Int))=true:=decide_eq_true c42;have c42b1:decide (256 < l0_5.length)=true:=decide_eq_true (by omega);clear c42
         (first|rw [c42b0]|(simp only [i64_w,i32_w];rw [c42b0])|skip)
         have H':=Aside0.mk H;clear H;have hcz43_0:wr.cell? ⟨gb225,0,none⟩=some (.int .i64 a0_0):=(z01 BK225.out 0).trans rfl;have hcz43_1:wr.cell? ⟨gb225,1,none⟩=some (.int .i64 a0_1):=(z01 BK225.out 1).trans rfl;have hcz43_2:wr.cell? ⟨gb225,2,none⟩=some (.int .i64 a0_2):=(z01 BK225.out 2).trans rfl;have hcz43_3:wr.cell? ⟨gb225,3,none⟩=some (.slice A0_3 l0_3.length c0_3):=(z01 BK225.out 3).trans rfl;have hcz43_4:wr.cell? ⟨gb225,4,none⟩=some (.slice A0_4 l0_4.length c0_4):=(z01 BK225.out 4).trans rfl;have hcz43_5:wr.cell? ⟨gb225,5,none⟩=some (.slice A0_5 l0_5.length c0_5):=(z01 BK225.out 5).trans rfl;have hfz43_0:=z02 BK225.out 0;have hfz43_1:=z02 BK225.out 1;have hfz43_2:=z02 BK225.out 2;have hfz43_3:=z02 BK225.out 3;have hfz43_4:=z02 BK225.out 4;have hfz43_5:=z02 BK225.out 5;go_wp2
         repeat (go_quiet (fail);try go_wp2)
         go_meet
         case rel=>exact ⟨_,(true),(by first|rfl|(simp;done)|(simp [*];done)),H',⟨by have:=HJ1.out;have:=HK2.out;first|omega|exact Nat.le_refl _⟩,⟨by (with_reducible repeat (first|refine z08 ?_ _|refine z09 ?_|refine z06 ?_ _));exact BK225.out⟩,⟨by repeat (first|(with_reducible first|exact HB.out|apply z04|apply z03|apply z05|refine z07 ?_ GE225.out)|exact HB.out)⟩⟩
        ·rw [if_neg c42] at H;have c42b0:decide (256 < (l0_5.length:Int))=false:=decide_eq_false c42;have c42b1:decide (256 < l0_5.length)=false:=decide_eq_false (by omega);clear c42
         (first|rw [c42b0]|(simp only [i64_w,i32_w];rw [c42b0])|skip)
         obtain ⟨ji44,hji44⟩:∃ j_:Int,(wrap64 ((l0_4.length:Int) - 1))=j_:=⟨_,rfl⟩;replace H:(if 0≤(ji44) then (if (ji44) < (l0_4.length:Int) then (z0b.j2 k2 (decide ((rd l0_4 (ji44)) ≥ (l0_5.length:Int))) a0_0 a0_1 a0_2 l0_3 l0_4 l0_5) else (none)) else (none))=some r:=by first|(rw [hji44] at H;exact H)|(simp only [hji44] at H ⊢;exact H)
         have hji44w:(IntKind.i64.wrap ((l0_4.length:Int) - 1))=ji44:=(i64_w _).trans hji44
         by_cases c45:0≤(ji44)
         ·rw [if_pos c45] at H;have c45b0:decide (0≤(ji44))=true:=decide_eq_true c45;clear c45
          by_cases c46:(ji44) < (l0_4.length:Int)
          ·rw [if_pos c46] at H;have c46b0:decide ((ji44) < (l0_4.length:Int))=true:=decide_eq_true c46;clear c46;have H':=Aside0.mk H;clear H;have hcz47_0:wr.cell? ⟨gb225,0,none⟩=some (.int .i64 a0_0):=(z01 BK225.out 0).trans rfl;have hcz47_1:wr.cell? ⟨gb225,1,none⟩=some (.int .i64 a0_1):=(z01 BK225.out 1).trans rfl;have hcz47_2:wr.cell? ⟨gb225,2,none⟩=some (.int .i64 a0_2):=(z01 BK225.out 2).trans rfl;have hcz47_3:wr.cell? ⟨gb225,3,none⟩=some (.slice A0_3 l0_3.length c0_3):=(z01 BK225.out 3).trans rfl;have hcz47_4:wr.cell? ⟨gb225,4,none⟩=some (.slice A0_4 l0_4.length c0_4):=(z01 BK225.out 4).trans rfl;have hcz47_5:wr.cell? ⟨gb225,5,none⟩=some (.slice A0_5 l0_5.length c0_5):=(z01 BK225.out 5).trans rfl;have hfz47_0:=z02 BK225.out 0;have hfz47_1:=z02 BK225.out 1;have hfz47_2:=z02 BK225.out 2;have hfz47_3:=z02 BK225.out 3;have hfz47_4:=z02 BK225.out 4;have hfz47_5:=z02 BK225.out 5;have p235:0≤((ji44):Int):=of_decide_eq_true (by assumption);have q235:(ji44) < (l0_4.length:Int):=of_decide_eq_true (by assumption);obtain ⟨ad235,e235,hx235_0⟩:=Kd.at_int HR0_4.out (ji44) p235 q235;cases e235;replace hx235_0:=(HB.out.cell (World.block_lt_of_cell? w _ hx235_0)).trans hx235_0;replace p235:=eq_true p235;replace q235:=eq_true q235;go_wp2
           repeat (go_quiet (fail);try go_wp2)
           go_meet
           case rel=>exact ⟨_,(decide ((rd l0_4 (ji44)) ≥ (l0_5.length:Int))),(by first|rfl|(simp;done)|(simp only [← hji44] <;> (first|rfl|simp))|(simp [*];done)),H',⟨by have:=HJ1.out;have:=HK2.out;first|omega|exact Nat.le_refl _⟩,⟨by (with_reducible repeat (first|refine z08 ?_ _|refine z09 ?_|refine z06 ?_ _));exact BK225.out⟩,⟨by repeat (first|(with_reducible first|exact HB.out|apply z04|apply z03|apply z05|refine z07 ?_ GE225.out)|exact HB.out)⟩⟩
          ·rw [if_neg c46] at H;exact absurd H (by simp)
         ·rw [if_neg c45] at H;exact absurd H (by simp)
       case rest =>
        clear HC40;obtain ⟨kq,x90_39,rfl,HA,HJ39,BK225,HB⟩:=hcut;cases kq with
        | zero=>exact absurd HA.out (by simp [z0b.j2])
        | succ kj39 =>
         have H:=HA.out;clear HA;simp only [z0b.j2] at H
         by_cases c48:x90_39=true
         ·subst c48;have H1:(some 3)=some r:=(by rw [if_pos rfl] at H;exact H);clear H;have H:=H1;clear H1;obtain rfl:=Option.some.inj H;go_wp2
          repeat (go_quiet (fail);try go_wp2)
          go_ret
          exact ⟨by first|rfl|(simp [z0k,z0j] <;> rfl)|(simp [*,z0k,z0j] <;> rfl),by repeat (first|(with_reducible first|exact HB.out|apply z04|apply z03|apply z05|refine z07 ?_ GE225.out)|exact HB.out)⟩
         ·replace c48:=Bool.eq_false_iff.mpr c48;subst c48;have H1:(z0b.l1 kj39 0 a0_0 a0_1 a0_2 l0_3 l0_4 l0_5)=some r:=(by rw [if_neg (show ¬ (false=true) by decide)] at H;exact H);clear H;have H:=H1;clear H1;have H':=Aside0.mk H;clear H;go_wp2
          repeat (go_quiet (fail);try go_wp2)
          go_loopg [4] kj39 (fun kq v4 w'=>∃ (x4_4:Int),v4=.int .i64 x4_4∧Aside0 (z0b.l1 kq x4_4 a0_0 a0_1 a0_2 l0_3 l0_4 l0_5=some r)∧Aside0 (kq≤kj39)∧Aside0 (w'.heap[gb225]?=some (.cells #[.int .i64 a0_0,.int .i64 a0_1,.int .i64 a0_2,(.slice A0_3 l0_3.length c0_3),(.slice A0_4 l0_4.length c0_4),(.slice A0_5 l0_5.length c0_5)] 26 (0,0)))∧Aside0 (Below w.heap.size w w'))
          case atStart=>exact ⟨(0),(by first|rfl|(simp;done)|(simp [*];done)),H',⟨Nat.le_refl _⟩,⟨by (with_reducible repeat (first|refine z08 ?_ _|refine z09 ?_|refine z06 ?_ _));exact BK225.out⟩,⟨by repeat (first|(with_reducible first|exact HB.out|apply z04|apply z03|apply z05|refine z07 ?_ GE225.out)|exact HB.out)⟩⟩
          case round =>
           clear H';obtain ⟨x4_4,rfl,HA,HK4,BK225,HB⟩:=hrel;cases gk with
           | zero=>exact absurd HA.out (by simp [z0b.l1])
           | succ k4 =>
            have H:=HA.out;clear HA;simp only [z0b.l1] at H
            by_cases c49:x4_4 < (l0_5.length:Int)
            ·rw [if_pos c49] at H;have c49b0:decide (x4_4 < (l0_5.length:Int))=true:=decide_eq_true c49;clear c49
             by_cases c50:0≤x4_4
             ·rw [if_pos c50] at H;have c50b0:decide (0≤x4_4)=true:=decide_eq_true c50;clear c50;replace H:=Option.bind_eq_some_iff.mp H;obtain ⟨⟨t237,t240⟩,A510,H⟩:=H;skip;have A51:=Aside0.mk A510;clear A510
              by_cases c52:t240=0
              ·rw [if_pos c52] at H;have c52b0:(t240 == 0)=true:=beq_iff_eq.mpr c52;have c52b1:(t240 != 0)=false:=bne_eq_false_iff_eq.mpr c52;clear c52;have H':=Aside0.mk H;clear H;have hcz53_0:wr.cell? ⟨gb225,0,none⟩=some (.int .i64 a0_0):=(z01 BK225.out 0).trans rfl;have hcz53_1:wr.cell? ⟨gb225,1,none⟩=some (.int .i64 a0_1):=(z01 BK225.out 1).trans rfl;have hcz53_2:wr.cell? ⟨gb225,2,none⟩=some (.int .i64 a0_2):=(z01 BK225.out 2).trans rfl;have hcz53_3:wr.cell? ⟨gb225,3,none⟩=some (.slice A0_3 l0_3.length c0_3):=(z01 BK225.out 3).trans rfl;have hcz53_4:wr.cell? ⟨gb225,4,none⟩=some (.slice A0_4 l0_4.length c0_4):=(z01 BK225.out 4).trans rfl;have hcz53_5:wr.cell? ⟨gb225,5,none⟩=some (.slice A0_5 l0_5.length c0_5):=(z01 BK225.out 5).trans rfl;have hfz53_0:=z02 BK225.out 0;have hfz53_1:=z02 BK225.out 1;have hfz53_2:=z02 BK225.out 2;have hfz53_3:=z02 BK225.out 3;have hfz53_4:=z02 BK225.out 4;have hfz53_5:=z02 BK225.out 5;have p236:0≤(x4_4:Int):=of_decide_eq_true (by assumption);have q236:x4_4 < (l0_5.length:Int):=of_decide_eq_true (by assumption);obtain ⟨ad236,e236,hx236_0,hx236_1,hx236_2,hx236_3,hx236_4⟩:=at_T79 HR0_5.out x4_4 p236 q236;cases e236;replace hx236_0:=(HB.out.cell (World.block_lt_of_cell? w _ hx236_0)).trans hx236_0;replace hx236_1:=(HB.out.cell (World.block_lt_of_cell? w _ hx236_1)).trans hx236_1;replace hx236_2:=(HB.out.cell (World.block_lt_of_cell? w _ hx236_2)).trans hx236_2;replace hx236_3:=(HB.out.cell (World.block_lt_of_cell? w _ hx236_3)).trans hx236_3;replace hx236_4:=(HB.out.cell (World.block_lt_of_cell? w _ hx236_4)).trans hx236_4;replace p236:=eq_true p236;replace q236:=eq_true q236
               go_wp2_with (first|(go_at_call 57;(with_reducible refine (z0r.calls k4 ((z0a l0_5 x4_4).f0) ((z0a l0_5 x4_4).f1) ((z0a l0_5 x4_4).f2) ((z0a l0_5 x4_4).f3) ((z0a l0_5 x4_4).f4) t237 t240 _ A51.out).mono ?_);rintro e w54 ⟨v238,rfl,ho0,hb⟩;have n0_:=Aside0.mk (Kd.R_lower ho0 (z0o (by repeat (first|(with_reducible first|exact HB.out|apply z04|apply z03|apply z05|refine z07 ?_ GE225.out)|exact HB.out))));have n1_:=Aside0.mk (z0h (g:=gb225) (o:=.cells #[.int .i64 a0_0,.int .i64 a0_1,.int .i64 a0_2,.slice A0_3 l0_3.length c0_3,.slice A0_4 l0_4.length c0_4,.slice (some ad236) l0_5.length c0_5] 26 (0,0)) (by (with_reducible repeat (first|refine z08 ?_ _|refine z09 ?_|refine z06 ?_ _));exact BK225.out) hb);have n2_:=Aside0.mk (z0t (by repeat (first|(with_reducible first|exact HB.out|apply z04|apply z03|apply z05|refine z07 ?_ GE225.out)|exact HB.out)) hb);clear BK225;clear HB;have HO239:=n0_;have BK225:=n1_;have HB:=n2_;clear n0_ n1_ n2_;(try clear hb);(try clear hb2);(try clear hk);(try clear hi);(try clear ho0)))
               repeat (go_quiet (first|(go_at_call 57;(with_reducible refine (z0r.calls k4 ((z0a l0_5 x4_4).f0) ((z0a l0_5 x4_4).f1) ((z0a l0_5 x4_4).f2) ((z0a l0_5 x4_4).f3) ((z0a l0_5 x4_4).f4) t237 t240 _ A51.out).mono ?_);rintro e w54 ⟨v238,rfl,ho0,hb⟩;have n0_:=Aside0.mk (Kd.R_lower ho0 (z0o (by repeat (first|(with_reducible first|exact HB.out|apply z04|apply z03|apply z05|refine z07 ?_ GE225.out)|exact HB.out))));have n1_:=Aside0.mk (z0h (g:=gb225) (o:=.cells #[.int .i64 a0_0,.int .i64 a0_1,.int .i64 a0_2,.slice A0_3 l0_3.length c0_3,.slice A0_4 l0_4.length c0_4,.slice (some ad236) l0_5.length c0_5] 26 (0,0)) (by (with_reducible repeat (first|refine z08 ?_ _|refine z09 ?_|refine z06 ?_ _));exact BK225.out) hb);have n2_:=Aside0.mk (z0t (by repeat (first|(with_reducible first|exact HB.out|apply z04|apply z03|apply z05|refine z07 ?_ GE225.out)|exact HB.out)) hb);clear BK225;clear HB;have HO239:=n0_;have BK225:=n1_;have HB:=n2_;clear n0_ n1_ n2_;(try clear hb);(try clear hb2);(try clear hk);(try clear hi);(try clear ho0)));try go_wp2_with (first|(go_at_call 57;(with_reducible refine (z0r.calls k4 ((z0a l0_5 x4_4).f0) ((z0a l0_5 x4_4).f1) ((z0a l0_5 x4_4).f2) ((z0a l0_5 x4_4).f3) ((z0a l0_5 x4_4).f4) t237 t240 _ A51.out).mono ?_);rintro e w54 ⟨v238,rfl,ho0,hb⟩;have n0_:=Aside0.mk (Kd.R_lower ho0 (z0o (by repeat (first|(with_reducible first|exact HB.out|apply z04|apply z03|apply z05|refine z07 ?_ GE225.out)|exact HB.out))));have n1_:=Aside0.mk (z0h (g:=gb225) (o:=.cells #[.int .i64 a0_0,.int .i64 a0_1,.int .i64 a0_2,.slice A0_3 l0_3.length c0_3,.slice A0_4 l0_4.length c0_4,.slice (some ad236) l0_5.length c0_5] 26 (0,0)) (by (with_reducible repeat (first|refine z08 ?_ _|refine z09 ?_|refine z06 ?_ _));exact BK225.out) hb);have n2_:=Aside0.mk (z0t (by repeat (first|(with_reducible first|exact HB.out|apply z04|apply z03|apply z05|refine z07 ?_ GE225.out)|exact HB.out)) hb);clear BK225;clear HB;have HO239:=n0_;have BK225:=n1_;have HB:=n2_;clear n0_ n1_ n2_;(try clear hb);(try clear hb2);(try clear hk);(try clear hi);(try clear ho0))))
               go_roundg k4
               case measure=>have:=HJ1.out;have:=HK2.out;have:=HJ39.out;have:=HK4.out;omega
               case rel=>exact ⟨(wrap64 (x4_4+1)),(by first|rfl|(simp;done)|(simp [*];done)),H',⟨by have:=HJ1.out;have:=HK2.out;have:=HJ39.out;have:=HK4.out;omega⟩,⟨by (with_reducible repeat (first|refine z08 ?_ _|refine z09 ?_|refine z06 ?_ _));exact BK225.out⟩,⟨by repeat (first|(with_reducible first|exact HB.out|apply z04|apply z03|apply z05|refine z07 ?_ GE225.out)|exact HB.out)⟩⟩
              ·rw [if_neg c52] at H;have c52b0:(t240 == 0)=false:=beq_eq_false_iff_ne.mpr c52;have c52b1:(t240 != 0)=true:=bne_iff_ne.mpr c52;obtain rfl:=Option.some.inj H;have hcz55_0:wr.cell? ⟨gb225,0,none⟩=some (.int .i64 a0_0):=(z01 BK225.out 0).trans rfl;have hcz55_1:wr.cell? ⟨gb225,1,none⟩=some (.int .i64 a0_1):=(z01 BK225.out 1).trans rfl;have hcz55_2:wr.cell? ⟨gb225,2,none⟩=some (.int .i64 a0_2):=(z01 BK225.out 2).trans rfl;have hcz55_3:wr.cell? ⟨gb225,3,none⟩=some (.slice A0_3 l0_3.length c0_3):=(z01 BK225.out 3).trans rfl;have hcz55_4:wr.cell? ⟨gb225,4,none⟩=some (.slice A0_4 l0_4.length c0_4):=(z01 BK225.out 4).trans rfl;have hcz55_5:wr.cell? ⟨gb225,5,none⟩=some (.slice A0_5 l0_5.length c0_5):=(z01 BK225.out 5).trans rfl;have hfz55_0:=z02 BK225.out 0;have hfz55_1:=z02 BK225.out 1;have hfz55_2:=z02 BK225.out 2;have hfz55_3:=z02 BK225.out 3;have hfz55_4:=z02 BK225.out 4;have hfz55_5:=z02 BK225.out 5;have p236:0≤(x4_4:Int):=of_decide_eq_true (by assumption);have q236:x4_4 < (l0_5.length:Int):=of_decide_eq_true (by assumption);obtain ⟨ad236,e236,hx236_0,hx236_1,hx236_2,hx236_3,hx236_4⟩:=at_T79 HR0_5.out x4_4 p236 q236;cases e236;replace hx236_0:=(HB.out.cell (World.block_lt_of_cell? w _ hx236_0)).trans hx236_0;replace hx236_1:=(HB.out.cell (World.block_lt_of_cell? w _ hx236_1)).trans hx236_1;replace hx236_2:=(HB.out.cell (World.block_lt_of_cell? w _ hx236_2)).trans hx236_2;replace hx236_3:=(HB.out.cell (World.block_lt_of_cell? w _ hx236_3)).trans hx236_3;replace hx236_4:=(HB.out.cell (World.block_lt_of_cell? w _ hx236_4)).trans hx236_4;replace p236:=eq_true p236;replace q236:=eq_true q236
               go_wp2_with (first|(go_at_call 57;(with_reducible refine (z0r.calls k4 ((z0a l0_5 x4_4).f0) ((z0a l0_5 x4_4).f1) ((z0a l0_5 x4_4).f2) ((z0a l0_5 x4_4).f3) ((z0a l0_5 x4_4).f4) t237 t240 _ A51.out).mono ?_);rintro e w56 ⟨v238,rfl,ho0,hb⟩;have n0_:=Aside0.mk (Kd.R_lower ho0 (z0o (by repeat (first|(with_reducible first|exact HB.out|apply z04|apply z03|apply z05|refine z07 ?_ GE225.out)|exact HB.out))));have n1_:=Aside0.mk (z0h (g:=gb225) (o:=.cells #[.int .i64 a0_0,.int .i64 a0_1,.int .i64 a0_2,.slice A0_3 l0_3.length c0_3,.slice A0_4 l0_4.length c0_4,.slice (some ad236) l0_5.length c0_5] 26 (0,0)) (by (with_reducible repeat (first|refine z08 ?_ _|refine z09 ?_|refine z06 ?_ _));exact BK225.out) hb);have n2_:=Aside0.mk (z0t (by repeat (first|(with_reducible first|exact HB.out|apply z04|apply z03|apply z05|refine z07 ?_ GE225.out)|exact HB.out)) hb);clear BK225;clear HB;have HO239:=n0_;have BK225:=n1_;have HB:=n2_;clear n0_ n1_ n2_;(try clear hb);(try clear hb2);(try clear hk);(try clear hi);(try clear ho0)))
               repeat (go_quiet (first|(go_at_call 57;(with_reducible refine (z0r.calls k4 ((z0a l0_5 x4_4).f0) ((z0a l0_5 x4_4).f1) ((z0a l0_5 x4_4).f2) ((z0a l0_5 x4_4).f3) ((z0a l0_5 x4_4).f4) t237 t240 _ A51.out).mono ?_);rintro e w56 ⟨v238,rfl,ho0,hb⟩;have n0_:=Aside0.mk (Kd.R_lower ho0 (z0o (by repeat (first|(with_reducible first|exact HB.out|apply z04|apply z03|apply z05|refine z07 ?_ GE225.out)|exact HB.out))));have n1_:=Aside0.mk (z0h (g:=gb225) (o:=.cells #[.int .i64 a0_0,.int .i64 a0_1,.int .i64 a0_2,.slice A0_3 l0_3.length c0_3,.slice A0_4 l0_4.length c0_4,.slice (some ad236) l0_5.length c0_5] 26 (0,0)) (by (with_reducible repeat (first|refine z08 ?_ _|refine z09 ?_|refine z06 ?_ _));exact BK225.out) hb);have n2_:=Aside0.mk (z0t (by repeat (first|(with_reducible first|exact HB.out|apply z04|apply z03|apply z05|refine z07 ?_ GE225.out)|exact HB.out)) hb);clear BK225;clear HB;have HO239:=n0_;have BK225:=n1_;have HB:=n2_;clear n0_ n1_ n2_;(try clear hb);(try clear hb2);(try clear hk);(try clear hi);(try clear ho0)));try go_wp2_with (first|(go_at_call 57;(with_reducible refine (z0r.calls k4 ((z0a l0_5 x4_4).f0) ((z0a l0_5 x4_4).f1) ((z0a l0_5 x4_4).f2) ((z0a l0_5 x4_4).f3) ((z0a l0_5 x4_4).f4) t237 t240 _ A51.out).mono ?_);rintro e w56 ⟨v238,rfl,ho0,hb⟩;have n0_:=Aside0.mk (Kd.R_lower ho0 (z0o (by repeat (first|(with_reducible first|exact HB.out|apply z04|apply z03|apply z05|refine z07 ?_ GE225.out)|exact HB.out))));have n1_:=Aside0.mk (z0h (g:=gb225) (o:=.cells #[.int .i64 a0_0,.int .i64 a0_1,.int .i64 a0_2,.slice A0_3 l0_3.length c0_3,.slice A0_4 l0_4.length c0_4,.slice (some ad236) l0_5.length c0_5] 26 (0,0)) (by (with_reducible repeat (first|refine z08 ?_ _|refine z09 ?_|refine z06 ?_ _));exact BK225.out) hb);have n2_:=Aside0.mk (z0t (by repeat (first|(with_reducible first|exact HB.out|apply z04|apply z03|apply z05|refine z07 ?_ GE225.out)|exact HB.out)) hb);clear BK225;clear HB;have HO239:=n0_;have BK225:=n1_;have HB:=n2_;clear n0_ n1_ n2_;(try clear hb);(try clear hb2);(try clear hk);(try clear hi);(try clear ho0))))
               go_ret
               exact ⟨by first|rfl|(simp [z0k,z0j] <;> rfl)|(simp [*,z0k,z0j] <;> rfl),by repeat (first|(with_reducible first|exact HB.out|apply z04|apply z03|apply z05|refine z07 ?_ GE225.out)|exact HB.out)⟩
             ·rw [if_neg c50] at H;exact absurd H (by simp)
            ·rw [if_neg c49] at H;have c49b0:decide (x4_4 < (l0_5.length:Int))=false:=decide_eq_false c49;clear c49;replace H:=Option.bind_eq_some_iff.mp H;obtain ⟨t241,A570,H⟩:=H;skip;have A57:=Aside0.mk A570;clear A570
             by_cases c58:t241 ≥ 0
             ·rw [if_pos c58] at H;have c58b0:decide (0≤t241)=true:=decide_eq_true c58;clear c58;obtain rfl:=Option.some.inj H;have hcz59_0:wr.cell? ⟨gb225,0,none⟩=some (.int .i64 a0_0):=(z01 BK225.out 0).trans rfl;have hcz59_1:wr.cell? ⟨gb225,1,none⟩=some (.int .i64 a0_1):=(z01 BK225.out 1).trans rfl;have hcz59_2:wr.cell? ⟨gb225,2,none⟩=some (.int .i64 a0_2):=(z01 BK225.out 2).trans rfl;have hcz59_3:wr.cell? ⟨gb225,3,none⟩=some (.slice A0_3 l0_3.length c0_3):=(z01 BK225.out 3).trans rfl;have hcz59_4:wr.cell? ⟨gb225,4,none⟩=some (.slice A0_4 l0_4.length c0_4):=(z01 BK225.out 4).trans rfl;have hcz59_5:wr.cell? ⟨gb225,5,none⟩=some (.slice A0_5 l0_5.length c0_5):=(z01 BK225.out 5).trans rfl;have hfz59_0:=z02 BK225.out 0;have hfz59_1:=z02 BK225.out 1;have hfz59_2:=z02 BK225.out 2;have hfz59_3:=z02 BK225.out 3;have hfz59_4:=z02 BK225.out 4;have hfz59_5:=z02 BK225.out 5
              go_wp2_with (first|(go_at_call 58;(with_reducible refine (z0c.calls k4 a0_0 a0_1 a0_2 _ _ l0_3 _ _ l0_4 _ _ l0_5 t241 _ ?side1 ?side2 ?side3 ?side4 ?side5 ?side6 A57.out).mono ?_);(case side1=>repeat (first|exact (Kd.C_below HR0_3.out HB.out)|(with_reducible refine Kd.C_alloc ?_ _)|(with_reducible refine Kd.C_drewN ?_ _)|(with_reducible refine Kd.C_drew ?_)));(case side2=>exact HC0_3.out);(case side3=>repeat (first|exact (Kd.C_below HR0_4.out HB.out)|(with_reducible refine Kd.C_alloc ?_ _)|(with_reducible refine Kd.C_drewN ?_ _)|(with_reducible refine Kd.C_drew ?_)));(case side4=>exact HC0_4.out);(case side5=>repeat (first|exact (Kd.C_below HR0_5.out HB.out)|(with_reducible refine Kd.C_alloc ?_ _)|(with_reducible refine Kd.C_drewN ?_ _)|(with_reducible refine Kd.C_drew ?_)));(case side6=>exact HC0_5.out);rintro e w60 ⟨rfl,hb⟩;have n0_:=Aside0.mk (z0h (g:=gb225) (o:=.cells #[.int .i64 a0_0,.int .i64 a0_1,.int .i64 a0_2,.slice A0_3 l0_3.length c0_3,.slice A0_4 l0_4.length c0_4,.slice A0_5 l0_5.length c0_5] 26 (0,0)) (by (with_reducible repeat (first|refine z08 ?_ _|refine z09 ?_|refine z06 ?_ _));exact BK225.out) hb);have n1_:=Aside0.mk (z0t (by repeat (first|(with_reducible first|exact HB.out|apply z04|apply z03|apply z05|refine z07 ?_ GE225.out)|exact HB.out)) hb);clear BK225;clear HB;have BK225:=n0_;have HB:=n1_;clear n0_ n1_;(try clear hb);(try clear hb2);(try clear hk);(try clear hi)))
              repeat (go_quiet (first|(go_at_call 58;(with_reducible refine (z0c.calls k4 a0_0 a0_1 a0_2 _ _ l0_3 _ _ l0_4 _ _ l0_5 t241 _ ?side1 ?side2 ?side3 ?side4 ?side5 ?side6 A57.out).mono ?_);(case side1=>repeat (first|exact (Kd.C_below HR0_3.out HB.out)|(with_reducible refine Kd.C_alloc ?_ _)|(with_reducible refine Kd.C_drewN ?_ _)|(with_reducible refine Kd.C_drew ?_)));(case side2=>exact HC0_3.out);(case side3=>repeat (first|exact (Kd.C_below HR0_4.out HB.out)|(with_reducible refine Kd.C_alloc ?_ _)|(with_reducible refine Kd.C_drewN ?_ _)|(with_reducible refine Kd.C_drew ?_)));(case side4=>exact HC0_4.out);(case side5=>repeat (first|exact (Kd.C_below HR0_5.out HB.out)|(with_reducible refine Kd.C_alloc ?_ _)|(with_reducible refine Kd.C_drewN ?_ _)|(with_reducible refine Kd.C_drew ?_)));(case side6=>exact HC0_5.out);rintro e w60 ⟨rfl,hb⟩;have n0_:=Aside0.mk (z0h (g:=gb225) (o:=.cells #[.int .i64 a0_0,.int .i64 a0_1,.int .i64 a0_2,.slice A0_3 l0_3.length c0_3,.slice A0_4 l0_4.length c0_4,.slice A0_5 l0_5.length c0_5] 26 (0,0)) (by (with_reducible repeat (first|refine z08 ?_ _|refine z09 ?_|refine z06 ?_ _));exact BK225.out) hb);have n1_:=Aside0.mk (z0t (by repeat (first|(with_reducible first|exact HB.out|apply z04|apply z03|apply z05|refine z07 ?_ GE225.out)|exact HB.out)) hb);clear BK225;clear HB;have BK225:=n0_;have HB:=n1_;clear n0_ n1_;(try clear hb);(try clear hb2);(try clear hk);(try clear hi)));try go_wp2_with (first|(go_at_call 58;(with_reducible refine (z0c.calls k4 a0_0 a0_1 a0_2 _ _ l0_3 _ _ l0_4 _ _ l0_5 t241 _ ?side1 ?side2 ?side3 ?side4 ?side5 ?side6 A57.out).mono ?_);(case side1=>repeat (first|exact (Kd.C_below HR0_3.out HB.out)|(with_reducible refine Kd.C_alloc ?_ _)|(with_reducible refine Kd.C_drewN ?_ _)|(with_reducible refine Kd.C_drew ?_)));(case side2=>exact HC0_3.out);(case side3=>repeat (first|exact (Kd.C_below HR0_4.out HB.out)|(with_reducible refine Kd.C_alloc ?_ _)|(with_reducible refine Kd.C_drewN ?_ _)|(with_reducible refine Kd.C_drew ?_)));(case side4=>exact HC0_4.out);(case side5=>repeat (first|exact (Kd.C_below HR0_5.out HB.out)|(with_reducible refine Kd.C_alloc ?_ _)|(with_reducible refine Kd.C_drewN ?_ _)|(with_reducible refine Kd.C_drew ?_)));(case side6=>exact HC0_5.out);rintro e w60 ⟨rfl,hb⟩;have n0_:=Aside0.mk (z0h (g:=gb225) (o:=.cells #[.int .i64 a0_0,.int .i64 a0_1,.int .i64 a0_2,.slice A0_3 l0_3.length c0_3,.slice A0_4 l0_4.length c0_4,.slice A0_5 l0_5.length c0_5] 26 (0,0)) (by (with_reducible repeat (first|refine z08 ?_ _|refine z09 ?_|refine z06 ?_ _));exact BK225.out) hb);have n1_:=Aside0.mk (z0t (by repeat (first|(with_reducible first|exact HB.out|apply z04|apply z03|apply z05|refine z07 ?_ GE225.out)|exact HB.out)) hb);clear BK225;clear HB;have BK225:=n0_;have HB:=n1_;clear n0_ n1_;(try clear hb);(try clear hb2);(try clear hk);(try clear hi))))
              go_ret
              exact ⟨by first|rfl|(simp [z0k,z0j] <;> rfl)|(simp [*,z0k,z0j] <;> rfl),by repeat (first|(with_reducible first|exact HB.out|apply z04|apply z03|apply z05|refine z07 ?_ GE225.out)|exact HB.out)⟩
             ·rw [if_neg c58] at H;have c58b0:decide (0≤t241)=false:=decide_eq_false c58;clear c58;obtain rfl:=Option.some.inj H;have hcz61_0:wr.cell? ⟨gb225,0,none⟩=some (.int .i64 a0_0):=(z01 BK225.out 0).trans rfl;have hcz61_1:wr.cell? ⟨gb225,1,none⟩=some (.int .i64 a0_1):=(z01 BK225.out 1).trans rfl;have hcz61_2:wr.cell? ⟨gb225,2,none⟩=some (.int .i64 a0_2):=(z01 BK225.out 2).trans rfl;have hcz61_3:wr.cell? ⟨gb225,3,none⟩=some (.slice A0_3 l0_3.length c0_3):=(z01 BK225.out 3).trans rfl;have hcz61_4:wr.cell? ⟨gb225,4,none⟩=some (.slice A0_4 l0_4.length c0_4):=(z01 BK225.out 4).trans rfl;have hcz61_5:wr.cell? ⟨gb225,5,none⟩=some (.slice A0_5 l0_5.length c0_5):=(z01 BK225.out 5).trans rfl;have hfz61_0:=z02 BK225.out 0;have hfz61_1:=z02 BK225.out 1;have hfz61_2:=z02 BK225.out 2;have hfz61_3:=z02 BK225.out 3;have hfz61_4:=z02 BK225.out 4;have hfz61_5:=z02 BK225.out 5
              go_wp2_with (first|(go_at_call 58;(with_reducible refine (z0c.calls k4 a0_0 a0_1 a0_2 _ _ l0_3 _ _ l0_4 _ _ l0_5 t241 _ ?side1 ?side2 ?side3 ?side4 ?side5 ?side6 A57.out).mono ?_);(case side1=>repeat (first|exact (Kd.C_below HR0_3.out HB.out)|(with_reducible refine Kd.C_alloc ?_ _)|(with_reducible refine Kd.C_drewN ?_ _)|(with_reducible refine Kd.C_drew ?_)));(case side2=>exact HC0_3.out);(case side3=>repeat (first|exact (Kd.C_below HR0_4.out HB.out)|(with_reducible refine Kd.C_alloc ?_ _)|(with_reducible refine Kd.C_drewN ?_ _)|(with_reducible refine Kd.C_drew ?_)));(case side4=>exact HC0_4.out);(case side5=>repeat (first|exact (Kd.C_below HR0_5.out HB.out)|(with_reducible refine Kd.C_alloc ?_ _)|(with_reducible refine Kd.C_drewN ?_ _)|(with_reducible refine Kd.C_drew ?_)));(case side6=>exact HC0_5.out);rintro e w62 ⟨rfl,hb⟩;have n0_:=Aside0.mk (z0h (g:=gb225) (o:=.cells #[.int .i64 a0_0,.int .i64 a0_1,.int .i64 a0_2,.slice A0_3 l0_3.length c0_3,.slice A0_4 l0_4.length c0_4,.slice A0_5 l0_5.length c0_5] 26 (0,0)) (by (with_reducible repeat (first|refine z08 ?_ _|refine z09 ?_|refine z06 ?_ _));exact BK225.out) hb);have n1_:=Aside0.mk (z0t (by repeat (first|(with_reducible first|exact HB.out|apply z04|apply z03|apply z05|refine z07 ?_ GE225.out)|exact HB.out)) hb);clear BK225;clear HB;have BK225:=n0_;have HB:=n1_;clear n0_ n1_;(try clear hb);(try clear hb2);(try clear hk);(try clear hi)))
              repeat (go_quiet (first|(go_at_call 58;(with_reducible refine (z0c.calls k4 a0_0 a0_1 a0_2 _ _ l0_3 _ _ l0_4 _ _ l0_5 t241 _ ?side1 ?side2 ?side3 ?side4 ?side5 ?side6 A57.out).mono ?_);(case side1=>repeat (first|exact (Kd.C_below HR0_3.out HB.out)|(with_reducible refine Kd.C_alloc ?_ _)|(with_reducible refine Kd.C_drewN ?_ _)|(with_reducible refine Kd.C_drew ?_)));(case side2=>exact HC0_3.out);(case side3=>repeat (first|exact (Kd.C_below HR0_4.out HB.out)|(with_reducible refine Kd.C_alloc ?_ _)|(with_reducible refine Kd.C_drewN ?_ _)|(with_reducible refine Kd.C_drew ?_)));(case side4=>exact HC0_4.out);(case side5=>repeat (first|exact (Kd.C_below HR0_5.out HB.out)|(with_reducible refine Kd.C_alloc ?_ _)|(with_reducible refine Kd.C_drewN ?_ _)|(with_reducible refine Kd.C_drew ?_)));(case side6=>exact HC0_5.out);rintro e w62 ⟨rfl,hb⟩;have n0_:=Aside0.mk (z0h (g:=gb225) (o:=.cells #[.int .i64 a0_0,.int .i64 a0_1,.int .i64 a0_2,.slice A0_3 l0_3.length c0_3,.slice A0_4 l0_4.length c0_4,.slice A0_5 l0_5.length c0_5] 26 (0,0)) (by (with_reducible repeat (first|refine z08 ?_ _|refine z09 ?_|refine z06 ?_ _));exact BK225.out) hb);have n1_:=Aside0.mk (z0t (by repeat (first|(with_reducible first|exact HB.out|apply z04|apply z03|apply z05|refine z07 ?_ GE225.out)|exact HB.out)) hb);clear BK225;clear HB;have BK225:=n0_;have HB:=n1_;clear n0_ n1_;(try clear hb);(try clear hb2);(try clear hk);(try clear hi)));try go_wp2_with (first|(go_at_call 58;(with_reducible refine (z0c.calls k4 a0_0 a0_1 a0_2 _ _ l0_3 _ _ l0_4 _ _ l0_5 t241 _ ?side1 ?side2 ?side3 ?side4 ?side5 ?side6 A57.out).mono ?_);(case side1=>repeat (first|exact (Kd.C_below HR0_3.out HB.out)|(with_reducible refine Kd.C_alloc ?_ _)|(with_reducible refine Kd.C_drewN ?_ _)|(with_reducible refine Kd.C_drew ?_)));(case side2=>exact HC0_3.out);(case side3=>repeat (first|exact (Kd.C_below HR0_4.out HB.out)|(with_reducible refine Kd.C_alloc ?_ _)|(with_reducible refine Kd.C_drewN ?_ _)|(with_reducible refine Kd.C_drew ?_)));(case side4=>exact HC0_4.out);(case side5=>repeat (first|exact (Kd.C_below HR0_5.out HB.out)|(with_reducible refine Kd.C_alloc ?_ _)|(with_reducible refine Kd.C_drewN ?_ _)|(with_reducible refine Kd.C_drew ?_)));(case side6=>exact HC0_5.out);rintro e w62 ⟨rfl,hb⟩;have n0_:=Aside0.mk (z0h (g:=gb225) (o:=.cells #[.int .i64 a0_0,.int .i64 a0_1,.int .i64 a0_2,.slice A0_3 l0_3.length c0_3,.slice A0_4 l0_4.length c0_4,.slice A0_5 l0_5.length c0_5] 26 (0,0)) (by (with_reducible repeat (first|refine z08 ?_ _|refine z09 ?_|refine z06 ?_ _));exact BK225.out) hb);have n1_:=Aside0.mk (z0t (by repeat (first|(with_reducible first|exact HB.out|apply z04|apply z03|apply z05|refine z07 ?_ GE225.out)|exact HB.out)) hb);clear BK225;clear HB;have BK225:=n0_;have HB:=n1_;clear n0_ n1_;(try clear hb);(try clear hb2);(try clear hk);(try clear hi))))
              go_ret
              exact ⟨by first|rfl|(simp [z0k,z0j] <;> rfl)|(simp [*,z0k,z0j] <;> rfl),by repeat (first|(with_reducible first|exact HB.out|apply z04|apply z03|apply z05|refine z07 ?_ GE225.out)|exact HB.out)⟩
attribute [local go_sem] z1w z1x z23 z26 z1r z1q z1u z1v
def z1g.f (k:Nat) (a0_0:Int) (a0_1:Int) (a0_2:Int) (l0_3:List Int) (l0_4:List Int) (l0_5:List (S79)):Option (Bool):=(z0b.f k a0_0 a0_1 a0_2 l0_3 l0_4 l0_5).bind fun t282=>(some (t282 == 0))
theorem z1g.mono:∀ a0 a1 a2 a3 a4 a5 k,LeO (z1g.f k a0 a1 a2 a3 a4 a5) (z1g.f (k+1) a0 a1 a2 a3 a4 a5):=by
 intro a0 a1 a2 a3 a4 a5 k;unfold z1g.f
 repeat' first|exact z0b.mono _ _ _ _ _ _ _|exact LeO.none _|refine LeO.ite ?_ ?_|refine LeO.bind ?_ (fun _=>?_)|exact LeO.refl _
theorem z1g.calls (k:Nat) (a0_0:Int) (a0_1:Int) (a0_2:Int) (A0_3:Option Addr) (c0_3:Nat) (l0_3:List Int) (A0_4:Option Addr) (c0_4:Nat) (l0_4:List Int) (A0_5:Option Addr) (c0_5:Nat) (l0_5:List (S79)) (r:Bool) (w:World) (hr0_3:Kd.C (Kd.int .u8) w A0_3 l0_3.length l0_3) (hc0_3:l0_3.length≤c0_3) (hr0_4:Kd.C (Kd.int .i64) w A0_4 l0_4.length l0_4) (hc0_4:l0_4.length≤c0_4) (hr0_5:Kd.C k79 w A0_5 l0_5.length l0_5) (hc0_5:l0_5.length≤c0_5) (h:z1g.f k a0_0 a0_1 a0_2 l0_3 l0_4 l0_5=some r) :
  Calls Tryz.prog 30 #[.agg #[.int .i64 a0_0,.int .i64 a0_1,.int .i64 a0_2,.slice A0_3 l0_3.length c0_3,.slice A0_4 l0_4.length c0_4,.slice A0_5 l0_5.length c0_5]] w fun e w'=>e=.returned (.bool r)∧Below w.heap.size w w':=by
 have hu26:=Tryz.underlying26;have HR0_3:=Aside0.mk hr0_3;have HC0_3:=Aside0.mk hc0_3;clear hr0_3 hc0_3;have HR0_4:=Aside0.mk hr0_4;have HC0_4:=Aside0.mk hc0_4;clear hr0_4 hc0_4;have HR0_5:=Aside0.mk hr0_5;have HC0_5:=Aside0.mk hc0_5;clear hr0_5 hc0_5;have HB:=Aside0.mk (Below.refl w.heap.size w);have H:((z0b.f k a0_0 a0_1 a0_2 l0_3 l0_4 l0_5).bind fun t282=>(some (t282 == 0)))=some r:=h;clear h;replace H:=Option.bind_eq_some_iff.mp H;obtain ⟨t282,A20,H⟩:=H;skip;have A2:=Aside0.mk A20;clear A20;obtain rfl:=Option.some.inj H
 go_enter Tryz.func30,Tryz.ntmps30
 go_wp2_with (first|((with_reducible refine z15 (N:=1) rfl ?_);refine z1e ?hg (N:=1) ?hd (cs:=#[.int .i64 a0_0,.int .i64 a0_1,.int .i64 a0_2,.slice A0_3 l0_3.length c0_3,.slice A0_4 l0_4.length c0_4,.slice A0_5 l0_5.length c0_5]) (t:=26) ?hr ?_;(case hd=>rfl);(case hg=>rfl);(case hr=>first|(go_simp;done)|(go_simp;rfl));intro gb281 hg w3 hbox hb;have n0_:=Aside0.mk (z0t (by repeat (first|exact HB.out|apply z04|apply z03|apply z05)) hb);have n1_:=Aside0.mk (hbox);have n2_:=Aside0.mk ((by rw [hg];exact (z0o (by repeat (first|exact HB.out|apply z04|apply z03|apply z05))):w.heap.size≤gb281));have n3_:=Aside0.mk ((by rw [hg];exact (z0o (by repeat (first|exact HB.out|apply z04|apply z03|apply z05))):w.heap.size≤gb281));clear HB;have HB:=n0_;have BK281:=n1_;have GW281:=n2_;have GE281:=n3_;clear n0_ n1_ n2_ n3_;clear hb hbox hg;have hcz4_0:w3.cell? ⟨gb281,0,none⟩=some (.int .i64 a0_0):=(z01 BK281.out 0).trans rfl;have hcz4_1:w3.cell? ⟨gb281,1,none⟩=some (.int .i64 a0_1):=(z01 BK281.out 1).trans rfl;have hcz4_2:w3.cell? ⟨gb281,2,none⟩=some (.int .i64 a0_2):=(z01 BK281.out 2).trans rfl;have hcz4_3:w3.cell? ⟨gb281,3,none⟩=some (.slice A0_3 l0_3.length c0_3):=(z01 BK281.out 3).trans rfl;have hcz4_4:w3.cell? ⟨gb281,4,none⟩=some (.slice A0_4 l0_4.length c0_4):=(z01 BK281.out 4).trans rfl;have hcz4_5:w3.cell? ⟨gb281,5,none⟩=some (.slice A0_5 l0_5.length c0_5):=(z01 BK281.out 5).trans rfl;have hfz4_0:=z02 BK281.out 0;have hfz4_1:=z02 BK281.out 1;have hfz4_2:=z02 BK281.out 2;have hfz4_3:=z02 BK281.out 3;have hfz4_4:=z02 BK281.out 4;have hfz4_5:=z02 BK281.out 5)|((with_reducible refine z0w (f:=16) rfl ?_);refine z19 (some 4) rfl rfl Tryz.func16 (by kernel_rfl) rfl #[.agg #[.int .i64 a0_0,.int .i64 a0_1,.int .i64 a0_2,.slice A0_3 l0_3.length c0_3,.slice A0_4 l0_4.length c0_4,.slice A0_5 l0_5.length c0_5]] rfl (by (try simp only [List.map_toArray,List.map_cons,List.map_nil]);first|done|rfl) ?_;(with_reducible refine (z0b.calls k a0_0 a0_1 a0_2 _ _ l0_3 _ _ l0_4 _ _ l0_5 t282 _ ?side1 ?side2 ?side3 ?side4 ?side5 ?side6 A2.out).mono ?_);(case side1=>repeat (first|exact (Kd.C_below HR0_3.out HB.out)|(with_reducible refine Kd.C_alloc ?_ _)|(with_reducible refine Kd.C_drewN ?_ _)|(with_reducible refine Kd.C_drew ?_)));(case side2=>exact HC0_3.out);(case side3=>repeat (first|exact (Kd.C_below HR0_4.out HB.out)|(with_reducible refine Kd.C_alloc ?_ _)|(with_reducible refine Kd.C_drewN ?_ _)|(with_reducible refine Kd.C_drew ?_)));(case side4=>exact HC0_4.out);(case side5=>repeat (first|exact (Kd.C_below HR0_5.out HB.out)|(with_reducible refine Kd.C_alloc ?_ _)|(with_reducible refine Kd.C_drewN ?_ _)|(with_reducible refine Kd.C_drew ?_)));(case side6=>exact HC0_5.out);rintro e w5 ⟨rfl,hb⟩;refine ⟨_,rfl,?_⟩;have n0_:=Aside0.mk (z0h (g:=gb281) (o:=.cells #[.int .i64 a0_0,.int .i64 a0_1,.int .i64 a0_2,.slice A0_3 l0_3.length c0_3,.slice A0_4 l0_4.length c0_4,.slice A0_5 l0_5.length c0_5] 26 (0,0)) (by (with_reducible repeat (first|refine z08 ?_ _|refine z09 ?_|refine z06 ?_ _));exact BK281.out) hb);have n1_:=Aside0.mk (z0t (by repeat (first|(with_reducible first|exact HB.out|apply z04|apply z03|apply z05|refine z07 ?_ GE281.out)|exact HB.out)) hb);clear BK281;clear HB;have BK281:=n0_;have HB:=n1_;clear n0_ n1_;(try clear hb);(try clear hb2);(try clear hk);(try clear hi)))
 go_ret
 exact ⟨by first|rfl|(simp [z0k,z0j] <;> rfl)|(simp [*,z0k,z0j] <;> rfl),by repeat (first|(with_reducible first|exact HB.out|apply z04|apply z03|apply z05|refine z07 ?_ GE281.out)|exact HB.out)⟩
end Go.Proofs.YtcbnhfnnjkkceaaGreat.X
end
section
namespace Go.Proofs.YtcbnhfnnjkkceaaGreat.X
open Go.RowKit Go.Proofs.YtcbnhfnnjkkceaaGreatW.PrintWords Go.Proofs.YtcbnhfnnjkkceaaGreat.Gr
theorem chk_has (k:Nat) (a:Int):∃ s,z0f.f (k+3) a=some s∧s.size≤4:=by
 have h2:∀ (x:Int) (b:Bool),∃ s,z0f.j2 (k+1) x b=some s∧s.size≤4:=fun x b=>by
  rw [z0f.j2]
  repeat' split
  all_goals exact ⟨_,rfl,by decide⟩
 have h1:∀ (x:Int) (b:Bool),∃ s,z0f.j1 (k+2) x b=some s∧s.size≤4:=fun x b=>by
  rw [z0f.j1]
  repeat' split
  all_goals first|exact h2 _ _|exact ⟨_,rfl,by decide⟩
 have h0:∀ (x:Int) (b:Bool),∃ s,z0f.j0 (k+3) x b=some s∧s.size≤4:=fun x b=>by
  rw [z0f.j0]
  repeat' split
  all_goals first|exact h1 _ _|exact ⟨_,rfl,by decide⟩
 unfold z0f.f
 repeat' split
 all_goals exact h0 _ _
theorem chk_in_l0 (s:ByteArray) (x:Int) (hs:s.size≤4):∀ (d k j:Nat),j+d=s.size→d < k→∃ b,z0e.l0 k s x j=some b
 | 0,k,j,h,hk=>by
  obtain ⟨k,rfl⟩:∃ i,k=i+1:=⟨k - 1,by omega⟩;rw [z0e.l0,if_neg (by omega)];exact ⟨_,rfl⟩
 | d+1,k,j,h,hk=>by
  obtain ⟨k,rfl⟩:∃ i,k=i+1:=⟨k - 1,by omega⟩;rw [z0e.l0,if_pos (by omega),if_pos (by omega)]
  split
  ·exact ⟨_,rfl⟩
  ·rw [show wrap64 ((j:Int)+1)=((j+1:Nat):Int) by unfold wrap64;omega];exact chk_in_l0 s x hs d k (j+1) (by omega) (by omega)
theorem chk_in {k:Nat} (hk:5≤k) (s:ByteArray) (x:Int) (hs:s.size≤4):∃ b,z0e.f k s x=some b:=by
 unfold z0e.f;have:=chk_in_l0 s x hs s.size k 0 (by omega) (by omega)
 simpa using this
theorem chk_reg {k:Nat} (hk:5≤k) (s:ByteArray) (x y:Int) (hs:s.size≤4):∃ b,z0g.f k s x y=some b:=by
 unfold z0g.f;obtain ⟨b,hb⟩:=chk_in hk s x hs;rw [hb,Option.bind_some]
 repeat' split
 all_goals exact ⟨_,rfl⟩
theorem chk_wrong {k:Nat} (hk:8≤k) (a b c d e:Int):∃ r,z0d.f k a b c d e=some r:=by
 obtain ⟨k,rfl⟩:∃ i,k=i+8:=⟨k - 8,by omega⟩;have h1:∀ (s:ByteArray) (x:Bool),s.size≤4→∃ r,z0d.j1 (k+7) s x a b c d e=some r:=fun s x hs=>by
  rw [z0d.j1];obtain ⟨t,ht⟩:=chk_in (k:=k+6) (by omega) s 105 hs;rw [ht,Option.bind_some]
  repeat' split
  all_goals exact ⟨_,rfl⟩
 have h0:∀ x:Bool,∃ r,z0d.j0 (k+8) x a b c d e=some r:=fun x=>by
  rw [z0d.j0];obtain ⟨s,hs,hsz⟩:=chk_has (k+4) a;obtain ⟨t1,ht1⟩:=chk_reg (k:=k+7) (by omega) s 97 b hsz;obtain ⟨t2,ht2⟩:=chk_reg (k:=k+7) (by omega) s 98 c hsz;obtain ⟨t3,ht3⟩:=chk_in (k:=k+7) (by omega) s 119 hsz;obtain ⟨t4,ht4⟩:=chk_reg (k:=k+7) (by omega) s 99 d hsz;obtain ⟨t5,ht5⟩:=chk_in (k:=k+7) (by omega) s 105 hsz;rw [hs,Option.bind_some,ht1,Option.bind_some,ht2,Option.bind_some,ht3,Option.bind_some,ht4,Option.bind_some,ht5,Option.bind_some]
  repeat' split
  all_goals first|exact h1 _ _ hsz|exact ⟨_,rfl⟩
 unfold z0d.f
 split <;> exact h0 _
theorem chk_put_l0:∀ (n k:Nat) (x5:List Int) (y a b c d e:Int),n≤8→n < k→x5.length=8→∃ r,z0r.l0 k x5 y ((n:Int) - 1) a b c d e=some r
 | 0,k,x5,y,a,b,c,d,e,hn,hk,hx=>by
  obtain ⟨k,rfl⟩:∃ i,k=i+1:=⟨k - 1,by omega⟩;rw [z0r.l0,if_neg (by omega),Option.bind_some,if_pos (by simp only [List.length_cons,List.length_nil];omega)];exact ⟨_,rfl⟩
 | n+1,k,x5,y,a,b,c,d,e,hn,hk,hx=>by
  obtain ⟨k,rfl⟩:∃ i,k=i+1:=⟨k - 1,by omega⟩;rw [z0r.l0,if_pos (by omega),if_pos (by omega),if_pos (by omega),show wrap64 (((n+1:Nat):Int) - 1 - 1)=(n:Int) - 1 by unfold wrap64;omega];exact chk_put_l0 n k _ _ a b c d e (by omega) (by omega) (by rw [List.length_set];exact hx)
theorem chk_put {k:Nat} (hk:12≤k) (a b c d e:Int):∃ r,z0r.f k a b c d e=some r:=by
 unfold z0r.f;obtain ⟨t,ht⟩:=chk_wrong (k:=k) (by omega) a b c d e;rw [ht,Option.bind_some]
 split
 ·exact ⟨_,rfl⟩
 ·split
  ·exact ⟨_,rfl⟩
  ·rw [if_pos (by omega)];exact chk_put_l0 8 k _ _ a b c d e (by omega) (by omega) (by simp)
theorem chk_in3 (a lo hi:Int):z0l.f a lo hi=some (decide (lo≤a∧a≤hi)):=by
 unfold z0l.f
 by_cases h:a ≥ lo
 ·rw [if_pos h];simp [h]
 ·rw [if_neg h];simp [h]
theorem ref_fun_l0 (p:Im) (x:Int) (hl:p.f4.length≤40):∀ (d k j:Nat),j+d=p.f4.length→d < k→z0i.l0 k x (funUp p.f4 x j) j p.f0 p.f1 p.f2 p.f3 p.f4 p.f5=some (funUp p.f4 x p.f4.length)
 | 0,k,j,h,hk=>by
  obtain ⟨k,rfl⟩:∃ i,k=i+1:=⟨k - 1,by omega⟩;rw [z0i.l0,if_neg (by omega),show j=p.f4.length by omega]
 | d+1,k,j,h,hk=>by
  obtain ⟨k,rfl⟩:∃ i,k=i+1:=⟨k - 1,by omega⟩;have ih:=ref_fun_l0 p x hl d k (j+1) (by omega) (by omega);rw [z0i.l0,if_pos (by omega),if_pos (by omega),show wrap64 ((j:Int)+1)=((j+1:Nat):Int) by unfold wrap64;omega];have e:funUp p.f4 x (j+1)=if rd p.f4 j≤x then (j:Int) else funUp p.f4 x j:=rfl
  by_cases h1:rd p.f4 j≤x
  ·rw [if_pos h1] at e ⊢;rw [← e];exact ih
  ·rw [if_neg h1] at e ⊢;rw [← e];exact ih
theorem ref_fun (p:Im) (hl:p.f4.length≤40) {k:Nat} (hk:50≤k) (x:Int):z0i.f k p.f0 p.f1 p.f2 p.f3 p.f4 p.f5 x=some (funP p.f4 p.f5.length x):=by
 obtain ⟨k,rfl⟩:∃ i,k=i+1:=⟨k - 1,by omega⟩;unfold z0i.f funP
 by_cases h0:x < 0
 ·rw [if_pos h0,if_pos (.inl h0),z0i.j0,if_pos rfl]
 ·rw [if_neg h0]
  by_cases h1:(p.f5.length:Int)≤x
  ·rw [if_pos (.inr h1),z0i.j0,if_pos (decide_eq_true h1)]
  ·rw [if_neg (by omega),z0i.j0,if_neg (by simpa using h1)];have:=ref_fun_l0 p x hl p.f4.length k 0 (by omega) (by omega)
   simpa [funUp] using this
theorem ref_goes (a:Int):z1k.f a=some (goesB a):=by
 unfold z1k.f goesB
 by_cases h0:a ≥ 0
 ·rw [if_pos h0]
  by_cases h1:a≤25
  ·rw [if_pos h1]
   by_cases h2:a=0
   ·simp [h2]
   by_cases h3:a=21
   ·simp [h3]
   by_cases h4:a=24
   ·simp [h4]
   rw [if_neg h2,if_neg h3,if_neg h4]
   by_cases h5:a=25
   ·simp [h5]
   ·have h0':0≤a:=h0;simp [h2,h3,h4,h5,h1,h0']
  ·rw [if_neg h1];simp [h1]
 ·rw [if_neg h0];have h0':¬ 0≤a:=h0;simp [h0']
theorem funUp_ge (funs:List Int) (x:Int) {j:Nat} (hj:rd funs j≤x):∀ m:Nat,j < m→(j:Int)≤funUp funs x m
 | 0,h=>by omega
 | m+1,h=>by
  unfold funUp
  split
  ·omega
  ·rename_i h1
   by_cases e:j=m
   ·subst e;exact absurd hj h1
   ·exact funUp_ge funs x hj m (by omega)
theorem funUp_le (funs:List Int) (x:Int):∀ m:Nat,0≤funUp funs x m→rd funs (funUp funs x m)≤x
 | 0,h=>by simp [funUp] at h
 | m+1,h=>by
  unfold funUp at h ⊢
  split
  ·rename_i h1
   exact h1
  ·rename_i h1
   rw [if_neg h1] at h;exact funUp_le funs x m h
theorem hi_next {funs:List Int} {n:Nat} {x:Int} (h0:0≤x) (h1:x < n) (hf:0≤funP funs n x) (h:hiP funs n (funP funs n x)≤x+1):x+1=n∨funP funs n (x+1)≠funP funs n x:=by
 by_cases e:x+1=n
 ·exact .inl e
 ·refine .inr fun he=>?_
  unfold hiP at h
  split at h
  ·rename_i h2
   have h3:=funUp_ge funs (x+1) (j:=(funP funs n x+1).toNat) (by rw [show (((funP funs n x+1).toNat:Nat):Int)=funP funs n x+1 by omega];exact h) funs.length (by omega);have h4:funP funs n (x+1)=funUp funs (x+1) funs.length:=by
    unfold funP;rw [if_neg (by omega)]
   rw [he] at h4;omega
  ·omega
theorem lo_hi {funs:List Int} {n:Nat} {x:Int} (h0:0≤x) (h1:x < n) (hf:0≤funP funs n x):loP funs (funP funs n x)≤x∧x < hiP funs n (funP funs n x):=by
 have e:funP funs n x=funUp funs x funs.length:=by
  unfold funP;rw [if_neg (by omega)]
 constructor
 ·unfold loP;rw [e] at hf ⊢;exact funUp_le funs x _ hf
 ·unfold hiP
  split
  ·rename_i h2
   rcases Int.lt_or_le x (rd funs (funP funs n x+1)) with h3|h3
   ·exact h3
   ·have h4:=funUp_ge funs x (j:=(funP funs n x+1).toNat) (by rw [show (((funP funs n x+1).toNat:Nat):Int)=funP funs n x+1 by omega];exact h3) funs.length (by omega);omega
  ·exact h1
theorem u64w {n:Nat} (h:n≤1000000):IntKind.u64.wrap (n:Int)=n:=by
 unfold IntKind.wrap;simp [IntKind.bits,IntKind.signed];omega
theorem ref_stray_l0 (p:Im) (hw:wfP p) (hf:Fits p.f4 p.f5.length):∀ (d k x:Nat),x+d=p.f5.length→4 * d+60≤k →
  ∃ r,z0c.l0 k x p.f0 p.f1 p.f2 p.f3 p.f4 p.f5=some r∧(r < 0→∀ y:Int,(x:Int)≤y→y < p.f5.length→z1t p.f4 p.f5 y=false)
 | 0,k,x,h,hk=>by
  obtain ⟨k,rfl⟩:∃ i,k=i+1:=⟨k - 1,by omega⟩;rw [z0c.l0,if_neg (by omega)];exact ⟨_,rfl,fun _ y h0 h1=>by omega⟩
 | d+1,k,x,h,hk=>by
  obtain ⟨k,rfl⟩:∃ i,k=i+4:=⟨k - 4,by omega⟩;have hl:=hf.2.1;have hn:=hf.2.2.1;have ih:=fun k' (h':4 * d+60≤k')=>ref_stray_l0 p hw hf d k' (x+1) (by omega) h'
  have hww:wrap64 ((x:Int)+1)=((x+1:Nat):Int):=by unfold wrap64;omega
  have hx0:(0:Int)≤x:=by omega
  have hx1:(x:Int) < p.f5.length:=by omega
  have hfp:=funP_in hf hx0 hx1;have hi4:=hw.2 _ (rdI_mem (l:=p.f5) hx0 hx1);obtain ⟨i,hi⟩:∃ i,z0a p.f5 x=i:=⟨_,rfl⟩;rw [hi] at hi4;have hbad:∃ r:Int,some (x:Int)=some r∧(r < 0→∀ y:Int,(x:Int)≤y→y < p.f5.length→z1t p.f4 p.f5 y=false):=⟨x,rfl,fun h=>by omega⟩;have hnext:z1t p.f4 p.f5 x=false→∀ k',4 * d+60≤k'→∃ r,z0c.l0 k' ((x+1:Nat):Int) p.f0 p.f1 p.f2 p.f3 p.f4 p.f5=some r∧(r < 0→∀ y:Int,(x:Int)≤y→y < p.f5.length→z1t p.f4 p.f5 y=false):=fun hs k' hk'=>by
   obtain ⟨r,hr,hp⟩:=ih k' hk';refine ⟨r,hr,fun h0 y h1 h2=>?_⟩
   by_cases e:y=x
   ·rw [e];exact hs
   ·exact hp h0 y (by omega) h2
  have hfin:(goesB i.f0=true→¬ hiP p.f4 p.f5.length (funP p.f4 p.f5.length x)≤(x:Int)+1)→(i.f0=21∨i.f0=22→loP p.f4 (funP p.f4 p.f5.length x)≤i.f4∧i.f4 < hiP p.f4 p.f5.length (funP p.f4 p.f5.length x))→(i.f0=23→i.f4 < p.f4.length)→z1t p.f4 p.f5 x=false:=fun h1 h2 h3=>by
   unfold z1t z2o;simp only [hi];rw [Bool.or_eq_false_iff];constructor
   ·by_cases hg:goesB i.f0=true
    ·rw [hg,Bool.true_and];exact decide_eq_false (by have:=h1 hg;simpa using this)
    ·simp [hg]
   ·by_cases h4:i.f0=21∨i.f0=22
    ·rw [if_pos h4];have:=h2 h4;rw [decide_eq_false (by omega),decide_eq_false (by omega)];rfl
    ·rw [if_neg h4]
     by_cases h5:i.f0=23
     ·rw [if_pos h5];exact decide_eq_false (by have:=h3 h5;omega)
     ·rw [if_neg h5]
  have h3:∀ b:Bool,(goesB i.f0=true→¬ hiP p.f4 p.f5.length (funP p.f4 p.f5.length x)≤(x:Int)+1)→(i.f0=21∨i.f0=22)→(b=false→loP p.f4 (funP p.f4 p.f5.length x)≤i.f4∧i.f4 < hiP p.f4 p.f5.length (funP p.f4 p.f5.length x)) →
    ∃ r,z0c.j3 (k+1) x b p.f0 p.f1 p.f2 p.f3 p.f4 p.f5 i.f0 i.f1 i.f2 i.f3 i.f4=some r∧(r < 0→∀ y:Int,(x:Int)≤y→y < p.f5.length→z1t p.f4 p.f5 y=false):=fun b hg ho hb=>by
   rw [z0c.j3,hww];cases b with
   | true=>exact hbad
   | false =>
    rw [if_neg (by simp),if_neg (by omega)];exact hnext (hfin hg (fun _=>hb rfl) (fun h=>by omega)) k (by omega)
  have h2:∀ b:Bool,(goesB i.f0=true→¬ hiP p.f4 p.f5.length (funP p.f4 p.f5.length x)≤(x:Int)+1)→(b=true↔i.f0=21∨i.f0=22) →
    ∃ r,z0c.j2 (k+2) x (funP p.f4 p.f5.length x) b p.f0 p.f1 p.f2 p.f3 p.f4 p.f5 i.f0 i.f1 i.f2 i.f3 i.f4=some r∧(r < 0→∀ y:Int,(x:Int)≤y→y < p.f5.length→z1t p.f4 p.f5 y=false):=fun b hg hb=>by
   rw [z0c.j2,hww,u64w (by omega),u64w (by omega),ref_fun p (by omega) (by omega),Option.bind_some];cases b with
   | true =>
    rw [if_pos rfl]
    by_cases h5:i.f4 ≥ p.f5.length
    ·rw [if_pos h5];exact h3 true hg (hb.1 rfl) (fun h=>by simp at h)
    ·rw [if_neg h5,show wrap64 i.f4=i.f4 by unfold wrap64;omega];refine h3 _ hg (hb.1 rfl) (fun h=>?_);have h6:funP p.f4 p.f5.length i.f4=funP p.f4 p.f5.length x:=(by simpa using h);have:=lo_hi (funs:=p.f4) (n:=p.f5.length) hi4 (by omega) (by rw [h6];exact hfp.1);rw [h6] at this;exact this
   | false =>
    have hno:¬ (i.f0=21∨i.f0=22):=fun h=>by simpa using hb.2 h
    rw [if_neg (by simp)]
    by_cases h5:i.f0=23
    ·rw [if_pos h5]
     by_cases h6:i.f4 ≥ p.f4.length
     ·rw [if_pos h6];exact hbad
     ·rw [if_neg h6];exact hnext (hfin hg (fun h=>absurd h hno) (fun _=>by omega)) (k+1) (by omega)
    ·rw [if_neg h5];exact hnext (hfin hg (fun h=>absurd h hno) (fun h=>absurd h h5)) (k+1) (by omega)
  have h1:∀ b:Bool,(b=false→goesB i.f0=true→¬ hiP p.f4 p.f5.length (funP p.f4 p.f5.length x)≤(x:Int)+1) →
    ∃ r,z0c.j1 (k+3) x (funP p.f4 p.f5.length x) b p.f0 p.f1 p.f2 p.f3 p.f4 p.f5 i.f0 i.f1 i.f2 i.f3 i.f4=some r∧(r < 0→∀ y:Int,(x:Int)≤y→y < p.f5.length→z1t p.f4 p.f5 y=false):=fun b hb=>by
   rw [z0c.j1];cases b with
   | true=>exact hbad
   | false =>
    rw [if_neg (by simp)]
    by_cases h5:i.f0=21
    ·rw [if_pos h5];exact h2 true (hb rfl) ⟨fun _=>.inl h5,fun _=>rfl⟩
    ·rw [if_neg h5];exact h2 _ (hb rfl) ⟨fun h=>.inr (by simpa using h),fun h=>by rcases h with h|h;exact absurd h h5;simpa using h⟩
  rw [z0c.l0,if_pos hx1,if_pos hx0,ref_fun p (by omega) (by omega),Option.bind_some,hi,ref_goes,Option.bind_some,hww];cases hg:goesB i.f0 with
  | true =>
   rw [if_pos rfl]
   by_cases e:((x+1:Nat):Int)=p.f5.length
   ·rw [if_pos e];exact h1 true (fun h=>by simp at h)
   ·rw [if_neg e,ref_fun p (by omega) (by omega),Option.bind_some];refine h1 _ (fun h _ hh=>?_);have h6:funP p.f4 p.f5.length ((x+1:Nat):Int)=funP p.f4 p.f5.length x:=(by simpa using h)
    rcases hi_next hx0 hx1 hfp.1 hh with h7|h7
    ·omega
    ·exact h7 (by rw [← h6];congr 1)
  | false =>
   rw [if_neg (by simp)];exact h1 false (fun _ h=>by rw [hg] at h;simp at h)
def OkI (ha hb hc hw hi:Bool) (a b c d:Int):Prop :=
 (if ha=true then 0≤a∧a≤7 else a=0)∧(if hb=true then 0≤b∧b≤7 else b=0)∧(if hw=true then c=1∨c=2∨c=4∨c=8 else if hc=true then 0≤c∧c≤7 else c=0)∧(hi=true∨d=0)
def z2d:List S166:=(z2n.f).getD []
theorem formsL_eq:z2n.f=some z2d:=rfl
structure TabI (op:Int) (s:ByteArray) (ha hb hc hw hi:Bool):Prop where
 has:z0f.f 11 op=some s
 a:z0e.f 11 s 97=some ha
 b:z0e.f 11 s 98=some hb
 c:z0e.f 11 s 99=some hc
 w:z0e.f 11 s 119=some hw
 i:z0e.f 11 s 105=some hi
 w10:hw=true→z0e.f 10 s 105=some hi
 ma:Go.bits .and .i64 (z17 z2d op).f1 1=0↔ha=false
 mb:Go.bits .and .i64 (z17 z2d op).f1 2=0↔hb=false
 mc:Go.bits .and .i64 (z17 z2d op).f1 12=0↔hc=false∧hw=false
 mw:Go.bits .and .i64 (z17 z2d op).f1 8=0↔hw=false
 mi:Go.bits .and .i64 (z17 z2d op).f1 16=0↔hi=false
theorem tabI (op:Int) (h0:0≤op) (h1:op≤25):∃ s ha hb hc hw hi,TabI op s ha hb hc hw hi:=by
 have:op=0∨op=1∨op=2∨op=3∨op=4∨op=5∨op=6∨op=7∨op=8∨op=9∨op=10∨op=11∨op=12∨op=13∨op=14∨op=15∨op=16∨op=17∨op=18∨op=19∨op=20∨op=21∨op=22∨op=23∨op=24∨op=25:=by omega
 rcases this with rfl|rfl|rfl|rfl|rfl|rfl|rfl|rfl|rfl|rfl|rfl|rfl|rfl|rfl|rfl|rfl|rfl|rfl|rfl|rfl|rfl|rfl|rfl|rfl|rfl|rfl
 ·exact ⟨⟨#[]⟩,false,false,false,false,false,rfl,by decide +kernel,by decide +kernel,by decide +kernel,by decide +kernel,by decide +kernel,by decide +kernel,by decide +kernel,by decide +kernel,by decide +kernel,by decide +kernel,by decide +kernel⟩
 ·exact ⟨⟨#[97,105]⟩,true,false,false,false,true,rfl,by decide +kernel,by decide +kernel,by decide +kernel,by decide +kernel,by decide +kernel,by decide +kernel,by decide +kernel,by decide +kernel,by decide +kernel,by decide +kernel,by decide +kernel⟩
 ·exact ⟨⟨#[97,98]⟩,true,true,false,false,false,rfl,by decide +kernel,by decide +kernel,by decide +kernel,by decide +kernel,by decide +kernel,by decide +kernel,by decide +kernel,by decide +kernel,by decide +kernel,by decide +kernel,by decide +kernel⟩
 iterate 14 exact ⟨⟨#[97,98,99]⟩,true,true,true,false,false,rfl,by decide +kernel,by decide +kernel,by decide +kernel,by decide +kernel,by decide +kernel,by decide +kernel,by decide +kernel,by decide +kernel,by decide +kernel,by decide +kernel,by decide +kernel⟩
 ·exact ⟨⟨#[97,98,119,105]⟩,true,true,false,true,true,rfl,by decide +kernel,by decide +kernel,by decide +kernel,by decide +kernel,by decide +kernel,by decide +kernel,by decide +kernel,by decide +kernel,by decide +kernel,by decide +kernel,by decide +kernel⟩
 ·exact ⟨⟨#[97,98,119,105]⟩,true,true,false,true,true,rfl,by decide +kernel,by decide +kernel,by decide +kernel,by decide +kernel,by decide +kernel,by decide +kernel,by decide +kernel,by decide +kernel,by decide +kernel,by decide +kernel,by decide +kernel⟩
 ·exact ⟨⟨#[97,98,105]⟩,true,true,false,false,true,rfl,by decide +kernel,by decide +kernel,by decide +kernel,by decide +kernel,by decide +kernel,by decide +kernel,by decide +kernel,by decide +kernel,by decide +kernel,by decide +kernel,by decide +kernel⟩
 ·exact ⟨⟨#[97]⟩,true,false,false,false,false,rfl,by decide +kernel,by decide +kernel,by decide +kernel,by decide +kernel,by decide +kernel,by decide +kernel,by decide +kernel,by decide +kernel,by decide +kernel,by decide +kernel,by decide +kernel⟩
 ·exact ⟨⟨#[105]⟩,false,false,false,false,true,rfl,by decide +kernel,by decide +kernel,by decide +kernel,by decide +kernel,by decide +kernel,by decide +kernel,by decide +kernel,by decide +kernel,by decide +kernel,by decide +kernel,by decide +kernel⟩
 ·exact ⟨⟨#[97,105]⟩,true,false,false,false,true,rfl,by decide +kernel,by decide +kernel,by decide +kernel,by decide +kernel,by decide +kernel,by decide +kernel,by decide +kernel,by decide +kernel,by decide +kernel,by decide +kernel,by decide +kernel⟩
 ·exact ⟨⟨#[105]⟩,false,false,false,false,true,rfl,by decide +kernel,by decide +kernel,by decide +kernel,by decide +kernel,by decide +kernel,by decide +kernel,by decide +kernel,by decide +kernel,by decide +kernel,by decide +kernel,by decide +kernel⟩
 ·exact ⟨⟨#[]⟩,false,false,false,false,false,rfl,by decide +kernel,by decide +kernel,by decide +kernel,by decide +kernel,by decide +kernel,by decide +kernel,by decide +kernel,by decide +kernel,by decide +kernel,by decide +kernel,by decide +kernel⟩
 ·exact ⟨⟨#[]⟩,false,false,false,false,false,rfl,by decide +kernel,by decide +kernel,by decide +kernel,by decide +kernel,by decide +kernel,by decide +kernel,by decide +kernel,by decide +kernel,by decide +kernel,by decide +kernel,by decide +kernel⟩
theorem ref_reg {s:ByteArray} {x y:Int} {h:Bool} (hi:z0e.f 11 s x=some h):z0g.f 11 s x y=some (if h=true then decide (0≤y∧y≤7) else y == 0):=by
 unfold z0g.f;rw [hi,Option.bind_some];cases h with
 | true =>
  rw [if_pos rfl,if_pos rfl]
  by_cases h0:y ≥ 0
  ·rw [if_pos h0];simp [h0]
  ·rw [if_neg h0];simp [h0]
 | false =>
  rw [if_neg (by simp),if_neg (by simp)]
theorem ref_ok {op a b c d:Int} {s:ByteArray} {ha hb hc hw hi:Bool} (T:TabI op s ha hb hc hw hi) (h0:0≤op) (h1:op≤25) {t:Int} (h:z0d.f 12 op a b c d=some t) (ht:t < 0):OkI ha hb hc hw hi a b c d:=by
 unfold z0d.f at h;rw [if_neg (by omega),decide_eq_false (by omega),z0d.j0,if_neg (by simp),T.has,Option.bind_some,ref_reg T.a,Option.bind_some] at h;have fin:∀ {q:Int},some q=some t→0≤q→False:=fun e hq=>by
  injection e with e
  omega
 have e1:(if ha=true then decide (0≤a∧a≤7) else a == 0)=true:=by
  rcases Bool.eq_false_or_eq_true (if ha=true then decide (0≤a∧a≤7) else a == 0) with e|e
  ·exact e
  ·rw [e,if_neg (by simp)] at h;exact (fin h (by omega)).elim
 rw [e1,if_pos rfl,ref_reg T.b,Option.bind_some] at h;have e2:(if hb=true then decide (0≤b∧b≤7) else b == 0)=true:=by
  rcases Bool.eq_false_or_eq_true (if hb=true then decide (0≤b∧b≤7) else b == 0) with e|e
  ·exact e
  ·rw [e,if_neg (by simp)] at h;exact (fin h (by omega)).elim
 rw [e2,if_pos rfl,T.w,Option.bind_some] at h;have hA:if ha=true then 0≤a∧a≤7 else a=0:=by
  cases ha with
  | true=>simpa using e1
  | false=>simpa using e1
 have hB:if hb=true then 0≤b∧b≤7 else b=0:=by
  cases hb with
  | true=>simpa using e2
  | false=>simpa using e2
 cases hw with
 | true =>
  rw [if_pos rfl] at h;have hj:∀ x:Bool,z0d.j1 11 s x op a b c d=some t→x=false∧(hi=true∨d=0):=fun x hx=>by
   rw [z0d.j1] at hx;cases x with
   | true =>
    rw [if_pos rfl] at hx;exact (fin hx (by omega)).elim
   | false =>
    refine ⟨rfl,?_⟩;rw [if_neg (by simp),T.w10 rfl,Option.bind_some] at hx;cases hi with
    | true=>exact .inl rfl
    | false =>
     rw [if_neg (by simp)] at hx
     by_cases hd:d=0
     ·exact .inr hd
     ·rw [if_neg hd] at hx;exact (fin hx (by omega)).elim
  refine ⟨hA,hB,?_,?_⟩
  ·rw [if_pos rfl]
   by_cases c1:c=1
   ·exact .inl c1
   by_cases c2:c=2
   ·exact .inr (.inl c2)
   by_cases c4:c=4
   ·exact .inr (.inr (.inl c4))
   rw [if_neg c1,if_neg c2,if_neg c4] at h;exact .inr (.inr (.inr (by simpa using (hj _ h).1)))
  ·split at h
   ·exact (hj _ h).2
   split at h
   ·exact (hj _ h).2
   split at h
   ·exact (hj _ h).2
   ·exact (hj _ h).2
 | false =>
  rw [if_neg (by simp),ref_reg T.c,Option.bind_some] at h;have e3:(if hc=true then decide (0≤c∧c≤7) else c == 0)=true:=by
   rcases Bool.eq_false_or_eq_true (if hc=true then decide (0≤c∧c≤7) else c == 0) with e|e
   ·exact e
   ·rw [e,if_neg (by simp)] at h;exact (fin h (by omega)).elim
  rw [e3,if_pos rfl,T.i,Option.bind_some] at h;refine ⟨hA,hB,?_,?_⟩
  ·rw [if_neg (by simp)];cases hc with
   | true=>simpa using e3
   | false=>simpa using e3
  ·cases hi with
   | true=>exact .inl rfl
   | false =>
    rw [if_neg (by simp)] at h
    by_cases hd:d=0
    ·exact .inr hd
    ·rw [if_neg hd] at h;exact (fin h (by omega)).elim
theorem code_reg {y:Int} (h:0≤y∧y≤7):z1j.f y=some true:=by
 unfold z1j.f;rw [if_pos h.1,decide_eq_true (by omega)]
theorem code_ok {op a b c d:Int} {s:ByteArray} {ha hb hc hw hi:Bool} (T:TabI op s ha hb hc hw hi) (h0:0≤op) (h1:op≤25) (h:OkI ha hb hc hw hi a b c d):z0m.f 20 op a b c d=some 0:=by
 obtain ⟨hA,hB,hC,hD⟩:=h;have rA:0≤a∧a≤7:=by
  cases ha with
  | true=>simpa using hA
  | false=>(have:a=0:=by simpa using hA);omega
 have rB:0≤b∧b≤7:=by
  cases hb with
  | true=>simpa using hB
  | false=>(have:b=0:=by simpa using hB);omega
 have hk:z11.f 20 op a b c d (z17 z2d op).f1=some (op,a,b,c,d):=by
  have k1:∀ x y z:Int,z11.j1 19 (z17 z2d op).f1 op a b c d op x y 0 0=some (op,x,y,c,d):=fun x y z=>by
   rw [z11.j1]
   by_cases m12:Go.bits .and .i64 (z17 z2d op).f1 12=0
   ·rw [if_pos m12];obtain ⟨c0,w0⟩:=T.mc.1 m12;have hc0:c=0:=by
     rw [c0,w0] at hC
     simpa using hC
    by_cases m16:Go.bits .and .i64 (z17 z2d op).f1 16=0
    ·rw [if_pos m16];have:=T.mi.1 m16;have hd0:d=0:=by rcases hD with e|e;rw [e] at this;simp at this;exact e
     rw [hc0,hd0]
    ·rw [if_neg m16,hc0]
   ·rw [if_neg m12]
    by_cases m16:Go.bits .and .i64 (z17 z2d op).f1 16=0
    ·rw [if_pos m16];have:=T.mi.1 m16;have hd0:d=0:=by rcases hD with e|e;rw [e] at this;simp at this;exact e
     rw [hd0]
    ·rw [if_neg m16]
  have k0:∀ x:Int,z11.j0 20 (z17 z2d op).f1 op a b c d op x 0 0 0=some (op,x,b,c,d):=fun x=>by
   rw [z11.j0]
   by_cases m2:Go.bits .and .i64 (z17 z2d op).f1 2=0
   ·rw [if_pos m2,k1 x 0 0];have:=T.mb.1 m2;rw [this] at hB;have:b=0:=(by simpa using hB);rw [this]
   ·rw [if_neg m2,k1 x b 0]
  unfold z11.f
  by_cases m1:Go.bits .and .i64 (z17 z2d op).f1 1=0
  ·rw [if_pos m1,k0 0];have:=T.ma.1 m1;rw [this] at hA;have:a=0:=by simpa using hA
   rw [this]
  ·rw [if_neg m1,k0 a]
 have j3:z0m.j3 17 false op a b c d op a b c d=some 0:=by
  rw [z0m.j3,if_neg (by simp),if_neg (by simp)]
 have j2:∀ x5:Bool,(hw=true→x5=true)→z0m.j2 18 (z17 z2d op).f1 x5 false op a b c d op a b c d=some 0:=fun x5 hx=>by
  rw [z0m.j2,if_neg (by simp),if_pos rfl]
  by_cases m8:Go.bits .and .i64 (z17 z2d op).f1 8=0
  ·rw [if_pos m8];have w0:=T.mw.1 m8;rw [w0,if_neg (by simp)] at hC;have rC:0≤c∧c≤7:=by
    cases hc with
    | true=>simpa using hC
    | false=>(have:c=0:=by simpa using hC);omega
   rw [code_reg rC,Option.bind_some];exact j3
  ·rw [if_neg m8];have w1:hw=true:=by
    cases hw with
    | true=>rfl
    | false=>exact absurd (T.mw.2 rfl) m8
   rw [if_pos (hx w1)];exact j3
 have j1:∀ x5:Bool,(hw=true→x5=true)→z0m.j1 19 (z17 z2d op).f1 x5 false op a b c d op a b c d=some 0:=fun x5 hx=>by
  rw [z0m.j1,if_neg (by simp),if_pos rfl,code_reg rB,Option.bind_some];exact j2 x5 hx
 have j0:∀ x5:Bool,(hw=true→x5=true)→z0m.j0 20 (z17 z2d op).f1 x5 op a b c d op a b c d=some 0:=fun x5 hx=>by
  rw [z0m.j0,if_pos rfl,code_reg rA,Option.bind_some];exact j1 x5 hx
 have hlen:(z2d.length:Int)=26:=rfl;unfold z0m.f;rw [formsL_eq,Option.bind_some,if_pos h0,if_pos (by rw [hlen];omega),hk,Option.bind_some]
 by_cases c1:c=1
 ·rw [if_pos c1];exact j0 true (fun _=>rfl)
 by_cases c2:c=2
 ·rw [if_neg c1,if_pos c2];exact j0 true (fun _=>rfl)
 by_cases c4:c=4
 ·rw [if_neg c1,if_neg c2,if_pos c4];exact j0 true (fun _=>rfl)
 rw [if_neg c1,if_neg c2,if_neg c4];refine j0 _ (fun hw1=>?_);rw [hw1,if_pos rfl] at hC;have:c=8:=by omega
 simp [this]
theorem ref_put {i:In} {k:Nat} (hk:12≤k) {r:List Int × Int} (h:z0r.f k i.f0 i.f1 i.f2 i.f3 i.f4=some r) (h0:r.2=0):(putV i).2=0:=by
 obtain ⟨t,ht⟩:=chk_wrong (k:=12) (by omega) i.f0 i.f1 i.f2 i.f3 i.f4;have htk:=at_rounds (fun k=>z0d.mono i.f0 i.f1 i.f2 i.f3 i.f4 k) hk ht;unfold z0r.f at h;rw [htk,Option.bind_some] at h;have hneg:t < 0:=by
  split at h
  ·injection h with h
   rw [← h] at h0;simp at h0
  ·split at h
   ·injection h with h
    rw [← h] at h0;simp at h0
   ·omega
 have hop:0≤i.f0∧i.f0≤25:=by
  unfold z0d.f at ht
  by_cases c0:i.f0 < 0
  ·rw [if_pos c0,z0d.j0,if_pos rfl] at ht;injection ht with ht
   omega
  ·by_cases c1:i.f0 > 25
   ·rw [if_neg c0,decide_eq_true c1,z0d.j0,if_pos rfl] at ht;injection ht with ht
    omega
   ·omega
 obtain ⟨s,ha,hb,hc,hw,hi,T⟩:=tabI i.f0 hop.1 hop.2;have hcw:=code_ok T hop.1 hop.2 (ref_ok T hop.1 hop.2 ht hneg);obtain ⟨r',hr',_⟩:=put_l0 8 20 [i.f0 % 256,i.f1 % 256,i.f2 % 256,i.f3 % 256] i.f0 i.f1 i.f2 i.f3 i.f4 (by omega) (by omega) (by simp);have hp:z18.f 20 i.f0 i.f1 i.f2 i.f3 i.f4=some (r',0):=by
  unfold z18.f z1z.f;rw [if_pos hop.1,Option.bind_some,if_pos (decide_eq_true hop.2),hcw,Option.bind_some,if_pos rfl];exact hr'
 rw [put_f i (by omega)] at hp;injection hp with hp
 rw [hp]
theorem ref_l1 (p:Im) (hw:wfP p) (hf:Fits p.f4 p.f5.length):∀ (d k x:Nat),x+d=p.f5.length→d+1300≤k →
  ∃ r,z0b.l1 k x p.f0 p.f1 p.f2 p.f3 p.f4 p.f5=some r∧(r=0→(∀ j:Int,(x:Int)≤j→j < p.f5.length→(putV (z0a p.f5 j)).2=0)∧∀ y:Int,0≤y→y < p.f5.length→z1t p.f4 p.f5 y=false)
 | 0,k,x,h,hk=>by
  obtain ⟨k,rfl⟩:∃ i,k=i+1:=⟨k - 1,by omega⟩;have hn:=hf.2.2.1;obtain ⟨t,ht,hs⟩:=ref_stray_l0 p hw hf p.f5.length k 0 (by omega) (by omega);rw [z0b.l1,if_neg (by omega)];unfold z0c.f;have ht:z0c.l0 k 0 p.f0 p.f1 p.f2 p.f3 p.f4 p.f5=some t:=by simpa using ht
  rw [ht,Option.bind_some]
  by_cases h0:t ≥ 0
  ·rw [if_pos h0];exact ⟨7,rfl,fun h=>by omega⟩
  ·rw [if_neg h0];exact ⟨0,rfl,fun _=>⟨fun j h1 h2=>by omega,fun y h1 h2=>hs (by omega) y (by omega) h2⟩⟩
 | d+1,k,x,h,hk=>by
  obtain ⟨k,rfl⟩:∃ i,k=i+1:=⟨k - 1,by omega⟩;have hn:=hf.2.2.1;obtain ⟨t,ht⟩:=chk_put (k:=k) (by omega) (z0a p.f5 x).f0 (z0a p.f5 x).f1 (z0a p.f5 x).f2 (z0a p.f5 x).f3 (z0a p.f5 x).f4;rw [z0b.l1,if_pos (by omega),if_pos (by omega),ht,Option.bind_some,show wrap64 ((x:Int)+1)=((x+1:Nat):Int) by unfold wrap64;omega]
  by_cases h0:t.2=0
  ·rw [if_pos h0];obtain ⟨r,hr,hp⟩:=ref_l1 p hw hf d k (x+1) (by omega) (by omega);refine ⟨r,hr,fun e=>⟨fun j h1 h2=>?_,(hp e).2⟩⟩
   by_cases hj:j=x
   ·rw [hj];exact ref_put (by omega) ht h0
   ·exact (hp e).1 j (by omega) h2
  ·rw [if_neg h0];exact ⟨t.2,rfl,fun e=>absurd e h0⟩
theorem ref_l0 (p:Im) (hw:wfP p) (hs:(0≤p.f0∧p.f0≤64)∧(0≤p.f1∧p.f1≤16)∧(0≤p.f2∧p.f2≤16)∧(p.f3.length:Int)≤p.f0∧(1≤p.f4.length∧p.f4.length≤16)) (hn:p.f5.length≤300):∀ (d k x:Nat),x+d=p.f4.length→d+1700≤k →
  (0 < x→rd p.f4 0=0)→(∀ j:Nat,j+1 < x→rd p.f4 j < rd p.f4 (j+1))→∃ r,z0b.l0 k x p.f0 p.f1 p.f2 p.f3 p.f4 p.f5=some r∧(r=0→encV p=0∧LastIn p)
 | 0,k,x,h,hk,hz,ha=>by
  obtain ⟨k,rfl⟩:∃ i,k=i+2:=⟨k - 2,by omega⟩;have h1:=hs.2.2.2.2.1;rw [z0b.l0,if_neg (by omega),show wrap64 ((p.f4.length:Int) - 1)=(p.f4.length:Int) - 1 by have:=hs.2.2.2.2.2;unfold wrap64;omega,if_pos (show 0≤(p.f4.length:Int) - 1 by omega),if_pos (show (p.f4.length:Int) - 1 < p.f4.length by omega)]
  by_cases h256:(p.f5.length:Int) > 256
  ·rw [if_pos h256,z0b.j2,if_pos rfl];exact ⟨3,rfl,fun h=>by omega⟩
  ·rw [if_neg h256,z0b.j2]
   by_cases hc:rd p.f4 ((p.f4.length:Int) - 1) ≥ p.f5.length
   ·rw [if_pos (decide_eq_true hc)];exact ⟨3,rfl,fun h=>by omega⟩
   ·rw [if_neg (by simpa using hc)];have hlast:LastIn p:=by
     unfold LastIn;omega
    have hmem:rd p.f4 ((p.f4.length:Int) - 1) ∈ p.f4:=by
     unfold rd;rw [List.getD_eq_getElem?_getD,List.getElem?_eq_getElem (by omega)];exact List.getElem_mem _
    have hlo:=(hw.1 _ hmem).1;have hsz:z2h p:=by
     refine ⟨hs.1,hs.2.1,hs.2.2.1,hs.2.2.2.1,hs.2.2.2.2,hz (by omega),fun j hj=>ha j (by omega),?_,by omega⟩;unfold LastIn at hlast;rw [show wrap64 (rd p.f4 ((p.f4.length:Int) - 1)+1)=rd p.f4 ((p.f4.length:Int) - 1)+1 by unfold wrap64;omega];omega
    obtain ⟨r,hr,hp⟩:=ref_l1 p hw (hsz.fits hw.1) p.f5.length k 0 (by omega) (by omega);refine ⟨r,by simpa using hr,fun e=>⟨z2w.2 ⟨hsz,fun i hi=>?_,fun x hx=>(hp e).2 x (z2b.1 hx).1 (z2b.1 hx).2⟩,hlast⟩⟩;obtain ⟨j,hj,rfl⟩:=List.mem_iff_getElem.1 hi;have:=(hp e).1 (j:Int) (by omega) (by omega);have e2:z0a p.f5 (j:Int)=p.f5[j]:=by
     unfold z0a;simp [List.getD_eq_getElem?_getD,List.getElem?_eq_getElem hj]
    rw [e2] at this;exact this
 | d+1,k,x,h,hk,hz,ha=>by
  obtain ⟨k,rfl⟩:∃ i,k=i+1:=⟨k - 1,by omega⟩;have h16:=hs.2.2.2.2.2;rw [z0b.l0,if_pos (by omega),show wrap64 ((x:Int)+1)=((x+1:Nat):Int) by unfold wrap64;omega];have h3:∃ r:Int,some (3:Int)=some r∧(r=0→encV p=0∧LastIn p):=⟨3,rfl,fun h=>by omega⟩
  by_cases hx:(x:Int)=0
  ·rw [if_pos hx,if_pos (by omega),if_neg (show ¬ ((x:Int) > 0) by omega)]
   by_cases h0:rd p.f4 x=0
   ·rw [if_pos h0];refine ref_l0 p hw hs hn d k (x+1) (by omega) (by omega) (fun _=>?_) (fun j hj=>by omega);rw [hx] at h0;exact h0
   ·rw [if_neg h0];exact h3
  ·rw [if_neg hx,if_pos (show (x:Int) > 0 by omega),if_pos (show 0≤(x:Int) by omega),show wrap64 ((x:Int) - 1)=(x:Int) - 1 by unfold wrap64;omega,if_pos (show 0≤(x:Int) - 1 by omega),if_pos (show (x:Int) - 1 < p.f4.length by omega)]
   by_cases h0:rd p.f4 x≤rd p.f4 ((x:Int) - 1)
   ·rw [if_pos h0];exact h3
   ·rw [if_neg h0];refine ref_l0 p hw hs hn d k (x+1) (by omega) (by omega) (fun _=>hz (by omega)) (fun j hj=>?_)
    by_cases e:j+1=x
    ·rw [show (x:Int) - 1=j by omega,show (x:Int)=(j:Int)+1 by omega] at h0;omega
    ·exact ha j (by omega)
theorem ref_f (p:Im) (hw:wfP p) (hl:p.f4.length≤40) (hn:p.f5.length≤300):∃ r,z0b.f 1800 p.f0 p.f1 p.f2 p.f3 p.f4 p.f5=some r∧(r=0→encV p=0∧LastIn p):=by
 have hT:∃ r,z0b.j0 1800 true p.f0 p.f1 p.f2 p.f3 p.f4 p.f5=some r∧(r=0→encV p=0∧LastIn p):=by
  rw [z0b.j0,if_pos rfl];exact ⟨3,rfl,fun h=>by omega⟩
 unfold z0b.f;simp only [chk_in3,Option.bind_some]
 by_cases c0:0≤p.f0∧p.f0≤64
 ·rw [if_pos (decide_eq_true c0)]
  by_cases c1:0≤p.f1∧p.f1≤16
  ·rw [if_pos (decide_eq_true c1)]
   by_cases c2:0≤p.f2∧p.f2≤16
   ·rw [if_pos (decide_eq_true c2)]
    by_cases c3:(p.f3.length:Int) > p.f0
    ·rw [if_pos c3];exact hT
    ·rw [if_neg c3]
     by_cases hc:1≤(p.f4.length:Int)∧(p.f4.length:Int)≤16
     ·rw [decide_eq_true hc];show ∃ r,z0b.j0 1800 false p.f0 p.f1 p.f2 p.f3 p.f4 p.f5=some r∧_;rw [z0b.j0,if_neg (by simp)];have:=ref_l0 p hw ⟨c0,c1,c2,by omega,by omega,by omega⟩ hn p.f4.length 1799 0 (by omega) (by omega) (fun h=>by omega) (fun j hj=>by omega)
      simpa using this
     ·rw [decide_eq_false hc];exact hT
   ·rw [if_neg (by simpa using c2)];exact hT
  ·rw [if_neg (by simpa using c1)];exact hT
 ·rw [if_neg (by simpa using c0)];exact hT
theorem ref_right (p:Im) (hw:wfP p) (hl:p.f4.length≤40) (hn:p.f5.length≤300):∃ b,z1g.f 1800 p.f0 p.f1 p.f2 p.f3 p.f4 p.f5=some b∧(b=true→encV p=0∧LastIn p):=by
 obtain ⟨r,hr,h⟩:=ref_f p hw hl hn;unfold z1g.f;rw [hr,Option.bind_some];exact ⟨_,rfl,fun e=>h (by simpa using e)⟩
end Go.Proofs.YtcbnhfnnjkkceaaGreat.X
end
section
namespace Go.Proofs.YtcbnhfnnjkkceaaGreat.X
open Go.RowKit Go.Proofs.YtcbnhfnnjkkceaaGreatW.PrintWords Go.Proofs.YtcbnhfnnjkkceaaGreatW.PrintLast Go.Proofs.YtcbnhfnnjkkceaaGreatW.PrintMore Go.Proofs.YtcbnhfnnjkkceaaGreat.Gr
def BigR22 (p:Im):Prop:=40 < p.f5.length∨100 < p.f3.length∨40 < p.f4.length∨z1g.f 1800 p.f0 p.f1 p.f2 p.f3 p.f4 p.f5=some false
def MadeR (w:World) (p:Im) (e:Ending) (w':World):Prop :=
 (e=.returned (.tuple #[.pointer none,.bool false])∧Below w.heap.size w w'∧BigR22 p) ∨
 ∃ g B,e=.returned (.tuple #[.pointer (some ⟨g,0,none⟩),.bool true])∧w.heap.size≤g∧Gr w' g B p∧Below w.heap.size w w'∧encV p=0∧LastIn p∧p.f5.length≤40∧p.f3.length≤100∧p.f4.length≤40
theorem made22_calls (p:Im) (A3:Option Addr) (c3:Nat) (A4:Option Addr) (c4:Nat) (A5:Option Addr) (c5:Nat) (w:World)
  (hr3:Kd.C (Kd.int .u8) w A3 p.f3.length p.f3) (hc3:p.f3.length≤c3) (hr4:Kd.C (Kd.int .i64) w A4 p.f4.length p.f4) (hc4:p.f4.length≤c4) (hr5:Kd.C k79 w A5 p.f5.length p.f5) (hc5:p.f5.length≤c5)
  (hw:wfP p) :
  Calls Tryz.prog 38 #[.agg #[.int .i64 p.f0,.int .i64 p.f1,.int .i64 p.f2,.slice A3 p.f3.length c3,.slice A4 p.f4.length c4,.slice A5 p.f5.length c5]] w (MadeR w p):=by
 have hb1:=z04 (Below.refl w.heap.size w) (Obj.cells #[.int .i64 p.f0,.int .i64 p.f1,.int .i64 p.f2,.slice A3 p.f3.length c3,.slice A4 p.f4.length c4,.slice A5 p.f5.length c5] 26);have BX1:=Aside0.mk (z14 w (Obj.cells #[.int .i64 p.f0,.int .i64 p.f1,.int .i64 p.f2,.slice A3 p.f3.length c3,.slice A4 p.f4.length c4,.slice A5 p.f5.length c5] 26));have HS1:Aside0 ((w.alloc (Obj.cells #[.int .i64 p.f0,.int .i64 p.f1,.int .i64 p.f2,.slice A3 p.f3.length c3,.slice A4 p.f4.length c4,.slice A5 p.f5.length c5] 26)).heap.size=w.heap.size+1):=⟨by show (w.heap.push _).size=_;simp⟩;have HC3:=Aside0.mk (Kd.C_below hr3 hb1);have HC4:=Aside0.mk (Kd.C_below hr4 hb1);have HC5:=Aside0.mk (Kd.C_below hr5 hb1);have HB1:=Aside0.mk hb1;clear hr3 hr4 hr5 hb1
 go_enter Tryz.func38,Tryz.ntmps38
 go_upto_region 1 with (fail)
 generalize w.alloc (Obj.cells #[.int .i64 p.f0,.int .i64 p.f1,.int .i64 p.f2,.slice A3 p.f3.length c3,.slice A4 p.f4.length c4,.slice A5 p.f5.length c5] 26)=W1 at BX1 HS1 HC3 HC4 HC5 HB1 ⊢;have k0:=z01 BX1.out 0;have k1:=z01 BX1.out 1;have k2:=z01 BX1.out 2;have k3:=z01 BX1.out 3;have k4:=z01 BX1.out 4;have k5:=z01 BX1.out 5
 by_cases h0:p.f5.length≤40
 rotate_left
 ·have hd0:decide ((p.f5.length:Int) > 40)=true:=decide_eq_true (by omega);have he0:decide (40 < (p.f5.length:Int))=true:=decide_eq_true (by omega);have HQ:Aside0 (BigR22 p):=⟨.inl (by omega)⟩;clear h0;go_wp2;go_ret2
  exact .inl ⟨rfl,HB1.out,HQ.out⟩
 have hd0:decide ((p.f5.length:Int) > 40)=false:=decide_eq_false (by omega);have he0:decide (40 < (p.f5.length:Int))=false:=decide_eq_false (by omega)
 by_cases h1:p.f3.length≤100
 rotate_left
 ·have hd1:decide ((p.f3.length:Int) > 100)=true:=decide_eq_true (by omega);have he1:decide (100 < (p.f3.length:Int))=true:=decide_eq_true (by omega);have HQ:Aside0 (BigR22 p):=⟨.inr (.inl (by omega))⟩;clear h1;go_wp2;go_ret2
  exact .inl ⟨rfl,HB1.out,HQ.out⟩
 have hd1:decide ((p.f3.length:Int) > 100)=false:=decide_eq_false (by omega);have he1:decide (100 < (p.f3.length:Int))=false:=decide_eq_false (by omega)
 by_cases h2:p.f4.length≤40
 rotate_left
 ·have hd2:decide ((p.f4.length:Int) > 40)=true:=decide_eq_true (by omega);have he2:decide (40 < (p.f4.length:Int))=true:=decide_eq_true (by omega);have HQ:Aside0 (BigR22 p):=⟨.inr (.inr (.inl (by omega)))⟩;clear h2;go_wp2;go_ret2
  exact .inl ⟨rfl,HB1.out,HQ.out⟩
 have hd2:decide ((p.f4.length:Int) > 40)=false:=decide_eq_false (by omega);have he2:decide (40 < (p.f4.length:Int))=false:=decide_eq_false (by omega);obtain ⟨r,hr,hrl⟩:=ref_right p hw h2 (by omega);have HR:=Aside0.mk (z1g.calls 1800 p.f0 p.f1 p.f2 A3 c3 p.f3 A4 c4 p.f4 A5 c5 p.f5 r W1 HC3.out hc3 HC4.out hc4 HC5.out hc5 hr);have HRL:=Aside0.mk hrl;have HRR:=Aside0.mk hr;have HH0:=Aside0.mk h0;have HH1:=Aside0.mk h1;have HH2:=Aside0.mk h2;clear hr hrl h0 h1 h2
 go_wp2_with fail
 refine HR.out.mono ?_;rintro e w3 ⟨rfl,hB⟩;have HC3:=Aside0.mk (Kd.C_below HC3.out hB);have HC4:=Aside0.mk (Kd.C_below HC4.out hB);have HC5:=Aside0.mk (Kd.C_below HC5.out hB);have BX3:=Aside0.mk ((hB.block w.heap.size (by rw [HS1.out];omega)).trans BX1.out);have HBn:=Aside0.mk (z0x HB1.out HB1.out.size hB);clear HB1 hB HR k0 k1 k2 k3 k4 k5;have HB1:=HBn;clear HBn;cases r with
 | false =>
  go_wp2;go_ret2
  exact .inl ⟨rfl,HB1.out,.inr (.inr (.inr HRR.out))⟩
 | true =>
  have k0:=z01 BX3.out 0;have k1:=z01 BX3.out 1;have k2:=z01 BX3.out 2;have k3:=z01 BX3.out 3;have k4:=z01 BX3.out 4;have k5:=z01 BX3.out 5;have h0:encV p=0:=(HRL.out rfl).1;have HLA:=Aside0.mk (HRL.out rfl).2;have HNEW:=Aside0.mk (new_yes' p A3 c3 A4 c4 A5 c5 w3 HC3.out hc3 HC4.out hc4 HC5.out hc5 hw h0);have HZ:=Aside0.mk h0;clear h0
  go_wp2_with fail
  refine HNEW.out.mono ?_;rintro e w4 ⟨g,rfl,hG,hB⟩;have HE:Aside0 (MadeR w p (.returned (.tuple #[.pointer (some ⟨g,0,none⟩),.bool true])) w4):=⟨.inr ⟨g,_,rfl,Nat.le_trans HB1.out.size hG.1,hG,z0x HB1.out HB1.out.size hB,HZ.out,HLA.out,HH0.out,HH1.out,HH2.out⟩⟩;clear hG hB HNEW;go_wp2;go_ret2
  exact HE.out
theorem z2u.c {w:World} {base:Nat} {v:Value} {ls:List (List Int)} (h:z2u w base v ls):∃ A c,v=.slice A ls.length c∧ls.length≤c∧Kd.C (Kd.slice 3 (Kd.int .i64)) w A ls.length ls:=by
 obtain ⟨qs,rfl,hr,hq⟩:=h;have hl:(qs.map (·.1)).length=qs.length:=by simp
 rw [hl]
 rcases hr.2 with ⟨rfl,hn⟩|⟨b,cap,cur,rfl,hb,hc,hle,hmax,hsz,ht⟩
 ·refine ⟨none,0,by rw [hn],by omega,?_⟩;have:qs=[]:=List.eq_nil_of_length_eq_zero hn;subst this;exact Kd.C_nil _ _
 ·refine ⟨_,cap,rfl,hle,hl,Nat.le_trans hle (Nat.le_trans hmax (by decide)),fun _=>⟨_,rfl,fun j p hj=>?_⟩⟩;rw [List.getElem?_map] at hj;obtain ⟨q,hqj,rfl⟩:=Option.map_eq_some_iff.1 hj;have hjl:=(List.getElem?_eq_some_iff.1 hqj).1;obtain ⟨A,c,e,hc2⟩:=(hq q (List.mem_of_getElem? hqj)).1.slice;have hcc:=(hq q (List.mem_of_getElem? hqj)).1;rw [e] at hcc;refine ⟨[.slice A q.1.length c],rfl,⟨A,c,rfl,hc2,hcc.c⟩,fun i u hu=>?_⟩
  rcases i with _|i
  ·cases hu;rw [cell_add];refine (z01 hc _).trans ?_;show cur[j * 1+0]?=_;rw [Nat.mul_one,Nat.add_zero,← e];have h1:(cur.toList.take (qs.length * 1))[j]?=(qs.map (·.2))[j]?:=by rw [ht]
   rw [List.getElem?_take_of_lt (by omega),List.getElem?_map,hqj] at h1
   simpa using h1
  ·simp at hu
theorem q20:queR p20 1 5 0=[[1]]∧queR p20 1 5 1=[[1],[2,1]]∧queR p20 1 5 2=[[1],[2,1],[0,2,1]]∧queR p20 1 5 3=[[1],[2,1],[0,2,1]]:=by decide +kernel
theorem up20:UpR [[1],[2,1],[0,2,1]]:=by unfold UpR;decide
theorem len20:(queW p20 1 5 0).length=1∧(queW p20 1 5 1).length=2∧(queW p20 1 5 2).length=3∧(queW p20 1 5 3).length=3:=by
 have h:∀ k,(queW p20 1 5 k).length=(queR p20 1 5 k).length:=fun k=>by rw [← que_rows (by decide),List.length_map]
 rw [h,h,h,h,q20.1,q20.2.1,q20.2.2.1,q20.2.2.2];exact ⟨rfl,rfl,rfl,rfl⟩
theorem far20_que {n:Nat} (h:3≤n):queW p20 1 5 n=queW p20 1 5 3:=que_done (by rw [len20.2.2.2];exact Nat.le_refl _) h
theorem all20 {ys:List Wy} (hg:Gone p20 1 5 ys) (h:((ys.length:Int)≤9∧(queW p20 1 5 ys.length).length≤ys.length)∨(ys.length:Int)=9+1):ys.length=3∧ys.map Wy.path=[[1],[2,1],[0,2,1]]:=by
 rcases h with ⟨_,h2⟩|h
 ·have h3:3≤ys.length:=by
   rcases Nat.lt_or_ge ys.length 3 with h|h
   ·exfalso
    have hl:=len20
    rcases (show ys.length=0∨ys.length=1∨ys.length=2 by omega) with e|e|e <;> rw [e] at h2 <;> omega
   ·exact h
  have e:=hg.all h2;rw [far20_que h3] at e;have hl:ys.length=3:=by rw [e];exact len20.2.2.2
  refine ⟨hl,?_⟩;rw [e,que_rows (by decide)];exact q20.2.2.2
 ·exfalso
  have h9:=hg 9 _ (List.getElem?_eq_getElem (by omega));rw [far20_que (by omega)] at h9;have:=(List.getElem?_eq_some_iff.1 h9).1;have:=len20.2.2.2;omega
theorem rows20 {ls:List (List Int)} {ys:List Wy} (hg:Gone p20 1 5 ys) (h:((ys.length:Int)≤9∧(queW p20 1 5 ys.length).length≤ys.length∧ls.Perm (ys.map Wy.path)∧UpR ls)∨((ys.length:Int)=9+1∧ls=[])):ls=[[1],[2,1],[0,2,1]]:=by
 have h2:=all20 hg (h.imp (fun h=>⟨h.1,h.2.1⟩) fun h=>h.1)
 rcases h with ⟨_,_,h3,h4⟩|⟨h3,_⟩
 ·rw [h2.2] at h3;exact up_uniq h3 h4 up20
 ·omega
end Go.Proofs.YtcbnhfnnjkkceaaGreat.X
end
section
set_option maxRecDepth 100000
namespace Go.Proofs.YtcbnhfnnjkkceaaGreat.X
open Go.RowKit Go.Proofs.YtcbnhfnnjkkceaaGreatW.PrintWords Go.Proofs.YtcbnhfnnjkkceaaGreat.Gr
theorem w64 {x:Int} (h:-1000000000≤x∧x≤1000000000):wrap64 x=x:=by unfold wrap64;omega
theorem rdL_at {ls:List (List Int)} {i:Nat} {l:List Int} (h:ls[i]?=some l):rd_L7 ls (i:Int)=l:=by
 unfold rd_L7;rw [Int.toNat_natCast,List.getD_eq_getElem?_getD,h];rfl
theorem rows_l0 {a b:List (List Int)} (he:a.length=b.length) (hs:a.length≤1000) (hr:∀ l ∈ a,l.length≤1000):∀ (d k i:Nat),i+d=a.length→d+1010≤k→z10.l0 k a b i=some (a.drop i == b.drop i)
 | 0,k,i,hd,hk=>by
  obtain ⟨k,rfl⟩:∃ j,k=j+1:=⟨k - 1,by omega⟩;rw [z10.l0,if_neg (by omega),List.drop_eq_nil_of_le (by omega),List.drop_eq_nil_of_le (by omega)];rfl
 | d+1,k,i,hd,hk=>by
  obtain ⟨k,rfl⟩:∃ j,k=j+1:=⟨k - 1,by omega⟩;obtain ⟨x,hx⟩:∃ x,a[i]?=some x:=⟨_,List.getElem?_eq_getElem (by omega)⟩;obtain ⟨y,hy⟩:∃ y,b[i]?=some y:=⟨_,List.getElem?_eq_getElem (by omega)⟩;have e1:a.drop i=x :: a.drop (i+1):=by rw [List.drop_eq_getElem_cons (by omega)];congr 1;exact (List.getElem?_eq_some_iff.1 hx).2
  have e2:b.drop i=y :: b.drop (i+1):=by rw [List.drop_eq_getElem_cons (by omega)];congr 1;exact (List.getElem?_eq_some_iff.1 hy).2
  have hxl:=hr x (List.mem_of_getElem? hx);have hi:z0v.f k x y=some (x == y):=by
   obtain ⟨j,rfl⟩:∃ j,k=(x.length+1)+j:=⟨k - (x.length+1),by omega⟩;have base:=ints_f x y (by omega);clear hk hd
   induction j with
   | zero=>exact base
   | succ j ih=>exact z0v.mono x y _ _ ih
  rw [z10.l0,if_pos (by omega),if_pos (by omega),if_pos (by omega),rdL_at hx,rdL_at hy,hi,Option.bind_some,e1,e2,List.cons_beq_cons];cases hxy:(x == y) with
  | true =>
   rw [if_pos rfl,w64 (by omega),show ((i:Int)+1)=((i+1:Nat):Int) by omega];exact rows_l0 he hs hr d k (i+1) (by omega) (by omega)
  | false=>rfl
theorem ref_rows {a b:List (List Int)} (hs:a.length≤1000) (hr:∀ l ∈ a,l.length≤1000) {k:Nat} (hk:2100≤k):z10.f k a b=some (a == b):=by
 unfold z10.f
 by_cases c:a.length=b.length
 ·rw [if_pos (by omega)];exact rows_l0 c hs hr a.length k 0 (by omega) (by omega)
 ·rw [if_neg (by omega)]
  congr 1
  symm
  rw [beq_eq_false_iff_ne];exact fun e=>c (by rw [e])
end Go.Proofs.YtcbnhfnnjkkceaaGreat.X
end
section
namespace Go.Proofs.YtcbnhfnnjkkceaaGreat.X
open Go.RowKit Go.Proofs.YtcbnhfnnjkkceaaGreatW.PrintWords Go.Proofs.YtcbnhfnnjkkceaaGreatW.PrintLast Go.Proofs.YtcbnhfnnjkkceaaGreatW.PrintMore Go.Proofs.YtcbnhfnnjkkceaaGreat.Gr
theorem z2u.keep {w w':World} {base:Nat} {v:Value} {ls:List (List Int)} (h:z2u w base v ls) (hs:w.heap.size≤w'.heap.size) (hk:∀ i,i < w.heap.size→base≤i→w'.heap[i]?=w.heap[i]?):z2u w' base v ls:=by
 obtain ⟨qs,e,h1,h2⟩:=h;exact ⟨qs,e,h1.keep fun k c hk2 hc=>(hk k (z0s hc) (h1.own k hk2).1).trans hc,fun q hq=>⟨(h2 q hq).1.keep hs hk,(h2 q hq).2⟩⟩
theorem z2u.below {w w':World} {base:Nat} {v:Value} {ls:List (List Int)} (h:z2u w base v ls) (hb:Below w.heap.size w w'):z2u w' base v ls:=h.keep hb.size fun i hi _=>hb.block i hi
theorem rows_lit {w:World} {b b1 b2 b3:Nat} (h:w.heap[b]?=some (.cells #[.slice (some ⟨b1,0,none⟩) 1 1,.slice (some ⟨b2,0,none⟩) 2 2,.slice (some ⟨b3,0,none⟩) 3 3] 23 (0,0))) (h1:w.heap[b1]?=some (.cells #[.int .i64 1] 3 (0,0))) (h2:w.heap[b2]?=some (.cells #[.int .i64 2,.int .i64 1] 3 (0,0))) (h3:w.heap[b3]?=some (.cells #[.int .i64 0,.int .i64 2,.int .i64 1] 3 (0,0))) :
  Kd.C (Kd.slice 3 (Kd.int .i64)) w (some ⟨b,0,none⟩) 3 [[1],[2,1],[0,2,1]] :=
 C_lit (Kd.slice 3 (Kd.int .i64)) h [[1],[2,1],[0,2,1]] (by decide) fun j l hj=>by
  rcases j with _|_|_|j
  ·obtain rfl:[(1:Int)]=l:=by simpa using hj
   exact ⟨_,rfl,⟨_,1,rfl,Nat.le_refl _,ints_lit [1] (by decide) h1⟩,fun i u hu=>by rcases i with _|i <;> first|exact hu|simp at hu⟩
  ·obtain rfl:[(2:Int),1]=l:=by simpa using hj
   exact ⟨_,rfl,⟨_,2,rfl,Nat.le_refl _,ints_lit [2,1] (by decide) h2⟩,fun i u hu=>by rcases i with _|i <;> first|exact hu|simp at hu⟩
  ·obtain rfl:[(0:Int),2,1]=l:=by simpa using hj
   exact ⟨_,rfl,⟨_,3,rfl,Nat.le_refl _,ints_lit [0,2,1] (by decide) h3⟩,fun i u hu=>by rcases i with _|i <;> first|exact hu|simp at hu⟩
  ·simp at hj
theorem awake22_calls (w:World):Calls Tryz.prog 37 #[] w fun e w'=>e=.returned (.bool true)∧Below w.heap.size w w':=by
 have hb1:=z04 (Below.refl w.heap.size w) (Obj.cells #[.int .i64 0,.int .i64 2] 3);have hb2:=z04 hb1 (Obj.cells #[.int .i64 23,.int .i64 0,.int .i64 0,.int .i64 0,.int .u64 1,.int .i64 0,.int .i64 0,.int .i64 0,.int .i64 0,.int .u64 0,.int .i64 24,.int .i64 0,.int .i64 0,.int .i64 0,.int .u64 0] 79);have hf:=z06 (z14 w (Obj.cells #[.int .i64 0,.int .i64 2] 3)) (Obj.cells #[.int .i64 23,.int .i64 0,.int .i64 0,.int .i64 0,.int .u64 1,.int .i64 0,.int .i64 0,.int .i64 0,.int .i64 0,.int .u64 0,.int .i64 24,.int .i64 0,.int .i64 0,.int .i64 0,.int .u64 0] 79);have hc:=z14 (w.alloc (Obj.cells #[.int .i64 0,.int .i64 2] 3)) (Obj.cells #[.int .i64 23,.int .i64 0,.int .i64 0,.int .i64 0,.int .u64 1,.int .i64 0,.int .i64 0,.int .i64 0,.int .i64 0,.int .u64 0,.int .i64 24,.int .i64 0,.int .i64 0,.int .i64 0,.int .u64 0] 79);rw [show (w.alloc (Obj.cells #[.int .i64 0,.int .i64 2] 3)).heap.size=w.heap.size+1 by show (w.heap.push _).size=_;simp] at hc;have HNEW:=Aside0.mk (new_yes' p20 none 0 (some ⟨w.heap.size,0,none⟩) 2 (some ⟨w.heap.size+1,0,none⟩) 3 _ (Kd.C_nil (Kd.int .u8) _) (by decide) (ints_lit [0,2] (by decide) hf) (by decide) (code20_lit hc) (by decide) p20_wf p20_enc);have HB:=Aside0.mk hb2;clear hb1 hb2 hf hc
 go_enter Tryz.func37,Tryz.ntmps37
 go_wp2_with fail
 refine HNEW.out.mono ?_;rintro e w0 ⟨g,rfl,hG,hB⟩;have HLG:Aside0 (w.heap.size≤g):=⟨Nat.le_trans HB.out.size hG.1⟩;have HBw:=Aside0.mk (z0x HB.out HB.out.size hB);obtain ⟨BB,hBB⟩:∃ n,(w.alloc (Obj.cells #[.int .i64 0,.int .i64 2] 3)).alloc (Obj.cells #[.int .i64 23,.int .i64 0,.int .i64 0,.int .i64 0,.int .u64 1,.int .i64 0,.int .i64 0,.int .i64 0,.int .i64 0,.int .u64 0,.int .i64 24,.int .i64 0,.int .i64 0,.int .i64 0,.int .u64 0] 79)=n:=⟨_,rfl⟩;rw [hBB] at hG;have HG:=Aside0.mk (GrY.of_gr hG);clear hG hB hBB HNEW HB;have HA:=Aside0.mk (all_calls p20_rt (by decide) (by decide) (by decide) HG.out 1 5 9 (by omega))
 go_wp2_with fail
 refine HA.out.mono ?_;rintro e w1 ⟨v,ls,ys,rfl,hR,hgn,hcs,hgy,hF⟩;rw [show max (9:Int) 0=9 by decide] at hcs;have hls:=rows20 hgn hcs;subst hls;have HR1:=Aside0.mk hR;have HG1:=Aside0.mk hgy;have HB1:=Aside0.mk (fr_below hF HBw.out HBw.out.size HLG.out);obtain ⟨av,cv,rfl,hcv,_⟩:=hR.c;clear hR hgn hcs hgy hF HA HG HBw;have HST:=Aside0.mk (start2_calls HG1.out.gr (by decide) (by decide) (by decide) 1)
 go_wp2_with fail
 refine HST.out.mono ?_;rintro e w2 ⟨hB2,hor⟩;obtain ⟨q,rfl,hwy⟩:=(hor.resolve_left fun h=>h.1 (by decide)).2;have HW2:=Aside0.mk hwy;have HR2:=Aside0.mk (HR1.out.below hB2);have HG2:=Aside0.mk (HG1.out.below hB2);have HB2:=Aside0.mk (z0x HB1.out HB1.out.size hB2);clear hwy hor hB2 HR1 HG1 HB1 HST;have hs1:∀ (w:World) (o:Obj),(w.alloc o).heap.size=w.heap.size+1:=fun w o=>by show (w.heap.push _).size=_;simp
 have HBB:=Aside0.mk (z04 (z04 (z04 (z04 (z04 (Below.refl w2.heap.size w2) (Obj.cells #[.pointer (some ⟨g,0,none⟩),.pointer q,.pointer none] 63)) (Obj.cells #[.int .i64 1] 3)) (Obj.cells #[.int .i64 2,.int .i64 1] 3)) (Obj.cells #[.int .i64 0,.int .i64 2,.int .i64 1] 3)) (Obj.cells #[.slice (some ⟨w2.heap.size+1,0,none⟩) 1 1,.slice (some ⟨w2.heap.size+1+1,0,none⟩) 2 2,.slice (some ⟨w2.heap.size+1+1+1,0,none⟩) 3 3] 23));have b0:=z06 (z06 (z06 (z06 (z14 w2 (Obj.cells #[.pointer (some ⟨g,0,none⟩),.pointer q,.pointer none] 63)) (Obj.cells #[.int .i64 1] 3)) (Obj.cells #[.int .i64 2,.int .i64 1] 3)) (Obj.cells #[.int .i64 0,.int .i64 2,.int .i64 1] 3)) (Obj.cells #[.slice (some ⟨w2.heap.size+1,0,none⟩) 1 1,.slice (some ⟨w2.heap.size+1+1,0,none⟩) 2 2,.slice (some ⟨w2.heap.size+1+1+1,0,none⟩) 3 3] 23);have b1:=z06 (z06 (z06 (z14 (w2.alloc (Obj.cells #[.pointer (some ⟨g,0,none⟩),.pointer q,.pointer none] 63)) (Obj.cells #[.int .i64 1] 3)) (Obj.cells #[.int .i64 2,.int .i64 1] 3)) (Obj.cells #[.int .i64 0,.int .i64 2,.int .i64 1] 3)) (Obj.cells #[.slice (some ⟨w2.heap.size+1,0,none⟩) 1 1,.slice (some ⟨w2.heap.size+1+1,0,none⟩) 2 2,.slice (some ⟨w2.heap.size+1+1+1,0,none⟩) 3 3] 23);have b2:=z06 (z06 (z14 ((w2.alloc (Obj.cells #[.pointer (some ⟨g,0,none⟩),.pointer q,.pointer none] 63)).alloc (Obj.cells #[.int .i64 1] 3)) (Obj.cells #[.int .i64 2,.int .i64 1] 3)) (Obj.cells #[.int .i64 0,.int .i64 2,.int .i64 1] 3)) (Obj.cells #[.slice (some ⟨w2.heap.size+1,0,none⟩) 1 1,.slice (some ⟨w2.heap.size+1+1,0,none⟩) 2 2,.slice (some ⟨w2.heap.size+1+1+1,0,none⟩) 3 3] 23);have b3:=z06 (z14 (((w2.alloc (Obj.cells #[.pointer (some ⟨g,0,none⟩),.pointer q,.pointer none] 63)).alloc (Obj.cells #[.int .i64 1] 3)).alloc (Obj.cells #[.int .i64 2,.int .i64 1] 3)) (Obj.cells #[.int .i64 0,.int .i64 2,.int .i64 1] 3)) (Obj.cells #[.slice (some ⟨w2.heap.size+1,0,none⟩) 1 1,.slice (some ⟨w2.heap.size+1+1,0,none⟩) 2 2,.slice (some ⟨w2.heap.size+1+1+1,0,none⟩) 3 3] 23);have b4:=z14 ((((w2.alloc (Obj.cells #[.pointer (some ⟨g,0,none⟩),.pointer q,.pointer none] 63)).alloc (Obj.cells #[.int .i64 1] 3)).alloc (Obj.cells #[.int .i64 2,.int .i64 1] 3)).alloc (Obj.cells #[.int .i64 0,.int .i64 2,.int .i64 1] 3)) (Obj.cells #[.slice (some ⟨w2.heap.size+1,0,none⟩) 1 1,.slice (some ⟨w2.heap.size+1+1,0,none⟩) 2 2,.slice (some ⟨w2.heap.size+1+1+1,0,none⟩) 3 3] 23);rw [hs1] at b1;rw [hs1,hs1] at b2;rw [hs1,hs1,hs1] at b3;rw [hs1,hs1,hs1,hs1] at b4;have BX0:=Aside0.mk b0;have HLT:=Aside0.mk (rows_lit b4 b1 b2 b3);clear b0 b1 b2 b3 b4 hs1
 go_wp2_with fail
 generalize (((((w2.alloc (Obj.cells #[.pointer (some ⟨g,0,none⟩),.pointer q,.pointer none] 63)).alloc (Obj.cells #[.int .i64 1] 3)).alloc (Obj.cells #[.int .i64 2,.int .i64 1] 3)).alloc (Obj.cells #[.int .i64 0,.int .i64 2,.int .i64 1] 3)).alloc (Obj.cells #[.slice (some ⟨w2.heap.size+1,0,none⟩) 1 1,.slice (some ⟨w2.heap.size+1+1,0,none⟩) 2 2,.slice (some ⟨w2.heap.size+1+1+1,0,none⟩) 3 3] 23))=w3 at HBB BX0 HLT ⊢;have HR3:=Aside0.mk (HR2.out.below HBB.out);have HRC:Aside0 (Kd.C (Kd.slice 3 (Kd.int .i64)) w3 av 3 [[1],[2,1],[0,2,1]]):=⟨by
  obtain ⟨av',cv',e,_,h⟩:=HR3.out.c;cases e;exact h⟩
 refine (z10.calls 2100 av cv [[1],[2,1],[0,2,1]] (some ⟨w2.heap.size+1+1+1+1,0,none⟩) 3 [[1],[2,1],[0,2,1]] true w3 HRC.out hcv HLT.out (by decide) ((ref_rows (by decide) (by decide) (Nat.le_refl _)).trans (by decide))).mono ?_;rintro e w4' ⟨rfl,nd,rfl⟩;have HD:=Aside0.mk (z2a (Below.refl w3.heap.size w3) nd);generalize w3.drewN nd=w4 at HD ⊢;have HG4:=Aside0.mk ((HG2.out.below HBB.out).below HD.out);have HB4:=Aside0.mk (z0x (z0x HB2.out HB2.out.size HBB.out) (z0x HB2.out HB2.out.size HBB.out).size HD.out);have HW4:=Aside0.mk ((HW2.out.keep (WKeep.below HBB.out)).keep (WKeep.below HD.out));have BX4:=Aside0.mk (z0h BX0.out HD.out);clear HRC HR3 HR2 HG2 HB2 HW2 HBB HD HLT BX0;have HCN:=Aside0.mk (count_calls p20_rt (by decide) (by decide) (by decide) HG4.out 1 5 9 (by omega))
 go_wp2_with fail
 refine HCN.out.mono ?_;rintro e w5 ⟨ys2,rfl,hgn,hcs,hgy,hF⟩;rw [show max (9:Int) 0=9 by decide] at hcs;have h3:=(all20 hgn hcs).1;rw [h3];have HG5:=Aside0.mk hgy;have HB5:=Aside0.mk (fr_below hF HB4.out HB4.out.size HLG.out);have hgt:=HG4.out.gr.typed;have HW5:=Aside0.mk (HW4.out.keep (WKeep.fr hF hgt.choose_spec (by decide) (by decide)));have BX5:=Aside0.mk ((hF.block w2.heap.size (z0s BX4.out) fun e=>by
  obtain ⟨c,hc⟩:=hgt;rw [← e,BX4.out] at hc;injection hc with hc
  injection hc with _ hc
  exact absurd hc (by decide)).trans BX4.out)
 clear hgn hcs hgy hF h3 hgt HG4 HB4 HW4 BX4 HCN;have y0:w5.cell? ⟨w2.heap.size,0,none⟩=some (.pointer (some ⟨g,0,none⟩)):=(z01 BX5.out 0).trans rfl;have y1:w5.cell? ⟨w2.heap.size,1,none⟩=some (.pointer q):=(z01 BX5.out 1).trans rfl;have y2:w5.cell? ⟨w2.heap.size,2,none⟩=some (.pointer none):=(z01 BX5.out 2).trans rfl;have HPT:=Aside0.mk (path_calls (pg:=some ⟨g,0,none⟩) (qw:=none) HW5.out.2.1 (by decide))
 go_wp2_with fail
 refine HPT.out.mono ?_;rintro e w6 ⟨vp,rfl,hq,hB⟩;obtain ⟨ap,cp,rfl,_⟩:=hq.slice;have HG6:=Aside0.mk (HG5.out.below hB);have HB6:=Aside0.mk (z0x HB5.out HB5.out.size hB);have HW6:=Aside0.mk (HW5.out.keep (WKeep.below hB));have BX6:=Aside0.mk (z0h BX5.out hB);clear hq hB HG5 HB5 HW5 BX5 HPT y0 y1 y2;obtain ⟨bn,q',hqe,hbn,_⟩:=HW6.out.2.1;have hqe:q=some ⟨bn,0,none⟩:=hqe;subst hqe;have HWH:=Aside0.mk (whole_calls (n:=⟨1,0,0,0⟩) HG6.out.gr (by decide) (by decide) (by decide) (by decide +kernel) hbn HW6.out.2.2);clear hbn;have y0:w6.cell? ⟨w2.heap.size,0,none⟩=some (.pointer (some ⟨g,0,none⟩)):=(z01 BX6.out 0).trans rfl;have y1:w6.cell? ⟨w2.heap.size,1,none⟩=some (.pointer (some ⟨bn,0,none⟩)):=(z01 BX6.out 1).trans rfl;have y2:w6.cell? ⟨w2.heap.size,2,none⟩=some (.pointer none):=(z01 BX6.out 2).trans rfl
 go_wp2_with fail
 refine HWH.out.mono ?_;rintro e w7 ⟨rfl,hB⟩;have HB7:=Aside0.mk (z0x HB6.out HB6.out.size hB);clear hB y0 y1 y2;go_wp2;go_ret
 exact ⟨rfl,HB7.out⟩
end Go.Proofs.YtcbnhfnnjkkceaaGreat.X
end
