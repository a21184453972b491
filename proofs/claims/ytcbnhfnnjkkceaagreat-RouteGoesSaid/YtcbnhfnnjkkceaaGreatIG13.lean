/- For the statement of the row : what its proof needs of the text G13. -/
import Derived.Test.YtcbnhfnnjkkceaaGreatRows
import Derived.WalkKit
import Derived.ProofKit
import Derived.OpenShut
import Derived.ShutString
import Derived.ChangeOld
import Derived.Below
import Derived.SizedLaws
import Derived.Test.YtcbnhfnnjkkceaaGreatIG1
import Derived.Test.YtcbnhfnnjkkceaaGreatIG2
import Derived.Test.YtcbnhfnnjkkceaaGreatIG3
import Derived.Test.YtcbnhfnnjkkceaaGreatIG4
import Derived.Test.YtcbnhfnnjkkceaaGreatIG5
import Derived.Test.YtcbnhfnnjkkceaaGreatIG7
import Derived.Test.YtcbnhfnnjkkceaaGreatIG8
import Derived.Test.YtcbnhfnnjkkceaaGreatIG9
import Derived.Test.YtcbnhfnnjkkceaaGreatIG10
import Derived.Test.YtcbnhfnnjkkceaaGreatIG11
import Derived.Test.YtcbnhfnnjkkceaaGreatIG12
set_option maxHeartbeats 8000000
set_option maxRecDepth 100000
set_option linter.unusedSimpArgs false
set_option linter.unusedVariables false

section
namespace Go.Proofs.YtcbnhfnnjkkceaaGreat.X
open Go.RowKit Go.Proofs.YtcbnhfnnjkkceaaGreatW.PrintWords Go.Proofs.YtcbnhfnnjkkceaaGreatW.PrintLast Go.Proofs.YtcbnhfnnjkkceaaGreatW.PrintMore Go.Proofs.YtcbnhfnnjkkceaaGreat.Gr
def GoesOk (p:Im) (t:Int) (l:List Int):Prop:=l≠[]∧l.getLast?=some t∧(∀ (k:Nat) (a b:Int),l[k]?=some a→l[k+1]?=some b→b ∈ nextL p a∧a≠t)∧∀ x ∈ l,0≤x∧x < p.f5.length
theorem goes_ok {p:Im} {t:Int}:∀ (l:List Int),l≠[]→wayB p t l=true→(∀ x ∈ l,0≤x∧x < p.f5.length)→GoesOk p t l
 | [],h,_,_=>absurd rfl h
 | [x],_,hw,hin=>by
  unfold wayB at hw;simp only [Bool.and_eq_true,beq_iff_eq] at hw;exact ⟨by simp,hw.1.1,fun k a b ha hb=>by simp at hb,hin⟩
 | a :: b :: m,_,hw,hin=>by
  have hlast:=hw;unfold wayB at hlast;simp only [Bool.and_eq_true,beq_iff_eq] at hlast;have hab:b ∈ nextL p a:=by
   cases hb:bwW p (a :: b :: m) with
   | none=>rw [hb] at hlast;cases hlast.2
   | some z =>
    have e:((bwW p (b :: m)).bind fun y=>match y.ns with
     | []=>none
     | n :: r=>if b ∈ nextL p a then aheadU p n r y.ws a else none)=some z:=hb
    cases hy:bwW p (b :: m) with
    | none=>rw [hy] at e;cases e
    | some y =>
     rw [hy] at e;simp only [Option.bind_some] at e
     split at e
     ·cases e
     ·by_cases hn:b ∈ nextL p a
      ·exact hn
      ·rw [if_neg hn] at e;cases e
  obtain ⟨h1,h2,h3⟩:=way_tail' hw hab (hin a (by simp));obtain ⟨_,g1,g2,g3⟩:=goes_ok (b :: m) (by simp) h1 fun x hx=>hin x (List.mem_cons_of_mem _ hx)
  refine ⟨by simp,hlast.1.1,fun k x y hx hy=>?_,hin⟩;cases k with
  | zero =>
   simp at hx hy;subst hx hy;exact ⟨hab,h3⟩
  | succ k=>exact g2 k x y (by simpa using hx) (by simpa using hy)
theorem routeGoes_law (p:Im) (A3:Option Addr) (c3:Nat) (A4:Option Addr) (c4:Nat) (A5:Option Addr) (c5:Nat) (t:Int) (steps:Int) (w:World)
  (hr3:Kd.C (Kd.int .u8) w A3 p.f3.length p.f3) (hc3:p.f3.length≤c3) (hr4:Kd.C (Kd.int .i64) w A4 p.f4.length p.f4) (hc4:p.f4.length≤c4) (hr5:Kd.C k79 w A5 p.f5.length p.f5) (hc5:p.f5.length≤c5)
  (hw:wfP p) (hwt:Gr.wfI t) (hwsteps:Gr.wfI steps) :
  Calls Tryz.prog 10 #[.agg #[.int .i64 p.f0,.int .i64 p.f1,.int .i64 p.f2,.slice A3 p.f3.length c3,.slice A4 p.f4.length c4,.slice A5 p.f5.length c5],.int .i64 t,.int .i64 steps] w fun e w'=>e=.returned (.bool true)∧Below w.heap.size w w':=by
 have hb1:=z04 (Below.refl w.heap.size w) (Obj.cells #[.int .i64 p.f0,.int .i64 p.f1,.int .i64 p.f2,.slice A3 p.f3.length c3,.slice A4 p.f4.length c4,.slice A5 p.f5.length c5] 26);have BX1:=Aside0.mk (z13 w (Obj.cells #[.int .i64 p.f0,.int .i64 p.f1,.int .i64 p.f2,.slice A3 p.f3.length c3,.slice A4 p.f4.length c4,.slice A5 p.f5.length c5] 26));have HS1:Aside0 ((w.alloc (Obj.cells #[.int .i64 p.f0,.int .i64 p.f1,.int .i64 p.f2,.slice A3 p.f3.length c3,.slice A4 p.f4.length c4,.slice A5 p.f5.length c5] 26)).heap.size=w.heap.size+1):=⟨by show (w.heap.push _).size=_;simp⟩;have HR3:=Aside0.mk hr3;have HR4:=Aside0.mk hr4;have HR5:=Aside0.mk hr5;have HB1:=Aside0.mk hb1;clear hr3 hr4 hr5 hb1;have HAW:=Aside0.mk (awake22_calls (w.alloc (Obj.cells #[.int .i64 p.f0,.int .i64 p.f1,.int .i64 p.f2,.slice A3 p.f3.length c3,.slice A4 p.f4.length c4,.slice A5 p.f5.length c5] 26)))
 go_enter Tryz.func10,Tryz.ntmps10
 go_wp2_with fail
 generalize w.alloc (Obj.cells #[.int .i64 p.f0,.int .i64 p.f1,.int .i64 p.f2,.slice A3 p.f3.length c3,.slice A4 p.f4.length c4,.slice A5 p.f5.length c5] 26)=W1 at BX1 HS1 HB1 HAW ⊢;refine HAW.out.mono ?_;rintro e w2 ⟨rfl,hB⟩;have HBw:=Aside0.mk (z0x HB1.out HB1.out.size hB);have HB1':=Aside0.mk hB;have hbk:=(hB.block w.heap.size (by rw [HS1.out];omega)).trans BX1.out;have BX2:=Aside0.mk hbk;have k0:=z01 hbk 0;have k1:=z01 hbk 1;have k2:=z01 hbk 2;have k3:=z01 hbk 3;have k4:=z01 hbk 4;have k5:=z01 hbk 5;have HMD:=Aside0.mk (made22_calls p A3 c3 A4 c4 A5 c5 w2 (Kd.C_below HR3.out HBw.out) hc3 (Kd.C_below HR4.out HBw.out) hc4 (Kd.C_below HR5.out HBw.out) hc5 hw);clear hB hbk HAW BX1
 go_wp2_with fail
 refine HMD.out.mono ?_;rintro e w3 (⟨rfl,hB,_⟩|⟨g,BB,rfl,hg0,hG,hB,h0,hla,h5,h3,h4⟩)
 ·have HBn:=Aside0.mk (z0x HBw.out HBw.out.size hB);clear HBw HB1' hB HMD k0 k1 k2 k3 k4 k5 BX2;go_wp2;go_ret
  exact ⟨rfl,HBn.out⟩
 have HLG:Aside0 (w.heap.size < g):=⟨by have:=HB1'.out.size;have:=HS1.out;omega⟩;have HBn:=Aside0.mk (z0x HBw.out HBw.out.size hB);have HG:=Aside0.mk (GrY.of_gr hG);have HRT:=Aside0.mk (encV_rt hw h0);have HZ:=Aside0.mk (And.intro h0 hla);have HL:=Aside0.mk (And.intro h3 (And.intro h4 h5));have HST:Aside0 (0≤p.f1∧p.f1≤1000000):=⟨by have:=(z2v.1 h0).1;unfold z2g at this;omega⟩;have BX3:=Aside0.mk (z0h BX2.out hB);clear HBw HB1' hB hG hg0 h0 hla h5 h3 h4 HMD k0 k1 k2 k3 k4 k5 BX2 HB1;have HB3:=HBn;clear HBn
 by_cases hst:steps > 12
 ·have hd:decide (steps > 12)=true:=decide_eq_true hst;have hd2:decide (12 < steps)=true:=decide_eq_true hst;clear hst;go_wp2;go_ret
  exact ⟨rfl,HB3.out⟩
 have hd:decide (steps > 12)=false:=decide_eq_false hst;have hd2:decide (12 < steps)=false:=decide_eq_false hst;clear hst;have HA:=Aside0.mk (all_calls HRT.out HL.out.1 HL.out.2.1 (Nat.le_trans HL.out.2.2 (by decide)) HG.out t steps 100 (by omega));have HS3:Aside0 (g < w3.heap.size):=⟨HG.out.gr.lt⟩
 go_wp2_with fail
 refine HA.out.mono ?_;rintro e w4 ⟨v,ls,ys,rfl,hR,hgn,hcs,hgy,hF⟩;rw [show max (100:Int) 0=100 by decide] at hcs;have HOK:Aside0 ((∀ l ∈ ls,GoesOk p t l∧l.length≤400)∧ls.length≤1000):=⟨by
  rcases hcs with ⟨h1,h2,h3,h4⟩|⟨_,h2⟩
  ·refine ⟨fun l hl=>?_,by rw [h3.length_eq,List.length_map];omega⟩;have hm:=h3.mem_iff.1 hl;obtain ⟨y,hy,rfl⟩:=List.mem_map.1 hm;rw [hgn.all h2] at hy;have hq:=que_way HST.out.1 ys.length y hy;have hr:y.path ∈ queR p t steps ys.length:=by rw [← que_rows HST.out.1];exact List.mem_map.2 ⟨y,hy,rfl⟩
   obtain ⟨⟨hne,hin⟩,hlen⟩:=queR_in ys.length y.path hr;exact ⟨goes_ok y.path hne hq.2 hin,by omega⟩
  ·subst h2;exact ⟨fun l hl=>by (cases hl),by simp⟩⟩
 obtain ⟨av,cv,rfl,hcv,_⟩:=hR.c;have HR4:=Aside0.mk hR;have HG4:=Aside0.mk hgy.gr;have HB4:=Aside0.mk (fr_below hF HB3.out HB3.out.size (Nat.le_of_lt HLG.out));clear hR hgn hcs hgy hF HA HG BX3 HB3;go_wp2
 go_loopw [10] (fun v10 wr=>∃ i:Nat,v10=.int .i64 i∧Aside0 (i≤ls.length)∧Aside0 (Gr wr g BB p)∧Aside0 (RowsAt wr w3.heap.size (.slice av ls.length cv) ls)∧Aside0 (Below w.heap.size w wr)) (fun v _=>ls.length - (intOf v).toNat)
 case atStart=>exact ⟨0,rfl,⟨Nat.zero_le _⟩,HG4,HR4,HB4⟩
 case round =>
  clear HG4 HR4 HB4;obtain ⟨i,rfl,hi,hg,hr,hb⟩:=hrel;have hil:=hi.out;have hln:=HOK.out.2
  by_cases hlt:i < ls.length
  rotate_left
  ·have hd:decide ((i:Int) < (ls.length:Int))=false:=decide_eq_false (by omega);have hd2:decide (i < ls.length)=false:=decide_eq_false hlt;clear hlt hil hln;go_wp2;go_ret
   exact ⟨rfl,hb.out⟩
  have hd:decide ((i:Int) < (ls.length:Int))=true:=decide_eq_true (by omega);have hd2:decide (i < ls.length)=true:=decide_eq_true hlt;obtain ⟨l,hli⟩:∃ l,ls[i]?=some l:=⟨_,List.getElem?_eq_getElem hlt⟩;have hgo:=HOK.out.1 l (List.mem_of_getElem? hli);have hwi:IntKind.i64.wrap ((i:Int)+1)=(i:Int)+1:=IntWalk.i64_in _ (by omega);have ROW:∀ W,RowsAt W w3.heap.size (.slice av ls.length cv) ls→∃ ad ai ci,av=some ad∧W.cell? (ad.add i)=some (.slice (some ai) l.length ci)∧(Kd.int .i64).C W (some ai) l.length l:=fun W hW=>by
   obtain ⟨A,c,e,_,hC⟩:=hW.c;cases e;obtain ⟨ad,A0,c0,e,h1,h2,h3⟩:=at_L7 hC (i:Int) (by omega) (by omega);rw [Int.toNat_natCast] at h1;rw [rdL_at hli] at h1 h2 h3;obtain ⟨ai,e2,_⟩:=Kd.at_int h3 0 (by omega) (by have:=List.length_pos_iff.2 hgo.1.1;omega);subst e2;exact ⟨ad,ai,c0,e,h1,h3⟩
  have HROW:=Aside0.mk ROW;obtain ⟨ad,ai,ci,ead,hrow,hints⟩:=ROW wr hr.out;subst ead;obtain ⟨q,hq⟩:∃ q,l.length=q+1:=⟨l.length - 1,by have:=List.length_pos_iff.2 hgo.1.1;omega⟩;have hlast:wr.cell? (ai.add q)=some (.int .i64 t):=by
   obtain ⟨a0,e,hx⟩:=Kd.at_int hints (q:Int) (by omega) (by omega);cases e;rw [Int.toNat_natCast] at hx;have h2:=hgo.1.2.1;rw [List.getLast?_eq_getElem?,hq,Nat.add_sub_cancel] at h2;rw [rd_at h2] at hx;exact hx
  have hp0:(0≤(i:Int))=True:=eq_true (by omega);have hp1:((i:Int) < (ls.length:Int))=True:=eq_true (by omega);have hp2:(i < ls.length)=True:=eq_true hlt;have hlz:((l.length:Int) == 0)=false:=by simpa using hgo.1.1
  have hlz2:(l.length == 0)=false:=by simpa using hgo.1.1
  have hwq:IntKind.i64.wrap ((l.length:Int) - 1)=(q:Int):=(IntWalk.i64_in _ (by have:=hgo.2;omega)).trans (by omega);have hq0:(0≤(q:Int))=True:=eq_true (by omega);have hq1:((q:Int) < (l.length:Int))=True:=eq_true (by omega);have hq2:(q < l.length)=True:=eq_true (by omega);have htt:(t != t)=false:=by simp
  have HGO:=Aside0.mk hgo;have HLI:=Aside0.mk hli;have HLT:=Aside0.mk (And.intro hlt hln);have HQ:=Aside0.mk hq;clear hli hgo hlt hil hln hq hints ROW
  go_upto_region 10 with (fail)
  refine z27 (n:=22) (S:=fun w'=>w'.cell? (ad.add i)=some (.slice (some ai) l.length ci)∧w'.cell? (ai.add q)=some (.int .i64 t)) (ds:=[]) #[zf,zf,zf,zf,zf,zf,zf,zf,zf,zf,zf,zf,zf,zf,zf,zf,zf,zf,zf,zf,zf,zf] (by kernel_rfl) rfl rfl ⟨hrow,hlast⟩ (fun hHeld=>?_);refine pure_ (i:=0) (N:=some 38) (v:=?_) (a':=?_) #[zt,zf,zf,zf,zf,zf,zf,zf,zf,zf,zf,zf,zf,zf,zf,zf,zf,zf,zf,zf,zf,zf] rfl rfl (by kernel_rfl) (fun _ _ _ h=>h) (Or.inl ⟨by rfl,?_⟩) ?_ ?_;rotate_left
  ·intro w';go_simp;with_reducible rfl
  rotate_left
  ·simp only [Act.put,zq1,zq2,zq3,i64_w,i32_w];rfl
  refine pure_ (i:=1) (N:=some 39) (v:=?_) (a':=?_) #[zt,zt,zf,zf,zf,zf,zf,zf,zf,zf,zf,zf,zf,zf,zf,zf,zf,zf,zf,zf,zf,zf] rfl rfl (by kernel_rfl) (fun _ _ _ h=>h) (Or.inl ⟨by rfl,?_⟩) ?_ ?_;rotate_left
  ·intro w';go_simp;with_reducible rfl
  rotate_left
  ·simp only [Act.put,zq1,zq2,zq3,i64_w,i32_w];rfl
  refine pure_ (i:=2) (N:=some 40) (v:=?_) (a':=?_) #[zt,zt,zt,zf,zf,zf,zf,zf,zf,zf,zf,zf,zf,zf,zf,zf,zf,zf,zf,zf,zf,zf] rfl rfl (by kernel_rfl) (fun _ _ _ h=>h) (Or.inl ⟨by rfl,?_⟩) ?_ ?_;rotate_left
  ·intro w';go_simp;with_reducible rfl
  rotate_left
  ·simp only [Act.put,zq1,zq2,zq3,i64_w,i32_w];rfl
  refine take_ (i:=3) (N:=some 41) (v:=?_) (a':=?_) #[zt,zt,zt,zt,zf,zf,zf,zf,zf,zf,zf,zf,zf,zf,zf,zf,zf,zf,zf,zf,zf,zf] rfl rfl (by kernel_rfl) (fun _ _ _ h=>h) (Or.inl ⟨by rfl,?_⟩) hHeld ?_ ?_;rotate_left
  ·rintro w' ⟨s0,s1⟩;go_simp;with_reducible rfl
  rotate_left
  ·simp only [Act.put,zq1,zq2,zq3,i64_w,i32_w];rfl
  refine pure_ (i:=4) (N:=some 42) (v:=?_) (a':=?_) #[zt,zt,zt,zt,zt,zf,zf,zf,zf,zf,zf,zf,zf,zf,zf,zf,zf,zf,zf,zf,zf,zf] rfl rfl (by kernel_rfl) (fun _ _ _ h=>h) (Or.inl ⟨by rfl,?_⟩) ?_ ?_;rotate_left
  ·intro w';go_simp;with_reducible rfl
  rotate_left
  ·simp only [Act.put,zq1,zq2,zq3,i64_w,i32_w];rfl
  refine pure_ (i:=5) (N:=some 43) (v:=?_) (a':=?_) #[zt,zt,zt,zt,zt,zt,zf,zf,zf,zf,zf,zf,zf,zf,zf,zf,zf,zf,zf,zf,zf,zf] rfl rfl (by kernel_rfl) (fun _ _ _ h=>h) (Or.inl ⟨by rfl,?_⟩) ?_ ?_;rotate_left
  ·intro w';go_simp;with_reducible rfl
  rotate_left
  ·simp only [Act.put,zq1,zq2,zq3,i64_w,i32_w];rfl
  refine pure_ (i:=6) (N:=some 44) (v:=?_) (a':=?_) #[zt,zt,zt,zt,zt,zt,zt,zf,zf,zf,zf,zf,zf,zf,zf,zf,zf,zf,zf,zf,zf,zf] rfl rfl (by kernel_rfl) (fun _ _ _ h=>h) (Or.inl ⟨by rfl,?_⟩) ?_ ?_;rotate_left
  ·intro w';go_simp;with_reducible rfl
  rotate_left
  ·simp only [Act.put,zq1,zq2,zq3,i64_w,i32_w];rfl
  refine pure_ (i:=7) (N:=some 45) (v:=?_) (a':=?_) #[zt,zt,zt,zt,zt,zt,zt,zt,zf,zf,zf,zf,zf,zf,zf,zf,zf,zf,zf,zf,zf,zf] rfl rfl (by kernel_rfl) (fun _ _ _ h=>h) (Or.inl ⟨by rfl,?_⟩) ?_ ?_;rotate_left
  ·intro w';go_simp;with_reducible rfl
  rotate_left
  ·simp only [Act.put,zq1,zq2,zq3,i64_w,i32_w];rfl
  refine pure_ (i:=8) (N:=some 46) (v:=?_) (a':=?_) #[zt,zt,zt,zt,zt,zt,zt,zt,zt,zf,zf,zf,zf,zf,zf,zf,zf,zf,zf,zf,zf,zf] rfl rfl (by kernel_rfl) (fun _ _ _ h=>h) (Or.inl ⟨by rfl,?_⟩) ?_ ?_;rotate_left
  ·intro w';go_simp;with_reducible rfl
  rotate_left
  ·simp only [Act.put,zq1,zq2,zq3,i64_w,i32_w];rfl
  refine pure_ (i:=9) (N:=some 47) (v:=?_) (a':=?_) #[zt,zt,zt,zt,zt,zt,zt,zt,zt,zt,zf,zf,zf,zf,zf,zf,zf,zf,zf,zf,zf,zf] rfl rfl (by kernel_rfl) (fun _ _ _ h=>h) (Or.inl ⟨by rfl,?_⟩) ?_ ?_;rotate_left
  ·intro w';go_simp;with_reducible rfl
  rotate_left
  ·simp only [Act.put,zq1,zq2,zq3,i64_w,i32_w];rfl
  refine pure_ (i:=11) (N:=some 49) (v:=?_) (a':=?_) #[zt,zt,zt,zt,zt,zt,zt,zt,zt,zt,zf,zt,zf,zf,zf,zf,zf,zf,zf,zf,zf,zf] rfl rfl (by kernel_rfl) (fun _ _ _ h=>h) (Or.inl ⟨by rfl,?_⟩) ?_ ?_;rotate_left
  ·intro w';go_simp;with_reducible rfl
  rotate_left
  ·simp only [Act.put,zq1,zq2,zq3,i64_w,i32_w];rfl
  refine pure_ (i:=12) (N:=some 50) (v:=?_) (a':=?_) #[zt,zt,zt,zt,zt,zt,zt,zt,zt,zt,zf,zt,zt,zf,zf,zf,zf,zf,zf,zf,zf,zf] rfl rfl (by kernel_rfl) (fun _ _ _ h=>h) (Or.inl ⟨by rfl,?_⟩) ?_ ?_;rotate_left
  ·intro w';go_simp;with_reducible rfl
  rotate_left
  ·simp only [Act.put,zq1,zq2,zq3,i64_w,i32_w];rfl
  refine pure_ (i:=13) (N:=some 51) (v:=?_) (a':=?_) #[zt,zt,zt,zt,zt,zt,zt,zt,zt,zt,zf,zt,zt,zt,zf,zf,zf,zf,zf,zf,zf,zf] rfl rfl (by kernel_rfl) (fun _ _ _ h=>h) (Or.inl ⟨by rfl,?_⟩) ?_ ?_;rotate_left
  ·intro w';go_simp;with_reducible rfl
  rotate_left
  ·simp only [Act.put,zq1,zq2,zq3,i64_w,i32_w];rfl
  refine pure_ (i:=19) (N:=some 57) (v:=?_) (a':=?_) #[zt,zt,zt,zt,zt,zt,zt,zt,zt,zt,zf,zt,zt,zt,zf,zf,zf,zf,zf,zt,zf,zf] rfl rfl (by kernel_rfl) (fun _ _ _ h=>h) (Or.inl ⟨by rfl,?_⟩) ?_ ?_;rotate_left
  ·intro w';go_simp;with_reducible rfl
  rotate_left
  ·simp only [Act.put,zq1,zq2,zq3,i64_w,i32_w];rfl
  refine take_ (i:=10) (N:=some 48) (v:=?_) (a':=?_) #[zt,zt,zt,zt,zt,zt,zt,zt,zt,zt,zt,zt,zt,zt,zf,zf,zf,zf,zf,zt,zf,zf] rfl rfl (by kernel_rfl) (fun _ _ _ h=>h) (Or.inl ⟨by rfl,?_⟩) hHeld ?_ ?_;rotate_left
  ·rintro w' ⟨s0,s1⟩;go_simp;with_reducible rfl
  rotate_left
  ·simp only [Act.put,zq1,zq2,zq3,i64_w,i32_w];rfl
  refine take_ (i:=14) (N:=some 52) (v:=?_) (a':=?_) #[zt,zt,zt,zt,zt,zt,zt,zt,zt,zt,zt,zt,zt,zt,zt,zf,zf,zf,zf,zt,zf,zf] rfl rfl (by kernel_rfl) (fun _ _ _ h=>h) (Or.inl ⟨by rfl,?_⟩) hHeld ?_ ?_;rotate_left
  ·rintro w' ⟨s0,s1⟩;go_simp;with_reducible rfl
  rotate_left
  ·simp only [Act.put,zq1,zq2,zq3,i64_w,i32_w];rfl
  refine pure_ (i:=15) (N:=some 53) (v:=?_) (a':=?_) #[zt,zt,zt,zt,zt,zt,zt,zt,zt,zt,zt,zt,zt,zt,zt,zt,zf,zf,zf,zt,zf,zf] rfl rfl (by kernel_rfl) (fun _ _ _ h=>h) (Or.inl ⟨by rfl,?_⟩) ?_ ?_;rotate_left
  ·intro w';go_simp;with_reducible rfl
  rotate_left
  ·simp only [Act.put,zq1,zq2,zq3,i64_w,i32_w];rfl
  refine pure_ (i:=16) (N:=some 54) (v:=?_) (a':=?_) #[zt,zt,zt,zt,zt,zt,zt,zt,zt,zt,zt,zt,zt,zt,zt,zt,zt,zf,zf,zt,zf,zf] rfl rfl (by kernel_rfl) (fun _ _ _ h=>h) (Or.inl ⟨by rfl,?_⟩) ?_ ?_;rotate_left
  ·intro w';go_simp;with_reducible rfl
  rotate_left
  ·simp only [Act.put,zq1,zq2,zq3,i64_w,i32_w];rfl
  refine pure_ (i:=17) (N:=some 55) (v:=?_) (a':=?_) #[zt,zt,zt,zt,zt,zt,zt,zt,zt,zt,zt,zt,zt,zt,zt,zt,zt,zt,zf,zt,zf,zf] rfl rfl (by kernel_rfl) (fun _ _ _ h=>h) (Or.inl ⟨by rfl,?_⟩) ?_ ?_;rotate_left
  ·intro w';go_simp;with_reducible rfl
  rotate_left
  ·simp only [Act.put,zq1,zq2,zq3,i64_w,i32_w];rfl
  refine take_ (i:=18) (N:=some 56) (v:=?_) (a':=?_) #[zt,zt,zt,zt,zt,zt,zt,zt,zt,zt,zt,zt,zt,zt,zt,zt,zt,zt,zt,zt,zf,zf] rfl rfl (by kernel_rfl) (fun _ _ _ h=>h) (Or.inl ⟨by rfl,?_⟩) hHeld ?_ ?_;rotate_left
  ·rintro w' ⟨s0,s1⟩;go_simp;with_reducible rfl
  rotate_left
  ·simp only [Act.put,zq1,zq2,zq3,i64_w,i32_w];rfl
  refine pure_ (i:=20) (N:=some 58) (v:=?_) (a':=?_) #[zt,zt,zt,zt,zt,zt,zt,zt,zt,zt,zt,zt,zt,zt,zt,zt,zt,zt,zt,zt,zt,zf] rfl rfl (by kernel_rfl) (fun _ _ _ h=>h) (Or.inl ⟨by rfl,?_⟩) ?_ ?_;rotate_left
  ·intro w';go_simp;with_reducible rfl
  rotate_left
  ·simp only [Act.put,zq1,zq2,zq3,i64_w,i32_w];rfl
  refine pure_ (i:=21) (N:=some 59) (v:=?_) (a':=?_) #[zt,zt,zt,zt,zt,zt,zt,zt,zt,zt,zt,zt,zt,zt,zt,zt,zt,zt,zt,zt,zt,zt] rfl rfl (by kernel_rfl) (fun _ _ _ h=>h) (Or.inl ⟨by rfl,?_⟩) ?_ ?_;rotate_left
  ·intro w';go_simp;with_reducible rfl
  rotate_left
  ·simp only [Act.put,zq1,zq2,zq3,i64_w,i32_w];rfl
  refine done_ (by kernel_rfl) ?_;clear hHeld;clear hrow hlast hlz hlz2 hwq hq0 hq1 hq2 htt hd hd2;have HB5:=Aside0.mk (z12 hb.out);have HG5:=Aside0.mk (hg.out.below (z12 (Below.refl wr.heap.size wr)));have HR5':=Aside0.mk (hr.out.below (z12 (Below.refl wr.heap.size wr)));have HPI:=Aside0.mk (And.intro hp0 (And.intro hp1 (And.intro hp2 hwi)));clear hp0 hp1 hp2 hwi hg hr hb;go_wp2
  go_loopw [11] (fun v11 wr=>∃ k:Nat,v11=.int .i64 k∧Aside0 (k≤q)∧Aside0 (Gr wr g BB p)∧Aside0 (RowsAt wr w3.heap.size (.slice (some ad) ls.length cv) ls)∧Aside0 (Below w.heap.size w wr)) (fun v _=>q - (intOf v).toNat)
  case atStart=>exact ⟨0,rfl,⟨Nat.zero_le _⟩,HG5,HR5',HB5⟩
  case round =>
   clear HG5 HR5' HB5;obtain ⟨k,rfl,hk,hg,hr,hb⟩:=hrel;obtain ⟨ad',ai',ci',ead,hrow,hints⟩:=HROW.out wr hr.out;have hkq:=hk.out;have hq:=HQ.out;have hgo:=HGO.out;have hp0:=HPI.out.1;have hp1:=HPI.out.2.1;have hp2:=HPI.out.2.2.1;have ead:ad=ad':=by injection ead
   subst ead;have hwk:IntKind.i64.wrap ((k:Int)+1)=(k:Int)+1:=IntWalk.i64_in _ (by have:=hgo.2;omega)
   by_cases hlt:k < q
   rotate_left
   ·have hd:decide (((k:Int)+1) < (l.length:Int))=false:=decide_eq_false (by omega);have hwi:=HPI.out.2.2.2;clear hlt hkq hq hgo hints;go_wp2
    go_roundw
    case rel=>exact ⟨i+1,by first|go_num|simp,⟨HLT.out.1⟩,hg,hr,hb⟩
    case measure=>have:=HLT.out.1;simp [intOf];omega
   have hd:decide (((k:Int)+1) < (l.length:Int))=true:=decide_eq_true (by omega);obtain ⟨a,hla⟩:∃ a,l[k]?=some a:=⟨_,List.getElem?_eq_getElem (by omega)⟩;obtain ⟨bb,hlb⟩:∃ b,l[k+1]?=some b:=⟨_,List.getElem?_eq_getElem (by omega)⟩;have hab:=hgo.1.2.2.1 k a bb hla hlb;have hain:=hgo.1.2.2.2 a (List.mem_of_getElem? hla);have hk0:(0≤(k:Int))=True:=eq_true (by omega);have hk1:((k:Int) < (l.length:Int))=True:=eq_true (by omega);have hk2:(k < l.length)=True:=eq_true (by omega);have CELL:∀ W (ai':Addr),(Kd.int .i64).C W (some ai') l.length l→W.cell? (ai'.add k)=some (.int .i64 a)∧W.cell? ⟨ai'.block,ai'.off+(k+1),none⟩=some (.int .i64 bb):=fun W ai' hW=>by
    obtain ⟨a0,e,hx⟩:=Kd.at_int hW (k:Int) (by omega) (by omega);obtain ⟨a1,e1,hy⟩:=Kd.at_int hW ((k+1:Nat):Int) (by omega) (by omega);cases e;cases e1;rw [Int.toNat_natCast] at hx hy;rw [rd_at hla] at hx;rw [rd_at hlb] at hy;have ea:ai'.add (k+1)=⟨ai'.block,ai'.off+(k+1),none⟩:=(by simp [Addr.add]);rw [ea] at hy;exact ⟨hx,hy⟩
   have hka:=(CELL wr _ hints).1;have HCELL:=Aside0.mk CELL;have HNX:=Aside0.mk (graphNext HRT.out hg.out (x:=a) (Gr.wfI_of (by have:=HL.out;omega)));have HAB:=Aside0.mk hab;have HKQ:=Aside0.mk (And.intro hlt hq);have HGG:=Aside0.mk hg.out.lt;clear hlt hkq hq hgo hla hlb hab hain CELL hints hk hg
   go_wp2_with fail
   refine HNX.out.mono ?_;rintro e w5 ⟨vn,rfl,hRn,hM,hF⟩;obtain ⟨nl,hnl⟩:∃ nl,nextL p a=nl:=⟨_,rfl⟩;rw [hnl] at hRn HAB;obtain ⟨an,cn,rfl⟩:=Kd.R_slice hRn;have HNL:=Aside0.mk (Kd.R_reads' hRn).2.2;have HG6:=Aside0.mk hM.gr;have HR6:=Aside0.mk (hr.out.keep hF.size fun j hj hbj=>hF.block j hj fun e=>by have:=HS3.out;omega);have HB6:=Aside0.mk (fr_below hF hb.out hb.out.size (Nat.le_of_lt HLG.out));have HNN:Aside0 (nl.length≤1000):=⟨by
    rw [← hnl];exact Nat.le_trans (next_len p (Nat.le_trans HL.out.2.2 (by decide)) a) (by decide)⟩
   clear hRn hM hF hnl hrow hka hd HNX hr hb;go_wp2
   go_loopw [13,14] (fun v13 v14 wr=>∃ (jj:Nat) (f:Bool),v13=.bool f∧v14=.int .i64 jj∧Aside0 (jj≤nl.length)∧Aside0 (f=(nl.take jj).contains bb)∧Aside0 (Below w5.heap.size w5 wr)) (fun _ v14 _=>nl.length - (intOf v14).toNat)
   case atStart=>exact ⟨0,false,rfl,rfl,⟨Nat.zero_le _⟩,⟨by simp⟩,⟨Below.refl _ _⟩⟩
   case round =>
    obtain ⟨jj,f,rfl,rfl,hj,hf,hb5⟩:=hrel;have hjn:=hj.out;have hnn:=HNN.out;have hkk:=HKQ.out;obtain ⟨ad2,ai2,ci2,ead2,hrow,hints⟩:=HROW.out wr (HR6.out.below hb5.out);have ead2:ad=ad2:=(by injection ead2);subst ead2
    by_cases hlt:jj < nl.length
    ·have hd:decide ((jj:Int) < (nl.length:Int))=true:=decide_eq_true (by omega); have hd2:decide (jj < nl.length)=true:=decide_eq_true hlt; have hwj:IntKind.i64.wrap ((jj:Int)+1)=(jj:Int)+1:=IntWalk.i64_in _ (by omega); obtain ⟨cc,hc⟩:∃ c,nl[jj]?=some c:=⟨_,List.getElem?_eq_getElem hlt⟩; have htk:(nl.take (jj+1)).contains bb=((nl.take jj).contains bb || (cc == bb)):=by
      rw [List.take_add_one,hc]
      by_cases e:cc=bb
      ·subst e;simp
      ·have e2:¬ bb=cc:=fun h=>e h.symm
       simp [e,e2]
     have HTK:=Aside0.mk htk;have HJ:=Aside0.mk hlt;have hj0:(0≤(jj:Int))=True:=eq_true (by omega);have hj1:((jj:Int) < (nl.length:Int))=True:=eq_true (by omega);have hj2:(jj < nl.length)=True:=eq_true hlt;obtain ⟨an',ean,hcc⟩:=Kd.at_int (Kd.C_below HNL.out hb5.out) (jj:Int) (by omega) (by omega);subst ean;rw [Int.toNat_natCast,rd_at hc] at hcc;have hn1:=(HCELL.out wr _ hints).2;have hk0:(0≤(k:Int)+1)=True:=eq_true (by omega);have hk1:((k:Int)+1 < (l.length:Int))=True:=eq_true (by omega);have hk2:(k+1 < l.length)=True:=eq_true (by omega);clear hlt hkk hnn hjn hc hints htk;cases f with
     | true =>
      go_upto_region 20 with (fail)
      refine z27 (n:=17) (S:=fun w'=>w'.cell? (ad.add i)=some (.slice (some ai2) l.length ci2)) (ds:=[]) #[zf,zf,zf,zf,zf,zf,zf,zf,zf,zf,zf,zf,zf,zf,zf,zf,zf] (by kernel_rfl) rfl rfl (hrow) (fun hHeld=>?_);refine pure_ (i:=0) (N:=some 85) (v:=?_) (a':=?_) #[zt,zf,zf,zf,zf,zf,zf,zf,zf,zf,zf,zf,zf,zf,zf,zf,zf] rfl rfl (by kernel_rfl) (fun _ _ _ h=>h) (Or.inl ⟨by rfl,?_⟩) ?_ ?_;rotate_left
      ·intro w';go_simp;with_reducible rfl
      rotate_left
      ·simp only [Act.put,zq1,zq2,zq3,i64_w,i32_w];rfl
      refine pure_ (i:=1) (N:=some 86) (v:=?_) (a':=?_) #[zt,zt,zf,zf,zf,zf,zf,zf,zf,zf,zf,zf,zf,zf,zf,zf,zf] rfl rfl (by kernel_rfl) (fun _ _ _ h=>h) (Or.inl ⟨by rfl,?_⟩) ?_ ?_;rotate_left
      ·intro w';go_simp;with_reducible rfl
      rotate_left
      ·simp only [Act.put,zq1,zq2,zq3,i64_w,i32_w];rfl
      refine pure_ (i:=2) (N:=some 87) (v:=undef) (a':=?_) #[zt,zt,zt,zf,zf,zf,zf,zf,zf,zf,zf,zf,zf,zf,zf,zf,zf] rfl rfl (by kernel_rfl) (fun _ _ _ h=>h) (Or.inr ⟨by rfl,rfl⟩) ?_ ?_;rotate_left
      ·simp only [Act.put,zq1,zq2,zq3,i64_w,i32_w];rfl
      refine pure_ (i:=3) (N:=some 88) (v:=undef) (a':=?_) #[zt,zt,zt,zt,zf,zf,zf,zf,zf,zf,zf,zf,zf,zf,zf,zf,zf] rfl rfl (by kernel_rfl) (fun _ _ _ h=>h) (Or.inr ⟨by rfl,rfl⟩) ?_ ?_;rotate_left
      ·simp only [Act.put,zq1,zq2,zq3,i64_w,i32_w];rfl
      refine pure_ (i:=4) (N:=some 89) (v:=undef) (a':=?_) #[zt,zt,zt,zt,zt,zf,zf,zf,zf,zf,zf,zf,zf,zf,zf,zf,zf] rfl rfl (by kernel_rfl) (fun _ _ _ h=>h) (Or.inr ⟨by rfl,rfl⟩) ?_ ?_;rotate_left
      ·simp only [Act.put,zq1,zq2,zq3,i64_w,i32_w];rfl
      refine pure_ (i:=5) (N:=some 90) (v:=undef) (a':=?_) #[zt,zt,zt,zt,zt,zt,zf,zf,zf,zf,zf,zf,zf,zf,zf,zf,zf] rfl rfl (by kernel_rfl) (fun _ _ _ h=>h) (Or.inr ⟨by rfl,rfl⟩) ?_ ?_;rotate_left
      ·simp only [Act.put,zq1,zq2,zq3,i64_w,i32_w];rfl
      refine pure_ (i:=6) (N:=some 91) (v:=undef) (a':=?_) #[zt,zt,zt,zt,zt,zt,zt,zf,zf,zf,zf,zf,zf,zf,zf,zf,zf] rfl rfl (by kernel_rfl) (fun _ _ _ h=>h) (Or.inr ⟨by rfl,rfl⟩) ?_ ?_;rotate_left
      ·simp only [Act.put,zq1,zq2,zq3,i64_w,i32_w];rfl
      refine pure_ (i:=7) (N:=some 92) (v:=undef) (a':=?_) #[zt,zt,zt,zt,zt,zt,zt,zt,zf,zf,zf,zf,zf,zf,zf,zf,zf] rfl rfl (by kernel_rfl) (fun _ _ _ h=>h) (Or.inr ⟨by rfl,rfl⟩) ?_ ?_;rotate_left
      ·simp only [Act.put,zq1,zq2,zq3,i64_w,i32_w];rfl
      refine pure_ (i:=8) (N:=some 93) (v:=undef) (a':=?_) #[zt,zt,zt,zt,zt,zt,zt,zt,zt,zf,zf,zf,zf,zf,zf,zf,zf] rfl rfl (by kernel_rfl) (fun _ _ _ h=>h) (Or.inr ⟨by rfl,rfl⟩) ?_ ?_;rotate_left
      ·simp only [Act.put,zq1,zq2,zq3,i64_w,i32_w];rfl
      refine pure_ (i:=9) (N:=some 94) (v:=undef) (a':=?_) #[zt,zt,zt,zt,zt,zt,zt,zt,zt,zt,zf,zf,zf,zf,zf,zf,zf] rfl rfl (by kernel_rfl) (fun _ _ _ h=>h) (Or.inr ⟨by rfl,rfl⟩) ?_ ?_;rotate_left
      ·simp only [Act.put,zq1,zq2,zq3,i64_w,i32_w];rfl
      refine pure_ (i:=10) (N:=some 95) (v:=undef) (a':=?_) #[zt,zt,zt,zt,zt,zt,zt,zt,zt,zt,zt,zf,zf,zf,zf,zf,zf] rfl rfl (by kernel_rfl) (fun _ _ _ h=>h) (Or.inr ⟨by rfl,rfl⟩) ?_ ?_;rotate_left
      ·simp only [Act.put,zq1,zq2,zq3,i64_w,i32_w];rfl
      refine pure_ (i:=11) (N:=some 96) (v:=undef) (a':=?_) #[zt,zt,zt,zt,zt,zt,zt,zt,zt,zt,zt,zt,zf,zf,zf,zf,zf] rfl rfl (by kernel_rfl) (fun _ _ _ h=>h) (Or.inr ⟨by rfl,rfl⟩) ?_ ?_;rotate_left
      ·simp only [Act.put,zq1,zq2,zq3,i64_w,i32_w];rfl
      refine pure_ (i:=12) (N:=some 97) (v:=undef) (a':=?_) #[zt,zt,zt,zt,zt,zt,zt,zt,zt,zt,zt,zt,zt,zf,zf,zf,zf] rfl rfl (by kernel_rfl) (fun _ _ _ h=>h) (Or.inr ⟨by rfl,rfl⟩) ?_ ?_;rotate_left
      ·simp only [Act.put,zq1,zq2,zq3,i64_w,i32_w];rfl
      refine pure_ (i:=13) (N:=some 98) (v:=undef) (a':=?_) #[zt,zt,zt,zt,zt,zt,zt,zt,zt,zt,zt,zt,zt,zt,zf,zf,zf] rfl rfl (by kernel_rfl) (fun _ _ _ h=>h) (Or.inr ⟨by rfl,rfl⟩) ?_ ?_;rotate_left
      ·simp only [Act.put,zq1,zq2,zq3,i64_w,i32_w];rfl
      refine pure_ (i:=14) (N:=some 99) (v:=undef) (a':=?_) #[zt,zt,zt,zt,zt,zt,zt,zt,zt,zt,zt,zt,zt,zt,zt,zf,zf] rfl rfl (by kernel_rfl) (fun _ _ _ h=>h) (Or.inr ⟨by rfl,rfl⟩) ?_ ?_;rotate_left
      ·simp only [Act.put,zq1,zq2,zq3,i64_w,i32_w];rfl
      refine pure_ (i:=15) (N:=some 100) (v:=?_) (a':=?_) #[zt,zt,zt,zt,zt,zt,zt,zt,zt,zt,zt,zt,zt,zt,zt,zt,zf] rfl rfl (by kernel_rfl) (fun _ _ _ h=>h) (Or.inl ⟨by rfl,?_⟩) ?_ ?_;rotate_left
      ·intro w';go_simp;with_reducible rfl
      rotate_left
      ·simp only [Act.put,zq1,zq2,zq3,i64_w,i32_w];rfl
      refine pure_ (i:=16) (N:=some 13) (v:=?_) (a':=?_) #[zt,zt,zt,zt,zt,zt,zt,zt,zt,zt,zt,zt,zt,zt,zt,zt,zt] rfl rfl (by kernel_rfl) (fun _ _ _ h=>h) (Or.inl ⟨by rfl,?_⟩) ?_ ?_;rotate_left
      ·intro w';go_simp;with_reducible rfl
      rotate_left
      ·simp only [Act.put,zq1,zq2,zq3,i64_w,i32_w];rfl
      refine done_ (by kernel_rfl) ?_;clear hHeld;go_wp2
      go_roundw
      case rel=>exact ⟨jj+1,true,rfl,by first|go_num|simp,⟨HJ.out⟩,⟨by rw [HTK.out,← hf.out];rfl⟩,⟨z12 hb5.out⟩⟩
      case measure=>have:=HJ.out;simp [intOf];omega
     | false =>
      go_upto_region 20 with (fail)
      refine z27 (n:=17) (S:=fun w'=>w'.cell? (ad.add i)=some (.slice (some ai2) l.length ci2)∧w'.cell? ⟨ai2.block,ai2.off+(k+1),none⟩=some (.int .i64 bb)∧w'.cell? (an'.add jj)=some (.int .i64 cc)) (ds:=[]) #[zf,zf,zf,zf,zf,zf,zf,zf,zf,zf,zf,zf,zf,zf,zf,zf,zf] (by kernel_rfl) rfl rfl ⟨hrow,hn1,hcc⟩ (fun hHeld=>?_);refine pure_ (i:=0) (N:=some 85) (v:=?_) (a':=?_) #[zt,zf,zf,zf,zf,zf,zf,zf,zf,zf,zf,zf,zf,zf,zf,zf,zf] rfl rfl (by kernel_rfl) (fun _ _ _ h=>h) (Or.inl ⟨by rfl,?_⟩) ?_ ?_;rotate_left
      ·intro w';go_simp;with_reducible rfl
      rotate_left
      ·simp only [Act.put,zq1,zq2,zq3,i64_w,i32_w];rfl
      refine pure_ (i:=1) (N:=some 86) (v:=?_) (a':=?_) #[zt,zt,zf,zf,zf,zf,zf,zf,zf,zf,zf,zf,zf,zf,zf,zf,zf] rfl rfl (by kernel_rfl) (fun _ _ _ h=>h) (Or.inl ⟨by rfl,?_⟩) ?_ ?_;rotate_left
      ·intro w';go_simp;with_reducible rfl
      rotate_left
      ·simp only [Act.put,zq1,zq2,zq3,i64_w,i32_w];rfl
      refine pure_ (i:=2) (N:=some 87) (v:=?_) (a':=?_) #[zt,zt,zt,zf,zf,zf,zf,zf,zf,zf,zf,zf,zf,zf,zf,zf,zf] rfl rfl (by kernel_rfl) (fun _ _ _ h=>h) (Or.inl ⟨by rfl,?_⟩) ?_ ?_;rotate_left
      ·intro w';go_simp;with_reducible rfl
      rotate_left
      ·simp only [Act.put,zq1,zq2,zq3,i64_w,i32_w];rfl
      refine pure_ (i:=3) (N:=some 88) (v:=?_) (a':=?_) #[zt,zt,zt,zt,zf,zf,zf,zf,zf,zf,zf,zf,zf,zf,zf,zf,zf] rfl rfl (by kernel_rfl) (fun _ _ _ h=>h) (Or.inl ⟨by rfl,?_⟩) ?_ ?_;rotate_left
      ·intro w';go_simp;with_reducible rfl
      rotate_left
      ·simp only [Act.put,zq1,zq2,zq3,i64_w,i32_w];rfl
      refine pure_ (i:=4) (N:=some 89) (v:=?_) (a':=?_) #[zt,zt,zt,zt,zt,zf,zf,zf,zf,zf,zf,zf,zf,zf,zf,zf,zf] rfl rfl (by kernel_rfl) (fun _ _ _ h=>h) (Or.inl ⟨by rfl,?_⟩) ?_ ?_;rotate_left
      ·intro w';go_simp;with_reducible rfl
      rotate_left
      ·simp only [Act.put,zq1,zq2,zq3,i64_w,i32_w];rfl
      refine pure_ (i:=6) (N:=some 91) (v:=?_) (a':=?_) #[zt,zt,zt,zt,zt,zf,zt,zf,zf,zf,zf,zf,zf,zf,zf,zf,zf] rfl rfl (by kernel_rfl) (fun _ _ _ h=>h) (Or.inl ⟨by rfl,?_⟩) ?_ ?_;rotate_left
      ·intro w';go_simp;with_reducible rfl
      rotate_left
      ·simp only [Act.put,zq1,zq2,zq3,i64_w,i32_w];rfl
      refine pure_ (i:=7) (N:=some 92) (v:=?_) (a':=?_) #[zt,zt,zt,zt,zt,zf,zt,zt,zf,zf,zf,zf,zf,zf,zf,zf,zf] rfl rfl (by kernel_rfl) (fun _ _ _ h=>h) (Or.inl ⟨by rfl,?_⟩) ?_ ?_;rotate_left
      ·intro w';go_simp;with_reducible rfl
      rotate_left
      ·simp only [Act.put,zq1,zq2,zq3,i64_w,i32_w];rfl
      refine pure_ (i:=8) (N:=some 93) (v:=?_) (a':=?_) #[zt,zt,zt,zt,zt,zf,zt,zt,zt,zf,zf,zf,zf,zf,zf,zf,zf] rfl rfl (by kernel_rfl) (fun _ _ _ h=>h) (Or.inl ⟨by rfl,?_⟩) ?_ ?_;rotate_left
      ·intro w';go_simp;with_reducible rfl
      rotate_left
      ·simp only [Act.put,zq1,zq2,zq3,i64_w,i32_w];rfl
      refine pure_ (i:=10) (N:=some 95) (v:=?_) (a':=?_) #[zt,zt,zt,zt,zt,zf,zt,zt,zt,zf,zt,zf,zf,zf,zf,zf,zf] rfl rfl (by kernel_rfl) (fun _ _ _ h=>h) (Or.inl ⟨by rfl,?_⟩) ?_ ?_;rotate_left
      ·intro w';go_simp;with_reducible rfl
      rotate_left
      ·simp only [Act.put,zq1,zq2,zq3,i64_w,i32_w];rfl
      refine pure_ (i:=11) (N:=some 96) (v:=?_) (a':=?_) #[zt,zt,zt,zt,zt,zf,zt,zt,zt,zf,zt,zt,zf,zf,zf,zf,zf] rfl rfl (by kernel_rfl) (fun _ _ _ h=>h) (Or.inl ⟨by rfl,?_⟩) ?_ ?_;rotate_left
      ·intro w';go_simp;with_reducible rfl
      rotate_left
      ·simp only [Act.put,zq1,zq2,zq3,i64_w,i32_w];rfl
      refine take_ (i:=5) (N:=some 90) (v:=?_) (a':=?_) #[zt,zt,zt,zt,zt,zt,zt,zt,zt,zf,zt,zt,zf,zf,zf,zf,zf] rfl rfl (by kernel_rfl) (fun _ _ _ h=>h) (Or.inl ⟨by rfl,?_⟩) hHeld ?_ ?_;rotate_left
      ·rintro w' ⟨s0,s1,s2⟩;go_simp;with_reducible rfl
      rotate_left
      ·simp only [Act.put,zq1,zq2,zq3,i64_w,i32_w];rfl
      refine take_ (i:=9) (N:=some 94) (v:=?_) (a':=?_) #[zt,zt,zt,zt,zt,zt,zt,zt,zt,zt,zt,zt,zf,zf,zf,zf,zf] rfl rfl (by kernel_rfl) (fun _ _ _ h=>h) (Or.inl ⟨by rfl,?_⟩) hHeld ?_ ?_;rotate_left
      ·rintro w' ⟨s0,s1,s2⟩;go_simp;with_reducible rfl
      rotate_left
      ·simp only [Act.put,zq1,zq2,zq3,i64_w,i32_w];rfl
      refine pure_ (i:=12) (N:=some 97) (v:=?_) (a':=?_) #[zt,zt,zt,zt,zt,zt,zt,zt,zt,zt,zt,zt,zt,zf,zf,zf,zf] rfl rfl (by kernel_rfl) (fun _ _ _ h=>h) (Or.inl ⟨by rfl,?_⟩) ?_ ?_;rotate_left
      ·intro w';go_simp;with_reducible rfl
      rotate_left
      ·simp only [Act.put,zq1,zq2,zq3,i64_w,i32_w];rfl
      refine take_ (i:=13) (N:=some 98) (v:=?_) (a':=?_) #[zt,zt,zt,zt,zt,zt,zt,zt,zt,zt,zt,zt,zt,zt,zf,zf,zf] rfl rfl (by kernel_rfl) (fun _ _ _ h=>h) (Or.inl ⟨by rfl,?_⟩) hHeld ?_ ?_;rotate_left
      ·rintro w' ⟨s0,s1,s2⟩;go_simp;with_reducible rfl
      rotate_left
      ·simp only [Act.put,zq1,zq2,zq3,i64_w,i32_w];rfl
      refine pure_ (i:=14) (N:=some 99) (v:=?_) (a':=?_) #[zt,zt,zt,zt,zt,zt,zt,zt,zt,zt,zt,zt,zt,zt,zt,zf,zf] rfl rfl (by kernel_rfl) (fun _ _ _ h=>h) (Or.inl ⟨by rfl,?_⟩) ?_ ?_;rotate_left
      ·intro w';go_simp;with_reducible rfl
      rotate_left
      ·simp only [Act.put,zq1,zq2,zq3,i64_w,i32_w];rfl
      refine pure_ (i:=15) (N:=some 100) (v:=?_) (a':=?_) #[zt,zt,zt,zt,zt,zt,zt,zt,zt,zt,zt,zt,zt,zt,zt,zt,zf] rfl rfl (by kernel_rfl) (fun _ _ _ h=>h) (Or.inl ⟨by rfl,?_⟩) ?_ ?_;rotate_left
      ·intro w';go_simp;with_reducible rfl
      rotate_left
      ·simp only [Act.put,zq1,zq2,zq3,i64_w,i32_w];rfl
      refine pure_ (i:=16) (N:=some 13) (v:=?_) (a':=?_) #[zt,zt,zt,zt,zt,zt,zt,zt,zt,zt,zt,zt,zt,zt,zt,zt,zt] rfl rfl (by kernel_rfl) (fun _ _ _ h=>h) (Or.inl ⟨by rfl,?_⟩) ?_ ?_;rotate_left
      ·intro w';go_simp;with_reducible rfl
      rotate_left
      ·simp only [Act.put,zq1,zq2,zq3,i64_w,i32_w];rfl
      refine done_ (by kernel_rfl) ?_;clear hHeld;go_wp2
      go_roundw
      case rel=>exact ⟨jj+1,(cc == bb),rfl,by first|go_num|simp,⟨HJ.out⟩,⟨by rw [HTK.out,← hf.out];rfl⟩,⟨z12 hb5.out⟩⟩
      case measure=>have:=HJ.out;simp [intOf];omega
    ·have hd:decide ((jj:Int) < (nl.length:Int))=false:=decide_eq_false (by omega);have hd2:decide (jj < nl.length)=false:=decide_eq_false hlt;have hft:f=true:=by
      rw [hf.out,List.take_of_length_le (by omega)]
      simpa using HAB.out.1
     subst hft;have hka:=(HCELL.out wr _ hints).1;have hat:(a == t)=false:=(by simpa using HAB.out.2);have HG7:=Aside0.mk (HG6.out.below hb5.out);have HR7:=Aside0.mk (HR6.out.below hb5.out);have HB7:=Aside0.mk (z0x HB6.out HB6.out.size hb5.out);clear hlt hkk hnn hjn hints;go_wp2
     go_roundw
     case rel=>exact ⟨k+1,by first|go_num|simp,⟨HKQ.out.1⟩,HG7,HR7,HB7⟩
     case measure=>have:=HKQ.out.1;simp [intOf];omega
end Go.Proofs.YtcbnhfnnjkkceaaGreat.X
end
section
namespace Go.Proofs.YtcbnhfnnjkkceaaGreat.routeGoes
open Go.ChangeShapes Go.WideShapes Go.ChangeAt Go.RowKit
theorem own:ownKnob Tryz.prog.godebug=none:=by kernel_rfl
theorem laidOut:laidOutB Tryz.prog=true:=by kernel_rfl
theorem lifted (os:Os) (started:os.Started) (H:Type) (enc:TypeId × Value→H) :
  ReturnsInHanded {} Tryz.checked os 10 .any (Rows.routeGoesSpec.pre6 enc Tryz.prog Tryz.f10 Rows.routeGoesRow.domain false) (Rows.routeGoesSpec.post enc Tryz.prog Tryz.f10 false true false false):=by
 refine returnsInHanded_of_change_sized (C:=Tryz.checked) own started (by kernel_rfl) Tryz.func10
  (ChangeSpec.witness6 (enc:=enc) (C:=Tryz.checked) false ⟨#[],#[.agg #[.int .i64 0,.int .i64 0,.int .i64 0,.slice none 0 0,.slice none 0 0,.slice none 0 0],.int .i64 0,.int .i64 0],[]⟩ 8 (by kernel_rfl) (by kernel_rfl) (by kernel_rfl) (by kernel_rfl)) ?_
 intro W base args ds gs before hval0 hW hcnd hsz0 _;have hsz:(DataW.weightsEach Tryz.prog (Tryz.f10.params.toList ++ Rows.routeGoesSpec.plain.varTypes Tryz.prog) (ds ++ gs)).all (·≤reachBytes)=true:=hsz0;have hval:∀ (j:Nat) t v,Tryz.f10.params[j]?=some t→args[j]?=some v→Value.okWide Tryz.prog W .any base t v:=hval0;have hW':=hW;obtain ⟨p,q,hA0,hV,rfl,hfz,hnd⟩:=hW;have hA:DataW.TrodAll enc Tryz.prog W 0 (fun _=>true) true Tryz.f10.params.toList args.toList ds p:=hA0;rw [Tryz.params10] at hA hval hsz;obtain ⟨v0,vs0,d0,ds0,p0,q0,hargs,rfl,rfl,h0,r0⟩:=trodAll_cons hA;obtain ⟨v1,vs1,d1,ds1,p1,q1,rfl,rfl,rfl,h1,r1⟩:=trodAll_cons r0;obtain ⟨v2,vs2,d2,ds2,p2,q2,rfl,rfl,rfl,h2,r2⟩:=trodAll_cons r1;obtain ⟨rfl,rfl,rfl⟩:=trodAll_nil r2;obtain rfl:args=#[v0,v1,v2]:=by cases args;simp_all
 obtain ⟨rfl,rfl⟩:=trodVars_none hV;have k0:=h0;have lt0:∀ x ∈ p0,x.block < W.heap.size:=by obtain ⟨m,hm⟩:=k0;exact DataW.trod_lt m _ _ _ hm
 obtain ⟨im0,A3_0,c3_0,A4_0,c4_0,A5_0,c5_0,rfl,hr3_0,hc3_0,hr4_0,hc4_0,hr5_0,hc5_0,hw0⟩:=X.open_image (hval 0 26 v0 rfl rfl) h0;obtain ⟨a1,rfl,rfl,rfl,w1⟩:=open_int Tryz.underlying3 (hval 1 3 v1 rfl rfl) h1;obtain ⟨a2,rfl,rfl,rfl,w2⟩:=open_int Tryz.underlying3 (hval 2 3 v2 rfl rfl) h2;clear hA0 hval0 hsz0 hsz;refine (X.routeGoes_law im0 A3_0 c3_0 A4_0 c4_0 A5_0 c5_0 a1 a2 W hr3_0 hc3_0 hr4_0 hc4_0 hr5_0 hc5_0 hw0 w1 w2).mono fun e W' ⟨he,bel⟩=>?_
 subst he;exact ⟨_,rfl,_,_,_,[],_,[],hW',trodAll_mk1 (shut_bool Tryz.underlying4 _),(trodAll_cons_mk (Below.trod laidOut (by kernel_rfl) (of_decide_eq_true (by kernel_rfl)) k0 bel lt0) (trodAll_cons_mk (shut_int Tryz.underlying3 w1) (trodAll_cons_mk (shut_int Tryz.underlying3 w2) trodAll_mk0))),rfl,bel.frame _,fun h=>by cases h⟩
theorem over:Rows.routeGoesRow.holds Tryz.pinned (OpenSpec.ofChange Rows.routeGoesSpec) :=
 OpenClaim.holds_of_wide 10 Tryz.f10 rfl rfl rfl rfl rfl rfl rfl ⟨rfl,rfl,rfl,rfl,rfl⟩ rfl rfl rfl rfl rfl (by kernel_rfl) Tryz.func10 (by kernel_rfl)
  (of_decide_eq_true (by kernel_rfl)) (by unfold Func.isWrapper;first|(rw [if_pos (by decide +kernel)];kernel_rfl)|(rw [if_neg (by decide +kernel)];exact ⟨rfl,rfl⟩))
  (fun os started H enc _=>lifted os started H enc)
theorem proved:Rows.RouteGoesSaid:=over
#print axioms proved
end Go.Proofs.YtcbnhfnnjkkceaaGreat.routeGoes
namespace Go.Proofs.YtcbnhfnnjkkceaaGreat
theorem routeGoes_holds:Rows.RouteGoesSaid:=routeGoes.proved
end Go.Proofs.YtcbnhfnnjkkceaaGreat
end
