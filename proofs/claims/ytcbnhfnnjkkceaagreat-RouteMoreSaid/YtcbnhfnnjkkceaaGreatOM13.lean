/- For the statement of the row : what its proof needs of the text M13. -/
import Derived.Test.YtcbnhfnnjkkceaaGreatRows
import Derived.WalkKit
import Derived.ProofKit
import Derived.OpenShut
import Derived.ShutString
import Derived.ChangeOld
import Derived.Below
import Derived.SizedLaws
import Derived.Test.YtcbnhfnnjkkceaaGreatOM1
import Derived.Test.YtcbnhfnnjkkceaaGreatOM2
import Derived.Test.YtcbnhfnnjkkceaaGreatOM3
import Derived.Test.YtcbnhfnnjkkceaaGreatOM4
import Derived.Test.YtcbnhfnnjkkceaaGreatOM5
import Derived.Test.YtcbnhfnnjkkceaaGreatOM7
import Derived.Test.YtcbnhfnnjkkceaaGreatOM8
import Derived.Test.YtcbnhfnnjkkceaaGreatOM9
import Derived.Test.YtcbnhfnnjkkceaaGreatOM10
import Derived.Test.YtcbnhfnnjkkceaaGreatOM11
import Derived.Test.YtcbnhfnnjkkceaaGreatOM12
set_option maxHeartbeats 8000000
set_option maxRecDepth 100000
set_option linter.unusedSimpArgs false
set_option linter.unusedVariables false

section
namespace Go.Proofs.YtcbnhfnnjkkceaaGreat.X
open Go.RowKit Go.Proofs.YtcbnhfnnjkkceaaGreatW.PrintWords Go.Proofs.YtcbnhfnnjkkceaaGreatW.PrintLast Go.Proofs.YtcbnhfnnjkkceaaGreatW.PrintMore Go.Proofs.YtcbnhfnnjkkceaaGreat.Gr
theorem more_same {p:Im} {t steps:Int} {a b:Nat} (ha:(queW p t steps a).length≤a) (hb:(queW p t steps b).length≤b):queW p t steps a=queW p t steps b:=by
 rcases Nat.le_total a b with h|h
 ·exact (que_done ha h).symm
 ·exact que_done hb h
def Cnt (p:Im) (t steps:Int) (ys:List Wy):Prop:=Gone p t steps ys∧(((ys.length:Int)≤200∧(queW p t steps ys.length).length≤ys.length)∨(ys.length:Int)=200+1)
theorem more_le {p:Im} {t steps:Int} (h1:0≤p.f1) (hs:0≤steps) {ys zs:List Wy} (hy:Cnt p t steps ys) (hz:Cnt p t (steps+1) zs):ys.length≤zs.length:=by
 rcases hz.2 with ⟨h2,d2⟩|h2
 ·refine Nat.le_of_not_lt fun hlt=>?_
  obtain ⟨k,hk⟩:∃ k,ys.length=k+1:=⟨ys.length - 1,by omega⟩;have hg:=hy.1 k _ (List.getElem?_eq_getElem (by omega));have hl1:=(List.getElem?_eq_some_iff.1 hg).1;have e:=que_done d2 (m:=k) (by omega);have hp:=(queR_more (p:=p) (t:=t) hs k).length_le;rw [← que_rows h1,← que_rows h1,List.length_map,List.length_map,e] at hp;omega
 ·rcases hy.2 with ⟨h3,_⟩|h3 <;> omega
theorem more_all {p:Im} {t steps:Int} {ys zs:List Wy} {ls:List (List Int)} (hy:Cnt p t steps ys) (hn:ys.length≤200) (hg:Gone p t steps zs)
  (hc:((zs.length:Int)≤200∧(queW p t steps zs.length).length≤zs.length∧ls.Perm (zs.map Wy.path)∧UpR ls)∨((zs.length:Int)=200+1∧ls=[])):ls.length=ys.length:=by
 have d1:(queW p t steps ys.length).length≤ys.length:=by
  rcases hy.2 with h|h
  ·exact h.2
  ·omega
 rcases hc with ⟨h1,d2,h3,_⟩|⟨h1,_⟩
 ·have e:=more_same d1 d2;rw [h3.length_eq,List.length_map];have a:=congrArg List.length (hy.1.all d1);have b:=congrArg List.length (hg.all d2);rw [e] at a;omega
 ·exfalso
  have h4:=hg 200 _ (List.getElem?_eq_getElem (by omega));rw [que_done d1 (by omega)] at h4;have:=(List.getElem?_eq_some_iff.1 h4).1;omega
theorem one_long {p:Im} {t steps:Int} (hs:0≤steps) (k:Nat):(queR p t steps k).countP (fun l=>l.length == 1)≤1:=by
 induction k with
 | zero =>
  unfold queR
  split
  ·exact Nat.le_trans (List.countP_le_length) (Nat.le_refl _)
  ·simp
 | succ k ih =>
  rw [z2x,List.countP_append];refine Nat.le_trans (Nat.add_le_add_left (Nat.le_of_eq (List.countP_eq_zero.2 fun m hm=>?_)) _) ih;cases hl:(queR p t steps k)[k]? with
  | none=>rw [hl] at hm;cases hm
  | some l =>
   rw [hl] at hm;simp only at hm
   split at hm
   ·cases hm
   ·have h1:=backsR_len hm;have h2:=List.length_pos_iff.2 (queR_len hs k l (List.mem_of_getElem? hl)).1;simp only [beq_iff_eq];omega
def MoreOk (steps:Int) (ls:List (List Int)) (i:Nat):Prop :=
 ∃ a m,ls[i]?=some (a :: m)∧m≠[]∧(m.length:Int)≤steps∧(∃ k,k < i∧ls[k]?=some m)∧∃ l',ls[i - 1]?=some l'∧l'.length≤m.length+1
theorem up_at {ls:List (List Int)} (h:UpR ls) {i j:Nat} {a b:List Int} (hij:i < j) (ha:ls[i]?=some a) (hb:ls[j]?=some b):befB b a=false:=by
 obtain ⟨h1,rfl⟩:=List.getElem?_eq_some_iff.1 ha;obtain ⟨h2,rfl⟩:=List.getElem?_eq_some_iff.1 hb;exact List.pairwise_iff_getElem.1 h i j h1 h2 hij
theorem bef_len {a b:List Int} (h:befB b a=false):a.length≤b.length:=by
 unfold befB at h
 split at h
 ·omega
 ·have:=of_decide_eq_false h;omega
theorem more_rows {p:Im} {t steps:Int} (h1:0≤p.f1) (hs:0≤steps) {zs:List Wy} {ls:List (List Int)} (hg:Gone p t steps zs)
  (hc:((zs.length:Int)≤200∧(queW p t steps zs.length).length≤zs.length∧ls.Perm (zs.map Wy.path)∧UpR ls)∨((zs.length:Int)=200+1∧ls=[])) :
  ls.length≤200∧(∀ l ∈ ls,(l.length:Int)≤steps+1)∧∀ i,1≤i→i < ls.length→MoreOk steps ls i:=by
 rcases hc with ⟨hl,hd,hp,hu⟩|⟨_,rfl⟩
 ·have e:zs.map Wy.path=queR p t steps zs.length:=by rw [← que_rows h1,← hg.all hd]
  rw [e] at hp;have hll:ls.length≤200:=by
   have:=hp.length_eq;rw [← e,List.length_map] at this;omega
  refine ⟨hll,fun l hl=>(queR_len hs _ l (hp.mem_iff.1 hl)).2,fun i hi hil=>?_⟩;have hli:=List.getElem?_eq_getElem hil;obtain ⟨li,hli⟩:∃ li,ls[i]?=some li:=⟨_,hli⟩;have hm:=hp.mem_iff.1 (List.mem_of_getElem? hli);obtain ⟨lp,hlp⟩:∃ lp,ls[i - 1]?=some lp:=⟨_,List.getElem?_eq_getElem (by omega)⟩
  rcases queR_tail zs.length li hm with h|⟨a,m,h,hmm,_⟩
  ·exfalso
   obtain ⟨l0,r,hr⟩:∃ l0 r,ls=l0 :: r:=by
    cases ls with
    | nil=>simp at hil
    | cons l0 r=>exact ⟨l0,r,rfl⟩
   have h0:ls[0]?=some l0:=by rw [hr];rfl
   have hb:=bef_len (up_at hu hi h0 hli);have hn:=List.length_pos_iff.2 (queR_len hs _ l0 (hp.mem_iff.1 (List.mem_of_getElem? h0))).1;have hc:=one_long (p:=p) (t:=t) hs zs.length;rw [← hp.countP_eq,hr,List.countP_cons] at hc;subst h;have hl0:l0.length=1:=by simp at hb;omega
   have hmr:[t] ∈ r:=by
    rw [hr] at hli;obtain ⟨j,rfl⟩:∃ j,i=j+1:=⟨i - 1,by omega⟩;rw [List.getElem?_cons_succ] at hli;exact List.mem_of_getElem? hli
   have hpos:0 < List.countP (fun l:List Int=>l.length == 1) r:=List.countP_pos_iff.2 ⟨[t],hmr,rfl⟩;rw [hl0] at hc;simp at hc;simp at hpos;obtain ⟨z,hz,hz2⟩:=hpos;exact hc z hz hz2
  ·subst h;obtain ⟨k,hk⟩:=List.mem_iff_getElem?.1 (hp.mem_iff.2 hmm);have hki:k < i:=by
    rcases Nat.lt_trichotomy k i with h|h|h
    ·exact h
    ·exfalso
     rw [h,hli] at hk;have:=congrArg List.length (Option.some.inj hk);simp at this
    ·exfalso
     have:=bef_len (up_at hu h hli hk);simp only [List.length_cons] at this;omega
   have hlen:=(queR_len hs _ _ hm).2;refine ⟨a,m,hli,(queR_len hs _ m hmm).1,by simp at hlen;omega,⟨k,hki,hk⟩,lp,hlp,?_⟩;have:=bef_len (up_at hu (by omega) hlp hli)
   simpa using this
 ·exact ⟨by simp,fun l h=>by (cases h),fun i _ h=>by simp at h⟩
theorem routeMore_law (p:Im) (A3:Option Addr) (c3:Nat) (A4:Option Addr) (c4:Nat) (A5:Option Addr) (c5:Nat) (t:Int) (steps:Int) (w:World)
  (hr3:Kd.C (Kd.int .u8) w A3 p.f3.length p.f3) (hc3:p.f3.length≤c3) (hr4:Kd.C (Kd.int .i64) w A4 p.f4.length p.f4) (hc4:p.f4.length≤c4) (hr5:Kd.C k79 w A5 p.f5.length p.f5) (hc5:p.f5.length≤c5)
  (hw:wfP p) (hwt:Gr.wfI t) (hwsteps:Gr.wfI steps) :
  Calls Tryz.prog 9 #[.agg #[.int .i64 p.f0,.int .i64 p.f1,.int .i64 p.f2,.slice A3 p.f3.length c3,.slice A4 p.f4.length c4,.slice A5 p.f5.length c5],.int .i64 t,.int .i64 steps] w fun e w'=>e=.returned (.bool true)∧Below w.heap.size w w':=by
 have hb1:=z04 (Below.refl w.heap.size w) (Obj.cells #[.int .i64 p.f0,.int .i64 p.f1,.int .i64 p.f2,.slice A3 p.f3.length c3,.slice A4 p.f4.length c4,.slice A5 p.f5.length c5] 26);have BX1:=Aside0.mk (z14 w (Obj.cells #[.int .i64 p.f0,.int .i64 p.f1,.int .i64 p.f2,.slice A3 p.f3.length c3,.slice A4 p.f4.length c4,.slice A5 p.f5.length c5] 26));have HS1:Aside0 ((w.alloc (Obj.cells #[.int .i64 p.f0,.int .i64 p.f1,.int .i64 p.f2,.slice A3 p.f3.length c3,.slice A4 p.f4.length c4,.slice A5 p.f5.length c5] 26)).heap.size=w.heap.size+1):=⟨by show (w.heap.push _).size=_;simp⟩;have HR3:=Aside0.mk hr3;have HR4:=Aside0.mk hr4;have HR5:=Aside0.mk hr5;have HB1:=Aside0.mk hb1;clear hr3 hr4 hr5 hb1;have HAW:=Aside0.mk (awake22_calls (w.alloc (Obj.cells #[.int .i64 p.f0,.int .i64 p.f1,.int .i64 p.f2,.slice A3 p.f3.length c3,.slice A4 p.f4.length c4,.slice A5 p.f5.length c5] 26)))
 go_enter Tryz.func9,Tryz.ntmps9
 go_wp2_with fail
 generalize w.alloc (Obj.cells #[.int .i64 p.f0,.int .i64 p.f1,.int .i64 p.f2,.slice A3 p.f3.length c3,.slice A4 p.f4.length c4,.slice A5 p.f5.length c5] 26)=W1 at BX1 HS1 HB1 HAW ⊢;refine HAW.out.mono ?_;rintro e w2 ⟨rfl,hB⟩;have HBw:=Aside0.mk (z0x HB1.out HB1.out.size hB);have HB1':=Aside0.mk hB;have hbk:=(hB.block w.heap.size (by rw [HS1.out];omega)).trans BX1.out;have BX2:=Aside0.mk hbk;have k0:=z01 hbk 0;have k1:=z01 hbk 1;have k2:=z01 hbk 2;have k3:=z01 hbk 3;have k4:=z01 hbk 4;have k5:=z01 hbk 5;have HMD:=Aside0.mk (made22_calls p A3 c3 A4 c4 A5 c5 w2 (Kd.C_below HR3.out HBw.out) hc3 (Kd.C_below HR4.out HBw.out) hc4 (Kd.C_below HR5.out HBw.out) hc5 hw);clear hB hbk HAW BX1
 go_wp2_with fail
 refine HMD.out.mono ?_;rintro e w3 (⟨rfl,hB,_⟩|⟨g,BB,rfl,hg0,hG,hB,h0,hla,h5,h3,h4⟩)
 ·have HBn:=Aside0.mk (z0x HBw.out HBw.out.size hB);clear HBw HB1' hB HMD k0 k1 k2 k3 k4 k5 BX2;go_wp2;go_ret
  exact ⟨rfl,HBn.out⟩
 have HLG:Aside0 (w.heap.size < g):=⟨by have:=HB1'.out.size;have:=HS1.out;omega⟩;have HBn:=Aside0.mk (z0x HBw.out HBw.out.size hB);have HG:=Aside0.mk (GrY.of_gr hG);have HRT:=Aside0.mk (encV_rt hw h0);have HZ:=Aside0.mk (And.intro h0 hla);have HL:=Aside0.mk (And.intro h3 (And.intro h4 h5));have HST:Aside0 (0≤p.f1∧p.f1≤1000000):=⟨by have:=(z2w.1 h0).1;unfold z2h at this;omega⟩;have BX3:=Aside0.mk (z0h BX2.out hB);clear HBw HB1' hB hG hg0 h0 hla h5 h3 h4 HMD k0 k1 k2 k3 k4 k5 BX2 HB1;have HB3:=HBn;clear HBn
 by_cases hst:steps < 0
 ·have hd:decide (steps < 0)=true:=decide_eq_true hst;clear hst;go_wp2;go_ret
  exact ⟨rfl,HB3.out⟩
 have hd0:decide (steps < 0)=false:=decide_eq_false hst
 by_cases hst2:steps > 20
 ·have hd:decide (steps > 20)=true:=decide_eq_true hst2;have hd2:decide (20 < steps)=true:=decide_eq_true hst2;clear hst hst2;go_wp2;go_ret
  exact ⟨rfl,HB3.out⟩
 have hd1:decide (steps > 20)=false:=decide_eq_false hst2;have hd2:decide (20 < steps)=false:=decide_eq_false hst2;have hws:IntKind.i64.wrap (steps+1)=steps+1:=IntWalk.i64_in _ (by omega);have HSS:Aside0 (0≤steps∧steps≤20):=⟨by omega⟩;clear hst hst2;have HC1:=Aside0.mk (count_calls HRT.out HL.out.1 HL.out.2.1 (Nat.le_trans HL.out.2.2 (by decide)) HG.out t steps 200 (by omega));have HS3:Aside0 (g < w3.heap.size):=⟨HG.out.gr.lt⟩
 go_wp2_with fail
 refine HC1.out.mono ?_;rintro e w4 ⟨ys1,rfl,hgn,hcs,hgy,hF⟩;rw [show max (200:Int) 0=200 by decide] at hcs;have HY1:Aside0 (Cnt p t steps ys1):=⟨⟨hgn,hcs⟩⟩;have HG4:=Aside0.mk hgy;have HB4:=Aside0.mk (fr_below hF HB3.out HB3.out.size (Nat.le_of_lt HLG.out));clear hgn hcs hgy hF HC1;have HC2:=Aside0.mk (count_calls HRT.out HL.out.1 HL.out.2.1 (Nat.le_trans HL.out.2.2 (by decide)) HG4.out t (steps+1) 200 (by omega))
 go_wp2_with fail
 refine HC2.out.mono ?_;rintro e w5 ⟨ys2,rfl,hgn,hcs,hgy,hF⟩;rw [show max (200:Int) 0=200 by decide] at hcs;have HY2:Aside0 (Cnt p t (steps+1) ys2):=⟨⟨hgn,hcs⟩⟩;have HG5:=Aside0.mk hgy;have HB5:=Aside0.mk (fr_below hF HB4.out HB4.out.size (Nat.le_of_lt HLG.out));clear hgn hcs hgy hF HC2 HG4 HB4;have HA:=Aside0.mk (all_calls HRT.out HL.out.1 HL.out.2.1 (Nat.le_trans HL.out.2.2 (by decide)) HG5.out t steps 200 (by omega))
 go_wp2_with fail
 refine HA.out.mono ?_;rintro e w6 ⟨v,ls,ys,rfl,hR,hgn,hcs,hgy,hF⟩;rw [show max (200:Int) 0=200 by decide] at hcs;have HOK:=Aside0.mk (more_rows HST.out.1 HSS.out.1 hgn hcs);have HEQ:Aside0 (ys1.length≤200→ls.length=ys1.length):=⟨fun h=>more_all HY1.out h hgn hcs⟩;obtain ⟨av,cv,rfl,hcv,_⟩:=hR.c;have HR4:=Aside0.mk hR;have HB6:=Aside0.mk (fr_below hF HB5.out HB5.out.size (Nat.le_of_lt HLG.out));have hle:=more_le HST.out.1 HSS.out.1 HY1.out HY2.out;have hmn:decide ((ys2.length:Int) < (ys1.length:Int))=false:=decide_eq_false (by omega);have hmn2:decide (ys2.length < ys1.length)=false:=decide_eq_false (by omega);clear hR hgn hcs hgy hF HA BX3 HB3 HG HG5 HB5 hle hd0 hd1 hd2;obtain ⟨n2,hn2⟩:∃ n2,decide ((ys1.length:Int)≤200)=n2:=⟨_,rfl⟩;have hn3:decide (ys1.length≤200)=n2:=by rw [← hn2];simp;omega
 cases n2
 case' true=>have hne:((ls.length:Int) != (ys1.length:Int))=false:=by rw [HEQ.out (by have:=of_decide_eq_true hn3;omega)];simp
 case' true=>have hne2:(ls.length != ys1.length)=false:=by rw [HEQ.out (by have:=of_decide_eq_true hn3;omega)];simp
 all_goals
  go_wp2;clear hmn hmn2 hn2 hn3;try clear hne hne2
  go_loopw [12] (fun v12 wr=>∃ i:Nat,v12=.int .i64 i∧Aside0 (1≤i∧(i≤ls.length∨i=1))∧Aside0 (z2u wr w5.heap.size (.slice av ls.length cv) ls)∧Aside0 (Below w.heap.size w wr)) (fun v _=>ls.length - (intOf v).toNat)
  case atStart=>exact ⟨1,rfl,⟨Nat.le_refl _,.inr rfl⟩,HR4,HB6⟩
  case round =>
   clear HR4 HB6;obtain ⟨i,rfl,hi,hr,hb⟩:=hrel;have hil:=hi.out;have hln:=HOK.out.1
   by_cases hlt:i < ls.length
   rotate_left
   ·have hd:decide ((i:Int) < (ls.length:Int))=false:=decide_eq_false (by omega);have hd2:decide (i < ls.length)=false:=decide_eq_false hlt;clear hlt hil hln;go_wp2;go_ret
    exact ⟨rfl,hb.out⟩
   have hd:decide ((i:Int) < (ls.length:Int))=true:=decide_eq_true (by omega);have hd2:decide (i < ls.length)=true:=decide_eq_true hlt;obtain ⟨a,m,hli,hmne,hml,hex,lp,hlp,hlpl⟩:=HOK.out.2.2 i hil.1 hlt;have HEX:=Aside0.mk hex;have HLI:=Aside0.mk hli;have HLP:=Aside0.mk (And.intro hlp hlpl);have HM:Aside0 (0 < m.length∧(m.length:Int)≤steps):=⟨⟨List.length_pos_iff.2 hmne,hml⟩⟩;have HLT:=Aside0.mk (And.intro hlt (And.intro hln hil.1));have ROW:∀ W,z2u W w5.heap.size (.slice av ls.length cv) ls→∃ ad,av=some ad∧∀ k l,ls[k]?=some l→∃ ai ci,W.cell? (ad.add k)=some (.slice ai l.length ci)∧l.length≤ci∧(Kd.int .i64).C W ai l.length l:=fun W hW=>by
    obtain ⟨A,c,e,_,hC⟩:=hW.c;cases e;obtain ⟨ad,A0,c0,e,_⟩:=at_L7 hC (0:Int) (by omega) (by omega);refine ⟨ad,e,fun k l hk=>?_⟩;have hkl:=(List.getElem?_eq_some_iff.1 hk).1;obtain ⟨ad2,A1,c1,e2,h1,h2,h3⟩:=at_L7 hC (k:Int) (by omega) (by omega);rw [e] at e2;cases e2;rw [Int.toNat_natCast] at h1;rw [rdL_at hk] at h1 h2 h3;exact ⟨A1,c1,h1,h2,h3⟩
   obtain ⟨ad,ead,_⟩:=ROW wr hr.out;subst ead;have HROW:Aside0 (∀ W,z2u W w5.heap.size (.slice (some ad) ls.length cv) ls→∀ k l,ls[k]?=some l→∃ ai ci,W.cell? (ad.add k)=some (.slice ai l.length ci)∧l.length≤ci∧(Kd.int .i64).C W ai l.length l):=⟨fun W hW=>by
    obtain ⟨ad2,e,h⟩:=ROW W hW;cases e;exact h⟩
   clear hlt hil hln hli hmne hml hex hlp hlpl ROW;go_wp2;have hr0:=hr;have hb0:=hb;clear hr hb
   go_loopw [13,14] (fun v13 v14 wr2=>∃ (k:Nat) (f:Bool),v13=.bool f∧v14=.int .i64 k∧Aside0 (k≤i)∧Aside0 (f=(ls.take k).contains m)∧Aside0 (z2u wr2 w5.heap.size (.slice (some ad) ls.length cv) ls)∧Aside0 (Below w.heap.size w wr2)) (fun _ v14 _=>i - (intOf v14).toNat)
   case atStart=>exact ⟨0,false,rfl,rfl,⟨Nat.zero_le _⟩,⟨by simp⟩,hr0,hb0⟩
   case round =>
    clear hr0 hb0;obtain ⟨k,f,rfl,rfl,hk,hf,hr,hb⟩:=hrel;have hki:=hk.out;have hln:=HLT.out
    by_cases hlt:k < i
    ·have hd:decide ((k:Int) < (i:Int))=true:=decide_eq_true (by omega); have hd2:decide (k < i)=true:=decide_eq_true hlt; have hwk:IntKind.i64.wrap ((k:Int)+1)=(k:Int)+1:=IntWalk.i64_in _ (by omega); obtain ⟨lk,hlk⟩:∃ lk,ls[k]?=some lk:=⟨_,List.getElem?_eq_getElem (by omega)⟩; have htk:(ls.take (k+1)).contains m=((ls.take k).contains m || (lk == m)):=by
      rw [List.take_add_one,hlk]
      by_cases e:lk=m
      ·subst e;simp
      ·have e2:¬ m=lk:=fun h=>e h.symm
       simp [e,e2]
     have HTK:=Aside0.mk htk;have HJ:=Aside0.mk hlt;have hp0:(0≤(i:Int))=True:=eq_true (by omega);have hp1:((i:Int) < (ls.length:Int))=True:=eq_true (by omega);have hp2:(i < ls.length)=True:=eq_true (by omega);have hj0:(0≤(k:Int))=True:=eq_true (by omega);have hj1:((k:Int) < (ls.length:Int))=True:=eq_true (by omega);have hj2:(k < ls.length)=True:=eq_true (by omega);obtain ⟨Ai,ci,hri,hci,hCi⟩:=HROW.out wr hr.out (i) _ HLI.out;obtain ⟨Ak,ck,hrk,hck,hCk⟩:=HROW.out wr hr.out k _ hlk;have hm0:=HM.out;have hss:=HSS.out;have hlk2:=HOK.out.2.1 lk (List.mem_of_getElem? hlk);obtain ⟨ai,eai,_⟩:=Kd.at_int hCi (0:Int) (by omega) (by simp);subst eai;have hCm:(Kd.int .i64).C wr (some (ai.add 1)) m.length m:=by
      have h:=Kd.C_drop (m:=1) hCi (by simp) hci;rw [if_neg (by simp at hci;omega)] at h;exact h
     obtain ⟨q,hq⟩:∃ q,m.length=q:=⟨_,rfl⟩;rw [List.length_cons,hq] at hri hci;rw [hq] at hm0;have hgt:decide (((q:Int)+1) > 1)=true:=decide_eq_true (by omega);have hgt2:decide (1 < (q:Int)+1)=true:=decide_eq_true (by omega);have hgt3:decide (1 < q+1)=true:=decide_eq_true (by omega);have hgt4:decide (0 < q)=true:=decide_eq_true (by omega);have hgt5:decide (0 < (q:Int))=true:=decide_eq_true (by omega);have hs0:(1≤q+1)=True:=eq_true (by omega);have hs4:(1≤(q:Int)+1)=True:=eq_true (by omega);have hs1:(q+1≤ci)=True:=eq_true (by omega);have hs2:(1≤ci)=True:=eq_true (by omega);have hs3:(ci=1)=False:=eq_false (by omega);have HQ:=Aside0.mk hq;cases f with
     | true =>
      go_upto_region 17 with (fail)
      refine z27 (n:=22) (S:=fun w'=>w'.cell? (ad.add i)=some (.slice (some ai) (q+1) ci)) (ds:=[]) #[zf,zf,zf,zf,zf,zf,zf,zf,zf,zf,zf,zf,zf,zf,zf,zf,zf,zf,zf,zf,zf,zf] (by kernel_rfl) rfl rfl (hri) (fun hHeld=>?_);refine pure_ (i:=0) (N:=some 69) (v:=?_) (a':=?_) #[zt,zf,zf,zf,zf,zf,zf,zf,zf,zf,zf,zf,zf,zf,zf,zf,zf,zf,zf,zf,zf,zf] rfl rfl (by kernel_rfl) (fun _ _ _ h=>h) (Or.inl ⟨by rfl,?_⟩) ?_ ?_;rotate_left
      ·intro w';go_simp;with_reducible rfl
      rotate_left
      ·simp only [Act.put,zq1,zq2,zq3,i64_w,i32_w];rfl
      refine pure_ (i:=1) (N:=some 70) (v:=?_) (a':=?_) #[zt,zt,zf,zf,zf,zf,zf,zf,zf,zf,zf,zf,zf,zf,zf,zf,zf,zf,zf,zf,zf,zf] rfl rfl (by kernel_rfl) (fun _ _ _ h=>h) (Or.inl ⟨by rfl,?_⟩) ?_ ?_;rotate_left
      ·intro w';go_simp;with_reducible rfl
      rotate_left
      ·simp only [Act.put,zq1,zq2,zq3,i64_w,i32_w];rfl
      refine pure_ (i:=2) (N:=some 71) (v:=undef) (a':=?_) #[zt,zt,zt,zf,zf,zf,zf,zf,zf,zf,zf,zf,zf,zf,zf,zf,zf,zf,zf,zf,zf,zf] rfl rfl (by kernel_rfl) (fun _ _ _ h=>h) (Or.inr ⟨by rfl,rfl⟩) ?_ ?_;rotate_left
      ·simp only [Act.put,zq1,zq2,zq3,i64_w,i32_w];rfl
      refine pure_ (i:=3) (N:=some 72) (v:=undef) (a':=?_) #[zt,zt,zt,zt,zf,zf,zf,zf,zf,zf,zf,zf,zf,zf,zf,zf,zf,zf,zf,zf,zf,zf] rfl rfl (by kernel_rfl) (fun _ _ _ h=>h) (Or.inr ⟨by rfl,rfl⟩) ?_ ?_;rotate_left
      ·simp only [Act.put,zq1,zq2,zq3,i64_w,i32_w];rfl
      refine pure_ (i:=4) (N:=some 73) (v:=undef) (a':=?_) #[zt,zt,zt,zt,zt,zf,zf,zf,zf,zf,zf,zf,zf,zf,zf,zf,zf,zf,zf,zf,zf,zf] rfl rfl (by kernel_rfl) (fun _ _ _ h=>h) (Or.inr ⟨by rfl,rfl⟩) ?_ ?_;rotate_left
      ·simp only [Act.put,zq1,zq2,zq3,i64_w,i32_w];rfl
      refine pure_ (i:=5) (N:=some 74) (v:=undef) (a':=?_) #[zt,zt,zt,zt,zt,zt,zf,zf,zf,zf,zf,zf,zf,zf,zf,zf,zf,zf,zf,zf,zf,zf] rfl rfl (by kernel_rfl) (fun _ _ _ h=>h) (Or.inr ⟨by rfl,rfl⟩) ?_ ?_;rotate_left
      ·simp only [Act.put,zq1,zq2,zq3,i64_w,i32_w];rfl
      refine pure_ (i:=6) (N:=some 75) (v:=undef) (a':=?_) #[zt,zt,zt,zt,zt,zt,zt,zf,zf,zf,zf,zf,zf,zf,zf,zf,zf,zf,zf,zf,zf,zf] rfl rfl (by kernel_rfl) (fun _ _ _ h=>h) (Or.inr ⟨by rfl,rfl⟩) ?_ ?_;rotate_left
      ·simp only [Act.put,zq1,zq2,zq3,i64_w,i32_w];rfl
      refine pure_ (i:=7) (N:=some 76) (v:=undef) (a':=?_) #[zt,zt,zt,zt,zt,zt,zt,zt,zf,zf,zf,zf,zf,zf,zf,zf,zf,zf,zf,zf,zf,zf] rfl rfl (by kernel_rfl) (fun _ _ _ h=>h) (Or.inr ⟨by rfl,rfl⟩) ?_ ?_;rotate_left
      ·simp only [Act.put,zq1,zq2,zq3,i64_w,i32_w];rfl
      refine pure_ (i:=8) (N:=some 77) (v:=undef) (a':=?_) #[zt,zt,zt,zt,zt,zt,zt,zt,zt,zf,zf,zf,zf,zf,zf,zf,zf,zf,zf,zf,zf,zf] rfl rfl (by kernel_rfl) (fun _ _ _ h=>h) (Or.inr ⟨by rfl,rfl⟩) ?_ ?_;rotate_left
      ·simp only [Act.put,zq1,zq2,zq3,i64_w,i32_w];rfl
      refine pure_ (i:=9) (N:=some 78) (v:=undef) (a':=?_) #[zt,zt,zt,zt,zt,zt,zt,zt,zt,zt,zf,zf,zf,zf,zf,zf,zf,zf,zf,zf,zf,zf] rfl rfl (by kernel_rfl) (fun _ _ _ h=>h) (Or.inr ⟨by rfl,rfl⟩) ?_ ?_;rotate_left
      ·simp only [Act.put,zq1,zq2,zq3,i64_w,i32_w];rfl
      refine pure_ (i:=10) (N:=some 79) (v:=undef) (a':=?_) #[zt,zt,zt,zt,zt,zt,zt,zt,zt,zt,zt,zf,zf,zf,zf,zf,zf,zf,zf,zf,zf,zf] rfl rfl (by kernel_rfl) (fun _ _ _ h=>h) (Or.inr ⟨by rfl,rfl⟩) ?_ ?_;rotate_left
      ·simp only [Act.put,zq1,zq2,zq3,i64_w,i32_w];rfl
      refine pure_ (i:=11) (N:=some 80) (v:=undef) (a':=?_) #[zt,zt,zt,zt,zt,zt,zt,zt,zt,zt,zt,zt,zf,zf,zf,zf,zf,zf,zf,zf,zf,zf] rfl rfl (by kernel_rfl) (fun _ _ _ h=>h) (Or.inr ⟨by rfl,rfl⟩) ?_ ?_;rotate_left
      ·simp only [Act.put,zq1,zq2,zq3,i64_w,i32_w];rfl
      refine pure_ (i:=12) (N:=some 81) (v:=undef) (a':=?_) #[zt,zt,zt,zt,zt,zt,zt,zt,zt,zt,zt,zt,zt,zf,zf,zf,zf,zf,zf,zf,zf,zf] rfl rfl (by kernel_rfl) (fun _ _ _ h=>h) (Or.inr ⟨by rfl,rfl⟩) ?_ ?_;rotate_left
      ·simp only [Act.put,zq1,zq2,zq3,i64_w,i32_w];rfl
      refine pure_ (i:=13) (N:=some 82) (v:=undef) (a':=?_) #[zt,zt,zt,zt,zt,zt,zt,zt,zt,zt,zt,zt,zt,zt,zf,zf,zf,zf,zf,zf,zf,zf] rfl rfl (by kernel_rfl) (fun _ _ _ h=>h) (Or.inr ⟨by rfl,rfl⟩) ?_ ?_;rotate_left
      ·simp only [Act.put,zq1,zq2,zq3,i64_w,i32_w];rfl
      refine pure_ (i:=14) (N:=some 83) (v:=undef) (a':=?_) #[zt,zt,zt,zt,zt,zt,zt,zt,zt,zt,zt,zt,zt,zt,zt,zf,zf,zf,zf,zf,zf,zf] rfl rfl (by kernel_rfl) (fun _ _ _ h=>h) (Or.inr ⟨by rfl,rfl⟩) ?_ ?_;rotate_left
      ·simp only [Act.put,zq1,zq2,zq3,i64_w,i32_w];rfl
      refine pure_ (i:=15) (N:=some 84) (v:=undef) (a':=?_) #[zt,zt,zt,zt,zt,zt,zt,zt,zt,zt,zt,zt,zt,zt,zt,zt,zf,zf,zf,zf,zf,zf] rfl rfl (by kernel_rfl) (fun _ _ _ h=>h) (Or.inr ⟨by rfl,rfl⟩) ?_ ?_;rotate_left
      ·simp only [Act.put,zq1,zq2,zq3,i64_w,i32_w];rfl
      refine pure_ (i:=16) (N:=some 85) (v:=undef) (a':=?_) #[zt,zt,zt,zt,zt,zt,zt,zt,zt,zt,zt,zt,zt,zt,zt,zt,zt,zf,zf,zf,zf,zf] rfl rfl (by kernel_rfl) (fun _ _ _ h=>h) (Or.inr ⟨by rfl,rfl⟩) ?_ ?_;rotate_left
      ·simp only [Act.put,zq1,zq2,zq3,i64_w,i32_w];rfl
      refine pure_ (i:=17) (N:=some 86) (v:=undef) (a':=?_) #[zt,zt,zt,zt,zt,zt,zt,zt,zt,zt,zt,zt,zt,zt,zt,zt,zt,zt,zf,zf,zf,zf] rfl rfl (by kernel_rfl) (fun _ _ _ h=>h) (Or.inr ⟨by rfl,rfl⟩) ?_ ?_;rotate_left
      ·simp only [Act.put,zq1,zq2,zq3,i64_w,i32_w];rfl
      refine pure_ (i:=18) (N:=some 87) (v:=undef) (a':=?_) #[zt,zt,zt,zt,zt,zt,zt,zt,zt,zt,zt,zt,zt,zt,zt,zt,zt,zt,zt,zf,zf,zf] rfl rfl (by kernel_rfl) (fun _ _ _ h=>h) (Or.inr ⟨by rfl,rfl⟩) ?_ ?_;rotate_left
      ·simp only [Act.put,zq1,zq2,zq3,i64_w,i32_w];rfl
      refine pure_ (i:=19) (N:=some 88) (v:=undef) (a':=?_) #[zt,zt,zt,zt,zt,zt,zt,zt,zt,zt,zt,zt,zt,zt,zt,zt,zt,zt,zt,zt,zf,zf] rfl rfl (by kernel_rfl) (fun _ _ _ h=>h) (Or.inr ⟨by rfl,rfl⟩) ?_ ?_;rotate_left
      ·simp only [Act.put,zq1,zq2,zq3,i64_w,i32_w];rfl
      refine pure_ (i:=20) (N:=some 89) (v:=?_) (a':=?_) #[zt,zt,zt,zt,zt,zt,zt,zt,zt,zt,zt,zt,zt,zt,zt,zt,zt,zt,zt,zt,zt,zf] rfl rfl (by kernel_rfl) (fun _ _ _ h=>h) (Or.inl ⟨by rfl,?_⟩) ?_ ?_;rotate_left
      ·intro w';go_simp;with_reducible rfl
      rotate_left
      ·simp only [Act.put,zq1,zq2,zq3,i64_w,i32_w];rfl
      refine pure_ (i:=21) (N:=some 13) (v:=?_) (a':=?_) #[zt,zt,zt,zt,zt,zt,zt,zt,zt,zt,zt,zt,zt,zt,zt,zt,zt,zt,zt,zt,zt,zt] rfl rfl (by kernel_rfl) (fun _ _ _ h=>h) (Or.inl ⟨by rfl,?_⟩) ?_ ?_;rotate_left
      ·intro w';go_simp;with_reducible rfl
      rotate_left
      ·simp only [Act.put,zq1,zq2,zq3,i64_w,i32_w];rfl
      refine done_ (by kernel_rfl) ?_;clear hHeld;go_wp2
      go_roundw
      case rel=>exact ⟨k+1,true,rfl,by first|go_num|simp,⟨HJ.out⟩,⟨by rw [HTK.out,← hf.out];rfl⟩,⟨hr.out.below (z12 (Below.refl wr.heap.size wr))⟩,⟨z12 hb.out⟩⟩
      case measure=>have:=HJ.out;simp [intOf];omega
     | false =>
      have FT0:Aside0 (Below wr.heap.size wr wr.drew):=⟨z12 (Below.refl wr.heap.size wr)⟩;have HCK:=Aside0.mk (And.intro hCk hck);have HCM:=Aside0.mk (And.intro hCm hci);have HLK2:Aside0 (lk.length≤1000000):=⟨by omega⟩;have HIC:Aside0 (∀ W,Below wr.heap.size wr W→Calls Tryz.prog 19 #[.slice Ak lk.length ck,.slice (some (ai.add 1)) q (ci - 1)] W fun e w'=>e=.returned (.bool (lk == m))∧Drawn0 W w'):=⟨fun W hW=>by
       have h:=ints_calls (a:=lk) (b:=m) (lk == m) (Kd.C_below HCK.out.1 hW) HCK.out.2 (Kd.C_below HCM.out.1 hW) (cB:=ci - 1) (by have:=HCM.out.2;omega) HLK2.out rfl;rw [HQ.out] at h;exact h⟩
      clear hlt hln hki hck hci hCi hCk hCm hss hlk2 hm0
      go_upto_region 17 with (fail)
      refine z27 (n:=22) (S:=fun w'=>w'.cell? (ad.add i)=some (.slice (some ai) (q+1) ci)∧w'.cell? (ad.add k)=some (.slice Ak lk.length ck)) (ds:=[]) #[zf,zf,zf,zf,zf,zf,zf,zf,zf,zf,zf,zf,zf,zf,zf,zf,zf,zf,zf,zf,zf,zf] (by kernel_rfl) rfl rfl ⟨hri,hrk⟩ (fun hHeld=>?_);refine pure_ (i:=0) (N:=some 69) (v:=?_) (a':=?_) #[zt,zf,zf,zf,zf,zf,zf,zf,zf,zf,zf,zf,zf,zf,zf,zf,zf,zf,zf,zf,zf,zf] rfl rfl (by kernel_rfl) (fun _ _ _ h=>h) (Or.inl ⟨by rfl,?_⟩) ?_ ?_;rotate_left
      ·intro w';go_simp;with_reducible rfl
      rotate_left
      ·simp only [Act.put,zq1,zq2,zq3,i64_w,i32_w];rfl
      refine pure_ (i:=1) (N:=some 70) (v:=?_) (a':=?_) #[zt,zt,zf,zf,zf,zf,zf,zf,zf,zf,zf,zf,zf,zf,zf,zf,zf,zf,zf,zf,zf,zf] rfl rfl (by kernel_rfl) (fun _ _ _ h=>h) (Or.inl ⟨by rfl,?_⟩) ?_ ?_;rotate_left
      ·intro w';go_simp;with_reducible rfl
      rotate_left
      ·simp only [Act.put,zq1,zq2,zq3,i64_w,i32_w];rfl
      refine pure_ (i:=2) (N:=some 71) (v:=?_) (a':=?_) #[zt,zt,zt,zf,zf,zf,zf,zf,zf,zf,zf,zf,zf,zf,zf,zf,zf,zf,zf,zf,zf,zf] rfl rfl (by kernel_rfl) (fun _ _ _ h=>h) (Or.inl ⟨by rfl,?_⟩) ?_ ?_;rotate_left
      ·intro w';go_simp;with_reducible rfl
      rotate_left
      ·simp only [Act.put,zq1,zq2,zq3,i64_w,i32_w];rfl
      refine pure_ (i:=3) (N:=some 72) (v:=?_) (a':=?_) #[zt,zt,zt,zt,zf,zf,zf,zf,zf,zf,zf,zf,zf,zf,zf,zf,zf,zf,zf,zf,zf,zf] rfl rfl (by kernel_rfl) (fun _ _ _ h=>h) (Or.inl ⟨by rfl,?_⟩) ?_ ?_;rotate_left
      ·intro w';go_simp;with_reducible rfl
      rotate_left
      ·simp only [Act.put,zq1,zq2,zq3,i64_w,i32_w];rfl
      refine pure_ (i:=4) (N:=some 73) (v:=?_) (a':=?_) #[zt,zt,zt,zt,zt,zf,zf,zf,zf,zf,zf,zf,zf,zf,zf,zf,zf,zf,zf,zf,zf,zf] rfl rfl (by kernel_rfl) (fun _ _ _ h=>h) (Or.inl ⟨by rfl,?_⟩) ?_ ?_;rotate_left
      ·intro w';go_simp;with_reducible rfl
      rotate_left
      ·simp only [Act.put,zq1,zq2,zq3,i64_w,i32_w];rfl
      refine take_ (i:=5) (N:=some 74) (v:=?_) (a':=?_) #[zt,zt,zt,zt,zt,zt,zf,zf,zf,zf,zf,zf,zf,zf,zf,zf,zf,zf,zf,zf,zf,zf] rfl rfl (by kernel_rfl) (fun _ _ _ h=>h) (Or.inl ⟨by rfl,?_⟩) hHeld ?_ ?_;rotate_left
      ·rintro w' ⟨s0,s1⟩;go_simp;with_reducible rfl
      rotate_left
      ·simp only [Act.put,zq1,zq2,zq3,i64_w,i32_w];rfl
      refine pure_ (i:=6) (N:=some 75) (v:=?_) (a':=?_) #[zt,zt,zt,zt,zt,zt,zt,zf,zf,zf,zf,zf,zf,zf,zf,zf,zf,zf,zf,zf,zf,zf] rfl rfl (by kernel_rfl) (fun _ _ _ h=>h) (Or.inl ⟨by rfl,?_⟩) ?_ ?_;rotate_left
      ·intro w';go_simp;with_reducible rfl
      rotate_left
      ·simp only [Act.put,zq1,zq2,zq3,i64_w,i32_w];rfl
      refine pure_ (i:=7) (N:=some 76) (v:=?_) (a':=?_) #[zt,zt,zt,zt,zt,zt,zt,zt,zf,zf,zf,zf,zf,zf,zf,zf,zf,zf,zf,zf,zf,zf] rfl rfl (by kernel_rfl) (fun _ _ _ h=>h) (Or.inl ⟨by rfl,?_⟩) ?_ ?_;rotate_left
      ·intro w';go_simp;with_reducible rfl
      rotate_left
      ·simp only [Act.put,zq1,zq2,zq3,i64_w,i32_w];rfl
      refine pure_ (i:=8) (N:=some 77) (v:=?_) (a':=?_) #[zt,zt,zt,zt,zt,zt,zt,zt,zt,zf,zf,zf,zf,zf,zf,zf,zf,zf,zf,zf,zf,zf] rfl rfl (by kernel_rfl) (fun _ _ _ h=>h) (Or.inl ⟨by rfl,?_⟩) ?_ ?_;rotate_left
      ·intro w';go_simp;with_reducible rfl
      rotate_left
      ·simp only [Act.put,zq1,zq2,zq3,i64_w,i32_w];rfl
      refine pure_ (i:=9) (N:=some 78) (v:=?_) (a':=?_) #[zt,zt,zt,zt,zt,zt,zt,zt,zt,zt,zf,zf,zf,zf,zf,zf,zf,zf,zf,zf,zf,zf] rfl rfl (by kernel_rfl) (fun _ _ _ h=>h) (Or.inl ⟨by rfl,?_⟩) ?_ ?_;rotate_left
      ·intro w';go_simp;with_reducible rfl
      rotate_left
      ·simp only [Act.put,zq1,zq2,zq3,i64_w,i32_w];rfl
      refine pure_ (i:=10) (N:=some 79) (v:=?_) (a':=?_) #[zt,zt,zt,zt,zt,zt,zt,zt,zt,zt,zt,zf,zf,zf,zf,zf,zf,zf,zf,zf,zf,zf] rfl rfl (by kernel_rfl) (fun _ _ _ h=>h) (Or.inl ⟨by rfl,?_⟩) ?_ ?_;rotate_left
      ·intro w';go_simp;with_reducible rfl
      rotate_left
      ·simp only [Act.put,zq1,zq2,zq3,i64_w,i32_w];rfl
      refine pure_ (i:=11) (N:=some 80) (v:=?_) (a':=?_) #[zt,zt,zt,zt,zt,zt,zt,zt,zt,zt,zt,zt,zf,zf,zf,zf,zf,zf,zf,zf,zf,zf] rfl rfl (by kernel_rfl) (fun _ _ _ h=>h) (Or.inl ⟨by rfl,?_⟩) ?_ ?_;rotate_left
      ·intro w';go_simp;with_reducible rfl
      rotate_left
      ·simp only [Act.put,zq1,zq2,zq3,i64_w,i32_w];rfl
      refine pure_ (i:=13) (N:=some 82) (v:=?_) (a':=?_) #[zt,zt,zt,zt,zt,zt,zt,zt,zt,zt,zt,zt,zf,zt,zf,zf,zf,zf,zf,zf,zf,zf] rfl rfl (by kernel_rfl) (fun _ _ _ h=>h) (Or.inl ⟨by rfl,?_⟩) ?_ ?_;rotate_left
      ·intro w';go_simp;with_reducible rfl
      rotate_left
      ·simp only [Act.put,zq1,zq2,zq3,i64_w,i32_w];rfl
      refine pure_ (i:=14) (N:=some 83) (v:=?_) (a':=?_) #[zt,zt,zt,zt,zt,zt,zt,zt,zt,zt,zt,zt,zf,zt,zt,zf,zf,zf,zf,zf,zf,zf] rfl rfl (by kernel_rfl) (fun _ _ _ h=>h) (Or.inl ⟨by rfl,?_⟩) ?_ ?_;rotate_left
      ·intro w';go_simp;with_reducible rfl
      rotate_left
      ·simp only [Act.put,zq1,zq2,zq3,i64_w,i32_w];rfl
      refine pure_ (i:=15) (N:=some 84) (v:=?_) (a':=?_) #[zt,zt,zt,zt,zt,zt,zt,zt,zt,zt,zt,zt,zf,zt,zt,zt,zf,zf,zf,zf,zf,zf] rfl rfl (by kernel_rfl) (fun _ _ _ h=>h) (Or.inl ⟨by rfl,?_⟩) ?_ ?_;rotate_left
      ·intro w';go_simp;with_reducible rfl
      rotate_left
      ·simp only [Act.put,zq1,zq2,zq3,i64_w,i32_w];rfl
      refine take_ (i:=12) (N:=some 81) (v:=?_) (a':=?_) #[zt,zt,zt,zt,zt,zt,zt,zt,zt,zt,zt,zt,zt,zt,zt,zt,zf,zf,zf,zf,zf,zf] rfl rfl (by kernel_rfl) (fun _ _ _ h=>h) (Or.inl ⟨by rfl,?_⟩) hHeld ?_ ?_;rotate_left
      ·rintro w' ⟨s0,s1⟩;go_simp;with_reducible rfl
      rotate_left
      ·simp only [Act.put,zq1,zq2,zq3,i64_w,i32_w];rfl
      refine take_ (i:=16) (N:=some 85) (v:=?_) (a':=?_) #[zt,zt,zt,zt,zt,zt,zt,zt,zt,zt,zt,zt,zt,zt,zt,zt,zt,zf,zf,zf,zf,zf] rfl rfl (by kernel_rfl) (fun _ _ _ h=>h) (Or.inl ⟨by rfl,?_⟩) hHeld ?_ ?_;rotate_left
      ·rintro w' ⟨s0,s1⟩;go_simp;with_reducible rfl
      rotate_left
      ·simp only [Act.put,zq1,zq2,zq3,i64_w,i32_w];rfl
      refine pure_ (i:=17) (N:=some 86) (v:=?_) (a':=?_) #[zt,zt,zt,zt,zt,zt,zt,zt,zt,zt,zt,zt,zt,zt,zt,zt,zt,zt,zf,zf,zf,zf] rfl rfl (by kernel_rfl) (fun _ _ _ h=>h) (Or.inl ⟨by rfl,?_⟩) ?_ ?_;rotate_left
      ·intro w';go_simp;with_reducible rfl
      rotate_left
      ·simp only [Act.put,zq1,zq2,zq3,i64_w,i32_w];rfl
      refine one_ (i:=18) (N:=some 87) #[zt,zt,zt,zt,zt,zt,zt,zt,zt,zt,zt,zt,zt,zt,zt,zt,zt,zt,zt,zf,zf,zf] rfl rfl (by kernel_rfl) (by decide) (fun K hK=>?_);refine goes_ Tryz.func19 (by kernel_rfl) rfl #[.slice Ak lk.length ck,.slice (some (ai.add 1)) q (ci - 1)] (by rfl) rfl rfl (by simp only [List.map_toArray,List.map_cons,List.map_nil];rfl) ?_;refine (HIC.out _ FT0.out).mono ?_;rintro e w_ ⟨rfl,nd1,rfl⟩;refine ⟨_,rfl,?_⟩;have FT1:=Aside0.mk (z2a FT0.out nd1);refine hK.out _ _ ⟨hri,hrk⟩ (fun hHeld=>?_);clear hK K;refine norm_ (a':=?_) ?_ ?_;rotate_left
      ·show Act.put _ (some 87) _=_;simp only [Act.put,zq1,zq2,zq3,i64_w,i32_w];rfl
      refine pure_ (i:=19) (N:=some 88) (v:=?_) (a':=?_) #[zt,zt,zt,zt,zt,zt,zt,zt,zt,zt,zt,zt,zt,zt,zt,zt,zt,zt,zt,zt,zf,zf] rfl rfl (by kernel_rfl) (fun _ _ _ h=>h) (Or.inl ⟨by rfl,?_⟩) ?_ ?_;rotate_left
      ·intro w';go_simp;with_reducible rfl
      rotate_left
      ·simp only [Act.put,zq1,zq2,zq3,i64_w,i32_w];rfl
      refine pure_ (i:=20) (N:=some 89) (v:=?_) (a':=?_) #[zt,zt,zt,zt,zt,zt,zt,zt,zt,zt,zt,zt,zt,zt,zt,zt,zt,zt,zt,zt,zt,zf] rfl rfl (by kernel_rfl) (fun _ _ _ h=>h) (Or.inl ⟨by rfl,?_⟩) ?_ ?_;rotate_left
      ·intro w';go_simp;with_reducible rfl
      rotate_left
      ·simp only [Act.put,zq1,zq2,zq3,i64_w,i32_w];rfl
      refine pure_ (i:=21) (N:=some 13) (v:=?_) (a':=?_) #[zt,zt,zt,zt,zt,zt,zt,zt,zt,zt,zt,zt,zt,zt,zt,zt,zt,zt,zt,zt,zt,zt] rfl rfl (by kernel_rfl) (fun _ _ _ h=>h) (Or.inl ⟨by rfl,?_⟩) ?_ ?_;rotate_left
      ·intro w';go_simp;with_reducible rfl
      rotate_left
      ·simp only [Act.put,zq1,zq2,zq3,i64_w,i32_w];rfl
      refine done_ (by kernel_rfl) ?_;clear hHeld;go_wp2
      go_roundw
      case rel=>exact ⟨k+1,(lk == m),rfl,by first|go_num|simp,⟨HJ.out⟩,⟨by rw [HTK.out,← hf.out];rfl⟩,⟨hr.out.below (z2a (Below.refl wr.heap.size wr) _)⟩,⟨z0x hb.out hb.out.size (z2a (Below.refl wr.heap.size wr) _)⟩⟩
      case measure=>have:=HJ.out;simp [intOf];omega
    ·have hd:decide ((k:Int) < (i:Int))=false:=decide_eq_false (by omega);have hd2:decide (k < i)=false:=decide_eq_false hlt;have hft:f=true:=by
      rw [hf.out];obtain ⟨j,hj,hlj⟩:=HEX.out;have:m ∈ ls.take k:=List.mem_iff_getElem?.2 ⟨j,by rw [List.getElem?_take,if_pos (by omega)];exact hlj⟩
      simpa using this
     subst hft;have hil:=HLT.out;obtain ⟨j,hij⟩:∃ j,i=j+1:=⟨i - 1,by omega⟩;have hwj:IntKind.i64.wrap ((i:Int) - 1)=(j:Int):=(IntWalk.i64_in _ (by omega)).trans (by omega);have hwi:IntKind.i64.wrap ((i:Int)+1)=(i:Int)+1:=IntWalk.i64_in _ (by omega);have hlp:ls[j]?=some lp:=by
      have h:=HLP.out.1;rw [hij,Nat.add_sub_cancel] at h;exact h
     obtain ⟨Ai,ci,hri,_,_⟩:=HROW.out wr hr.out i _ HLI.out;obtain ⟨Aj,cj,hrj,_,_⟩:=HROW.out wr hr.out j _ hlp;have hpl:=HLP.out.2;have hm0:=HM.out;have hss:=HSS.out;obtain ⟨q,hq⟩:∃ q,m.length=q:=⟨_,rfl⟩;rw [List.length_cons,hq] at hri;rw [hq] at hm0 hpl;obtain ⟨z,hz⟩:∃ z,lp.length=z:=⟨_,rfl⟩;rw [hz] at hrj hpl;have hp0:(0≤(i:Int))=True:=eq_true (by omega);have hp1:((i:Int) < (ls.length:Int))=True:=eq_true (by omega);have hp2:(i < ls.length)=True:=eq_true (by omega);have hj0:(0≤(j:Int))=True:=eq_true (by omega);have hj1:((j:Int) < (ls.length:Int))=True:=eq_true (by omega);have hj2:(j < ls.length)=True:=eq_true (by omega);have hg0:decide ((q:Int)+1 > steps+1)=false:=decide_eq_false (by omega);have hg1:decide (steps+1 < (q:Int)+1)=false:=decide_eq_false (by omega);have hg2:decide (steps < (q:Int))=false:=decide_eq_false (by omega);have hg3:decide ((q:Int)+1 < (z:Int))=false:=decide_eq_false (by omega);have hg4:decide (q+1 < z)=false:=decide_eq_false (by omega);have HR9:=Aside0.mk (hr.out.below (z12 (Below.refl wr.heap.size wr)));have HB9:=Aside0.mk (z12 hb.out);clear hlt hln hki hil hij hlp hpl hm0 hss hq hz hr hb hf hk
     go_upto_region 18 with (fail)
     refine z27 (n:=26) (S:=fun w'=>w'.cell? (ad.add i)=some (.slice Ai (q+1) ci)∧w'.cell? (ad.add j)=some (.slice Aj z cj)) (ds:=[]) #[zf,zf,zf,zf,zf,zf,zf,zf,zf,zf,zf,zf,zf,zf,zf,zf,zf,zf,zf,zf,zf,zf,zf,zf,zf,zf] (by kernel_rfl) rfl rfl ⟨hri,hrj⟩ (fun hHeld=>?_);refine pure_ (i:=0) (N:=some 90) (v:=?_) (a':=?_) #[zt,zf,zf,zf,zf,zf,zf,zf,zf,zf,zf,zf,zf,zf,zf,zf,zf,zf,zf,zf,zf,zf,zf,zf,zf,zf] rfl rfl (by kernel_rfl) (fun _ _ _ h=>h) (Or.inl ⟨by rfl,?_⟩) ?_ ?_;rotate_left
     ·intro w';go_simp;with_reducible rfl
     rotate_left
     ·simp only [Act.put,zq1,zq2,zq3,i64_w,i32_w];rfl
     refine pure_ (i:=1) (N:=some 91) (v:=?_) (a':=?_) #[zt,zt,zf,zf,zf,zf,zf,zf,zf,zf,zf,zf,zf,zf,zf,zf,zf,zf,zf,zf,zf,zf,zf,zf,zf,zf] rfl rfl (by kernel_rfl) (fun _ _ _ h=>h) (Or.inl ⟨by rfl,?_⟩) ?_ ?_;rotate_left
     ·intro w';go_simp;with_reducible rfl
     rotate_left
     ·simp only [Act.put,zq1,zq2,zq3,i64_w,i32_w];rfl
     refine pure_ (i:=2) (N:=some 92) (v:=?_) (a':=?_) #[zt,zt,zt,zf,zf,zf,zf,zf,zf,zf,zf,zf,zf,zf,zf,zf,zf,zf,zf,zf,zf,zf,zf,zf,zf,zf] rfl rfl (by kernel_rfl) (fun _ _ _ h=>h) (Or.inl ⟨by rfl,?_⟩) ?_ ?_;rotate_left
     ·intro w';go_simp;with_reducible rfl
     rotate_left
     ·simp only [Act.put,zq1,zq2,zq3,i64_w,i32_w];rfl
     refine pure_ (i:=3) (N:=some 93) (v:=?_) (a':=?_) #[zt,zt,zt,zt,zf,zf,zf,zf,zf,zf,zf,zf,zf,zf,zf,zf,zf,zf,zf,zf,zf,zf,zf,zf,zf,zf] rfl rfl (by kernel_rfl) (fun _ _ _ h=>h) (Or.inl ⟨by rfl,?_⟩) ?_ ?_;rotate_left
     ·intro w';go_simp;with_reducible rfl
     rotate_left
     ·simp only [Act.put,zq1,zq2,zq3,i64_w,i32_w];rfl
     refine pure_ (i:=4) (N:=some 94) (v:=?_) (a':=?_) #[zt,zt,zt,zt,zt,zf,zf,zf,zf,zf,zf,zf,zf,zf,zf,zf,zf,zf,zf,zf,zf,zf,zf,zf,zf,zf] rfl rfl (by kernel_rfl) (fun _ _ _ h=>h) (Or.inl ⟨by rfl,?_⟩) ?_ ?_;rotate_left
     ·intro w';go_simp;with_reducible rfl
     rotate_left
     ·simp only [Act.put,zq1,zq2,zq3,i64_w,i32_w];rfl
     refine pure_ (i:=5) (N:=some 95) (v:=?_) (a':=?_) #[zt,zt,zt,zt,zt,zt,zf,zf,zf,zf,zf,zf,zf,zf,zf,zf,zf,zf,zf,zf,zf,zf,zf,zf,zf,zf] rfl rfl (by kernel_rfl) (fun _ _ _ h=>h) (Or.inl ⟨by rfl,?_⟩) ?_ ?_;rotate_left
     ·intro w';go_simp;with_reducible rfl
     rotate_left
     ·simp only [Act.put,zq1,zq2,zq3,i64_w,i32_w];rfl
     refine pure_ (i:=8) (N:=some 98) (v:=?_) (a':=?_) #[zt,zt,zt,zt,zt,zt,zf,zf,zt,zf,zf,zf,zf,zf,zf,zf,zf,zf,zf,zf,zf,zf,zf,zf,zf,zf] rfl rfl (by kernel_rfl) (fun _ _ _ h=>h) (Or.inl ⟨by rfl,?_⟩) ?_ ?_;rotate_left
     ·intro w';go_simp;with_reducible rfl
     rotate_left
     ·simp only [Act.put,zq1,zq2,zq3,i64_w,i32_w];rfl
     refine pure_ (i:=9) (N:=some 99) (v:=?_) (a':=?_) #[zt,zt,zt,zt,zt,zt,zf,zf,zt,zt,zf,zf,zf,zf,zf,zf,zf,zf,zf,zf,zf,zf,zf,zf,zf,zf] rfl rfl (by kernel_rfl) (fun _ _ _ h=>h) (Or.inl ⟨by rfl,?_⟩) ?_ ?_;rotate_left
     ·intro w';go_simp;with_reducible rfl
     rotate_left
     ·simp only [Act.put,zq1,zq2,zq3,i64_w,i32_w];rfl
     refine take_ (i:=6) (N:=some 96) (v:=?_) (a':=?_) #[zt,zt,zt,zt,zt,zt,zt,zf,zt,zt,zf,zf,zf,zf,zf,zf,zf,zf,zf,zf,zf,zf,zf,zf,zf,zf] rfl rfl (by kernel_rfl) (fun _ _ _ h=>h) (Or.inl ⟨by rfl,?_⟩) hHeld ?_ ?_;rotate_left
     ·rintro w' ⟨s0,s1⟩;go_simp;with_reducible rfl
     rotate_left
     ·simp only [Act.put,zq1,zq2,zq3,i64_w,i32_w];rfl
     refine pure_ (i:=7) (N:=some 97) (v:=?_) (a':=?_) #[zt,zt,zt,zt,zt,zt,zt,zt,zt,zt,zf,zf,zf,zf,zf,zf,zf,zf,zf,zf,zf,zf,zf,zf,zf,zf] rfl rfl (by kernel_rfl) (fun _ _ _ h=>h) (Or.inl ⟨by rfl,?_⟩) ?_ ?_;rotate_left
     ·intro w';go_simp;with_reducible rfl
     rotate_left
     ·simp only [Act.put,zq1,zq2,zq3,i64_w,i32_w];rfl
     refine pure_ (i:=10) (N:=some 100) (v:=?_) (a':=?_) #[zt,zt,zt,zt,zt,zt,zt,zt,zt,zt,zt,zf,zf,zf,zf,zf,zf,zf,zf,zf,zf,zf,zf,zf,zf,zf] rfl rfl (by kernel_rfl) (fun _ _ _ h=>h) (Or.inl ⟨by rfl,?_⟩) ?_ ?_;rotate_left
     ·intro w';go_simp;with_reducible rfl
     rotate_left
     ·simp only [Act.put,zq1,zq2,zq3,i64_w,i32_w];rfl
     refine pure_ (i:=11) (N:=some 101) (v:=?_) (a':=?_) #[zt,zt,zt,zt,zt,zt,zt,zt,zt,zt,zt,zt,zf,zf,zf,zf,zf,zf,zf,zf,zf,zf,zf,zf,zf,zf] rfl rfl (by kernel_rfl) (fun _ _ _ h=>h) (Or.inl ⟨by rfl,?_⟩) ?_ ?_;rotate_left
     ·intro w';go_simp;with_reducible rfl
     rotate_left
     ·simp only [Act.put,zq1,zq2,zq3,i64_w,i32_w];rfl
     refine pure_ (i:=12) (N:=some 102) (v:=?_) (a':=?_) #[zt,zt,zt,zt,zt,zt,zt,zt,zt,zt,zt,zt,zt,zf,zf,zf,zf,zf,zf,zf,zf,zf,zf,zf,zf,zf] rfl rfl (by kernel_rfl) (fun _ _ _ h=>h) (Or.inl ⟨by rfl,?_⟩) ?_ ?_;rotate_left
     ·intro w';go_simp;with_reducible rfl
     rotate_left
     ·simp only [Act.put,zq1,zq2,zq3,i64_w,i32_w];rfl
     refine pure_ (i:=13) (N:=some 103) (v:=?_) (a':=?_) #[zt,zt,zt,zt,zt,zt,zt,zt,zt,zt,zt,zt,zt,zt,zf,zf,zf,zf,zf,zf,zf,zf,zf,zf,zf,zf] rfl rfl (by kernel_rfl) (fun _ _ _ h=>h) (Or.inl ⟨by rfl,?_⟩) ?_ ?_;rotate_left
     ·intro w';go_simp;with_reducible rfl
     rotate_left
     ·simp only [Act.put,zq1,zq2,zq3,i64_w,i32_w];rfl
     refine pure_ (i:=14) (N:=some 104) (v:=?_) (a':=?_) #[zt,zt,zt,zt,zt,zt,zt,zt,zt,zt,zt,zt,zt,zt,zt,zf,zf,zf,zf,zf,zf,zf,zf,zf,zf,zf] rfl rfl (by kernel_rfl) (fun _ _ _ h=>h) (Or.inl ⟨by rfl,?_⟩) ?_ ?_;rotate_left
     ·intro w';go_simp;with_reducible rfl
     rotate_left
     ·simp only [Act.put,zq1,zq2,zq3,i64_w,i32_w];rfl
     refine pure_ (i:=15) (N:=some 105) (v:=?_) (a':=?_) #[zt,zt,zt,zt,zt,zt,zt,zt,zt,zt,zt,zt,zt,zt,zt,zt,zf,zf,zf,zf,zf,zf,zf,zf,zf,zf] rfl rfl (by kernel_rfl) (fun _ _ _ h=>h) (Or.inl ⟨by rfl,?_⟩) ?_ ?_;rotate_left
     ·intro w';go_simp;with_reducible rfl
     rotate_left
     ·simp only [Act.put,zq1,zq2,zq3,i64_w,i32_w];rfl
     refine pure_ (i:=18) (N:=some 108) (v:=?_) (a':=?_) #[zt,zt,zt,zt,zt,zt,zt,zt,zt,zt,zt,zt,zt,zt,zt,zt,zf,zf,zt,zf,zf,zf,zf,zf,zf,zf] rfl rfl (by kernel_rfl) (fun _ _ _ h=>h) (Or.inl ⟨by rfl,?_⟩) ?_ ?_;rotate_left
     ·intro w';go_simp;with_reducible rfl
     rotate_left
     ·simp only [Act.put,zq1,zq2,zq3,i64_w,i32_w];rfl
     refine pure_ (i:=19) (N:=some 109) (v:=?_) (a':=?_) #[zt,zt,zt,zt,zt,zt,zt,zt,zt,zt,zt,zt,zt,zt,zt,zt,zf,zf,zt,zt,zf,zf,zf,zf,zf,zf] rfl rfl (by kernel_rfl) (fun _ _ _ h=>h) (Or.inl ⟨by rfl,?_⟩) ?_ ?_;rotate_left
     ·intro w';go_simp;with_reducible rfl
     rotate_left
     ·simp only [Act.put,zq1,zq2,zq3,i64_w,i32_w];rfl
     refine pure_ (i:=20) (N:=some 110) (v:=?_) (a':=?_) #[zt,zt,zt,zt,zt,zt,zt,zt,zt,zt,zt,zt,zt,zt,zt,zt,zf,zf,zt,zt,zt,zf,zf,zf,zf,zf] rfl rfl (by kernel_rfl) (fun _ _ _ h=>h) (Or.inl ⟨by rfl,?_⟩) ?_ ?_;rotate_left
     ·intro w';go_simp;with_reducible rfl
     rotate_left
     ·simp only [Act.put,zq1,zq2,zq3,i64_w,i32_w];rfl
     refine pure_ (i:=21) (N:=some 111) (v:=?_) (a':=?_) #[zt,zt,zt,zt,zt,zt,zt,zt,zt,zt,zt,zt,zt,zt,zt,zt,zf,zf,zt,zt,zt,zt,zf,zf,zf,zf] rfl rfl (by kernel_rfl) (fun _ _ _ h=>h) (Or.inl ⟨by rfl,?_⟩) ?_ ?_;rotate_left
     ·intro w';go_simp;with_reducible rfl
     rotate_left
     ·simp only [Act.put,zq1,zq2,zq3,i64_w,i32_w];rfl
     refine take_ (i:=16) (N:=some 106) (v:=?_) (a':=?_) #[zt,zt,zt,zt,zt,zt,zt,zt,zt,zt,zt,zt,zt,zt,zt,zt,zt,zf,zt,zt,zt,zt,zf,zf,zf,zf] rfl rfl (by kernel_rfl) (fun _ _ _ h=>h) (Or.inl ⟨by rfl,?_⟩) hHeld ?_ ?_;rotate_left
     ·rintro w' ⟨s0,s1⟩;go_simp;with_reducible rfl
     rotate_left
     ·simp only [Act.put,zq1,zq2,zq3,i64_w,i32_w];rfl
     refine pure_ (i:=17) (N:=some 107) (v:=?_) (a':=?_) #[zt,zt,zt,zt,zt,zt,zt,zt,zt,zt,zt,zt,zt,zt,zt,zt,zt,zt,zt,zt,zt,zt,zf,zf,zf,zf] rfl rfl (by kernel_rfl) (fun _ _ _ h=>h) (Or.inl ⟨by rfl,?_⟩) ?_ ?_;rotate_left
     ·intro w';go_simp;with_reducible rfl
     rotate_left
     ·simp only [Act.put,zq1,zq2,zq3,i64_w,i32_w];rfl
     refine take_ (i:=22) (N:=some 112) (v:=?_) (a':=?_) #[zt,zt,zt,zt,zt,zt,zt,zt,zt,zt,zt,zt,zt,zt,zt,zt,zt,zt,zt,zt,zt,zt,zt,zf,zf,zf] rfl rfl (by kernel_rfl) (fun _ _ _ h=>h) (Or.inl ⟨by rfl,?_⟩) hHeld ?_ ?_;rotate_left
     ·rintro w' ⟨s0,s1⟩;go_simp;with_reducible rfl
     rotate_left
     ·simp only [Act.put,zq1,zq2,zq3,i64_w,i32_w];rfl
     refine pure_ (i:=23) (N:=some 113) (v:=?_) (a':=?_) #[zt,zt,zt,zt,zt,zt,zt,zt,zt,zt,zt,zt,zt,zt,zt,zt,zt,zt,zt,zt,zt,zt,zt,zt,zf,zf] rfl rfl (by kernel_rfl) (fun _ _ _ h=>h) (Or.inl ⟨by rfl,?_⟩) ?_ ?_;rotate_left
     ·intro w';go_simp;with_reducible rfl
     rotate_left
     ·simp only [Act.put,zq1,zq2,zq3,i64_w,i32_w];rfl
     refine pure_ (i:=24) (N:=some 114) (v:=?_) (a':=?_) #[zt,zt,zt,zt,zt,zt,zt,zt,zt,zt,zt,zt,zt,zt,zt,zt,zt,zt,zt,zt,zt,zt,zt,zt,zt,zf] rfl rfl (by kernel_rfl) (fun _ _ _ h=>h) (Or.inl ⟨by rfl,?_⟩) ?_ ?_;rotate_left
     ·intro w';go_simp;with_reducible rfl
     rotate_left
     ·simp only [Act.put,zq1,zq2,zq3,i64_w,i32_w];rfl
     refine pure_ (i:=25) (N:=some 115) (v:=?_) (a':=?_) #[zt,zt,zt,zt,zt,zt,zt,zt,zt,zt,zt,zt,zt,zt,zt,zt,zt,zt,zt,zt,zt,zt,zt,zt,zt,zt] rfl rfl (by kernel_rfl) (fun _ _ _ h=>h) (Or.inl ⟨by rfl,?_⟩) ?_ ?_;rotate_left
     ·intro w';go_simp;with_reducible rfl
     rotate_left
     ·simp only [Act.put,zq1,zq2,zq3,i64_w,i32_w];rfl
     refine done_ (by kernel_rfl) ?_;clear hHeld;go_wp2
     go_roundw
     case rel=>exact ⟨i+1,by first|go_num|simp,⟨by omega,.inl HLT.out.1⟩,HR9,HB9⟩
     case measure=>have:=HLT.out;simp [intOf];omega
end Go.Proofs.YtcbnhfnnjkkceaaGreat.X
end
section
namespace Go.Proofs.YtcbnhfnnjkkceaaGreat.routeMore
open Go.ChangeShapes Go.WideShapes Go.ChangeAt Go.RowKit
theorem own:ownKnob Tryz.prog.godebug=none:=by kernel_rfl
theorem laidOut:laidOutB Tryz.prog=true:=by kernel_rfl
theorem lifted (os:Os) (started:os.Started) (H:Type) (enc:TypeId × Value→H) :
  ReturnsInHanded {} Tryz.checked os 9 .any (Rows.routeMoreSpec.pre6 enc Tryz.prog Tryz.f9 Rows.routeMoreRow.domain false) (Rows.routeMoreSpec.post enc Tryz.prog Tryz.f9 false true false false):=by
 refine returnsInHanded_of_change_sized (C:=Tryz.checked) own started (by kernel_rfl) Tryz.func9
  (ChangeSpec.witness6 (enc:=enc) (C:=Tryz.checked) false ⟨#[],#[.agg #[.int .i64 0,.int .i64 0,.int .i64 0,.slice none 0 0,.slice none 0 0,.slice none 0 0],.int .i64 0,.int .i64 0],[]⟩ 8 (by kernel_rfl) (by kernel_rfl) (by kernel_rfl) (by kernel_rfl)) ?_
 intro W base args ds gs before hval0 hW hcnd hsz0 _;have hsz:(DataW.weightsEach Tryz.prog (Tryz.f9.params.toList ++ Rows.routeMoreSpec.plain.varTypes Tryz.prog) (ds ++ gs)).all (·≤reachBytes)=true:=hsz0;have hval:∀ (j:Nat) t v,Tryz.f9.params[j]?=some t→args[j]?=some v→Value.okWide Tryz.prog W .any base t v:=hval0;have hW':=hW;obtain ⟨p,q,hA0,hV,rfl,hfz,hnd⟩:=hW;have hA:DataW.TrodAll enc Tryz.prog W 0 (fun _=>true) true Tryz.f9.params.toList args.toList ds p:=hA0;rw [Tryz.params9] at hA hval hsz;obtain ⟨v0,vs0,d0,ds0,p0,q0,hargs,rfl,rfl,h0,r0⟩:=trodAll_cons hA;obtain ⟨v1,vs1,d1,ds1,p1,q1,rfl,rfl,rfl,h1,r1⟩:=trodAll_cons r0;obtain ⟨v2,vs2,d2,ds2,p2,q2,rfl,rfl,rfl,h2,r2⟩:=trodAll_cons r1;obtain ⟨rfl,rfl,rfl⟩:=trodAll_nil r2;obtain rfl:args=#[v0,v1,v2]:=by cases args;simp_all
 obtain ⟨rfl,rfl⟩:=trodVars_none hV;have k0:=h0;have lt0:∀ x ∈ p0,x.block < W.heap.size:=by obtain ⟨m,hm⟩:=k0;exact DataW.trod_lt m _ _ _ hm
 obtain ⟨im0,A3_0,c3_0,A4_0,c4_0,A5_0,c5_0,rfl,hr3_0,hc3_0,hr4_0,hc4_0,hr5_0,hc5_0,hw0⟩:=X.open_image (hval 0 26 v0 rfl rfl) h0;obtain ⟨a1,rfl,rfl,rfl,w1⟩:=open_int Tryz.underlying3 (hval 1 3 v1 rfl rfl) h1;obtain ⟨a2,rfl,rfl,rfl,w2⟩:=open_int Tryz.underlying3 (hval 2 3 v2 rfl rfl) h2;clear hA0 hval0 hsz0 hsz;refine (X.routeMore_law im0 A3_0 c3_0 A4_0 c4_0 A5_0 c5_0 a1 a2 W hr3_0 hc3_0 hr4_0 hc4_0 hr5_0 hc5_0 hw0 w1 w2).mono fun e W' ⟨he,bel⟩=>?_
 subst he;exact ⟨_,rfl,_,_,_,[],_,[],hW',trodAll_mk1 (shut_bool Tryz.underlying4 _),(trodAll_cons_mk (Below.trod laidOut (by kernel_rfl) (of_decide_eq_true (by kernel_rfl)) k0 bel lt0) (trodAll_cons_mk (shut_int Tryz.underlying3 w1) (trodAll_cons_mk (shut_int Tryz.underlying3 w2) trodAll_mk0))),rfl,bel.frame _,fun h=>by cases h⟩
theorem over:Rows.routeMoreRow.holds Tryz.pinned (OpenSpec.ofChange Rows.routeMoreSpec) :=
 OpenClaim.holds_of_wide 9 Tryz.f9 rfl rfl rfl rfl rfl rfl rfl ⟨rfl,rfl,rfl,rfl,rfl⟩ rfl rfl rfl rfl rfl (by kernel_rfl) Tryz.func9 (by kernel_rfl)
  (of_decide_eq_true (by kernel_rfl)) (by unfold Func.isWrapper;first|(rw [if_pos (by decide +kernel)];kernel_rfl)|(rw [if_neg (by decide +kernel)];exact ⟨rfl,rfl⟩))
  (fun os started H enc _=>lifted os started H enc)
theorem proved:Rows.RouteMoreSaid:=over
#print axioms proved
end Go.Proofs.YtcbnhfnnjkkceaaGreat.routeMore
namespace Go.Proofs.YtcbnhfnnjkkceaaGreat
theorem routeMore_holds:Rows.RouteMoreSaid:=routeMore.proved
end Go.Proofs.YtcbnhfnnjkkceaaGreat
end
