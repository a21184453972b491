/- For the statement of the row : what its proof needs of the text M5. -/
import Derived.Laws.CopyOwn
import Derived.Deep.MidRow
import Derived.Test.YtcbnhfnnjkkceaaGreatOM1
import Derived.Test.YtcbnhfnnjkkceaaGreatOM2
import Derived.Test.YtcbnhfnnjkkceaaGreatOM3
import Derived.Test.YtcbnhfnnjkkceaaGreatOM4
set_option maxHeartbeats 8000000
set_option maxRecDepth 100000
set_option linter.unusedSimpArgs false
set_option linter.unusedVariables false

section
namespace Go.Proofs.YtcbnhfnnjkkceaaGreat.X
open Go.RowKit Go.Proofs.YtcbnhfnnjkkceaaGreatW.PrintWords Go.Proofs.YtcbnhfnnjkkceaaGreatW.PrintLast Go.Proofs.YtcbnhfnnjkkceaaGreatW.PrintMore Go.Proofs.YtcbnhfnnjkkceaaGreat.Gr
end Go.Proofs.YtcbnhfnnjkkceaaGreat.X
end
section
namespace Go.Proofs.YtcbnhfnnjkkceaaGreat.X
open Go.RowKit Go.Proofs.YtcbnhfnnjkkceaaGreatW.PrintWords Go.Proofs.YtcbnhfnnjkkceaaGreatW.PrintLast Go.Proofs.YtcbnhfnnjkkceaaGreatW.PrintMore Go.Proofs.YtcbnhfnnjkkceaaGreat.Gr
theorem goes {p:Im} {x:Int} {os:List Int} {k:Int} (h:opA p x=k) (hk:goesB k=true∧k≠22∧k≠23):Nxt p x os (x+1) os:=by
 rw [← h] at hk;exact .inr (.inr (.inr (.inr ⟨hk.1,hk.2.1,hk.2.2,rfl,rfl⟩)))
end Go.Proofs.YtcbnhfnnjkkceaaGreat.X
end
section
namespace Go.Proofs.YtcbnhfnnjkkceaaGreat.X
open Go.RowKit Go.Proofs.YtcbnhfnnjkkceaaGreatW.PrintWords Go.Proofs.YtcbnhfnnjkkceaaGreat.Gr
theorem rdI_out {l:List In} {x:Int} (h0:0≤x) (h1:(l.length:Int)≤x):(z0a l x).f0=0:=by
 unfold z0a;rw [List.getD_eq_getElem?_getD,List.getElem?_eq_none (by omega)];rfl
theorem nxt_in {p:Im} {x x':Int} {os os':List Int} (h0:0≤x) (h:Nxt p x os x' os'):x < p.f5.length:=by
 refine Classical.byContradiction fun hn=>?_
 have e:opA p x=0:=rdI_out h0 (by omega)
 rcases h with ⟨ho,_⟩|⟨ho,_⟩|⟨ho,_⟩|⟨ho,_⟩|⟨hg,_⟩
 ·rw [e] at ho;exact absurd ho (by decide)
 ·rw [e] at ho;exact absurd ho (by decide)
 ·rw [e] at ho;exact absurd ho (by decide)
 ·rw [e] at ho;exact absurd ho (by decide)
 ·rw [e] at hg;exact absurd hg (by decide)
theorem nxt_pos {p:Im} (hw:wfP p) (hE:encV p=0) {x x':Int} {os os':List Int} (h0:0≤x) (hC:Chn p (funP p.f4 p.f5.length x) os) (h:Nxt p x os x' os'):0≤x':=by
 have h1:=nxt_in h0 h;have hrt:=encV_rt hw hE
 rcases h with ⟨ho,hx,_⟩|⟨ho,hx,_⟩|⟨ho,hx,_⟩|⟨ho,rfl⟩|⟨_,_,_,hx,_⟩
 ·rw [hx];exact (hrt.jmp x h0 h1 (.inl ho)).1
 ·rcases hx with hx|hx
  ·rw [hx];exact (hrt.jmp x h0 h1 (.inr ho)).1
  ·omega
 ·have hc:=hrt.cal x h0 h1 ho;rw [hx];exact (rd_fits hrt.fits hc.1 hc.2).1
 ·obtain ⟨z,hz,hzs,_⟩:=hC;have:=(mem_sites.1 hzs).1;omega
 ·omega
structure Tr (p:Im) (tr:List (Int × List Int)):Prop where
 hd:tr.head?=some (0,[])
 step:∀ (i:Nat) a b,tr[i]?=some a→tr[i+1]?=some b→Nxt p a.1 a.2 b.1 b.2
 stk:∀ s ∈ tr,(s.2.length:Int)≤p.f1
section
variable {p:Im} {tr:List (Int × List Int)}
theorem Tr.push (h:Tr p tr) {x x':Int} {os os':List Int} (hl:tr.getLast?=some (x,os)) (hN:Nxt p x os x' os') (hs:(os'.length:Int)≤p.f1∨os'.length≤os.length):Tr p (tr ++ [(x',os')]):=by
 have hmem:(x,os) ∈ tr:=List.mem_of_getLast? hl;refine ⟨?_,fun i a b h1 h2=>?_,fun s hs'=>?_⟩
 ·rw [List.head?_append,h.hd];rfl
 ·by_cases e:i+1 < tr.length
  ·rw [List.getElem?_append_left (by omega)] at h1;rw [List.getElem?_append_left e] at h2;exact h.step i a b h1 h2
  ·have e2:i+1=tr.length:=by
    have:=(List.getElem?_eq_some_iff.1 h2).1;simp at this;omega
   rw [List.getElem?_append_left (by omega)] at h1;rw [e2,List.getElem?_concat_length] at h2;have e3:tr[i]?=some (x,os):=by
    rw [List.getLast?_eq_getElem?] at hl;rw [← hl]
    congr 1
    omega
   rw [e3] at h1;cases h1;cases h2;exact hN
 ·rcases List.mem_append.1 hs' with h1|h1
  ·exact h.stk s h1
  ·simp at h1;subst h1
   rcases hs with hs|hs
   ·exact hs
   ·have:=h.stk _ hmem;simp at this ⊢;omega
theorem Tr.ok (hw:wfP p) (hE:encV p=0) (h:Tr p tr):∀ (i:Nat) s,tr[i]?=some s→0≤s.1∧(s.1 < p.f5.length→Chn p (funP p.f4 p.f5.length s.1) s.2):=by
 intro i
 induction i with
 | zero =>
  intro s hs;have hd:=h.hd;rw [List.head?_eq_getElem?,hs] at hd;cases hd;exact ⟨Int.le_refl _,fun _=>trivial⟩
 | succ i ih =>
  intro s hs;obtain ⟨a,ha⟩:∃ a,tr[i]?=some a:=⟨_,List.getElem?_eq_getElem (by have:=(List.getElem?_eq_some_iff.1 hs).1;omega)⟩;obtain ⟨h0,hC⟩:=ih a ha;have hN:=h.step i a s ha hs;have h1:=nxt_in h0 hN;have hx:=nxt_pos hw hE h0 (hC h1) hN;exact ⟨hx,fun h2=>(nxt_next hw hE h0 h1 (hC h1) hN).2 hx h2⟩
theorem Tr.next (hw:wfP p) (hE:encV p=0) (h:Tr p tr) (i:Nat) (a b:Int × List Int) (ha:tr[i]?=some a) (hb:tr[i+1]?=some b):0≤a.1∧a.1 < p.f5.length∧b.1 ∈ nextL p a.1:=by
 obtain ⟨h0,hC⟩:=h.ok hw hE i a ha;have hN:=h.step i a b ha hb;have h1:=nxt_in h0 hN;exact ⟨h0,h1,(nxt_next hw hE h0 h1 (hC h1) hN).1⟩
end
end Go.Proofs.YtcbnhfnnjkkceaaGreat.X
end
section
namespace Go.Proofs.YtcbnhfnnjkkceaaGreat.X
open Go.RowKit Go.Proofs.YtcbnhfnnjkkceaaGreatW.PrintWords Go.Proofs.YtcbnhfnnjkkceaaGreatW.PrintLast Go.Proofs.YtcbnhfnnjkkceaaGreatW.PrintMore Go.Proofs.YtcbnhfnnjkkceaaGreat.Gr
def TrC (pv:Value) (en:Int) (rg:Nat→Int) (mv:Value):Array Value:=#[pv,.int .i64 en,.int .u64 (rg 0),.int .u64 (rg 1),.int .u64 (rg 2),.int .u64 (rg 3),.int .u64 (rg 4),.int .u64 (rg 5),.int .u64 (rg 6),.int .u64 (rg 7),mv]
section
variable {w0 w w':World} {r mb m:Nat} {p:Im} {iv v3 v4 v5:Value} {Y:Nat→Prop} {x:Int} {rg:Nat→Int} {ov:Value} {os:List Int}
theorem MSt.setT (h:MSt w0 w r mb m p iv v3 v4 v5 Y x rg ov os) {bt:Nat} (hb:w0.heap.size≤bt∧bt≠r∧bt≠mb∧¬ Y bt) (k:Nat) (v:Value):MSt w0 (w.setCell ⟨bt,k,none⟩ v) r mb m p iv v3 v4 v5 Y x rg ov os :=
 h.keep (z2l w ⟨bt,k,none⟩ v) fun i (hi:i=bt)=>by rw [hi];exact hb
end
structure RB (w0 W:World) (r mb m:Nat) (p:Im) (iv v3 v4 v5:Value) (bt b6:Nat) (Y X:Nat→Prop) (x:Int) (rg:Nat→Int) (ov:Value) (os:List Int) (pv:Value) (l:List Int) (en:Int):Prop where
 st:MSt w0 W r mb m p iv v3 v4 v5 Y x rg ov os
 que:Que W X pv l
 tr:W.heap[bt]?=some (.cells (TrC pv en (fun _=>0) (.slice none 0 0)) 46 (0,0))
 tz:W.heap[b6]?=some (.cells (TrC (.slice none 0 0) 0 (fun _=>0) (.slice none 0 0)) 46 (0,0))
 xs:∀ i,X i→w0.heap.size≤i∧i < W.heap.size∧i≠r∧i≠mb∧¬ Y i∧i≠bt∧i≠b6
 tb:w0.heap.size≤bt∧bt≠r∧bt≠mb∧¬ Y bt
 zb:w0.heap.size≤b6∧b6≠r∧b6≠mb∧¬ Y b6
 ne:bt≠b6
section
variable {w0 w W W':World} {r mb m bt b6:Nat} {p:Im} {iv v3 v4 v5:Value} {Y X:Nat→Prop} {x:Int} {rg:Nat→Int} {ov:Value} {os:List Int} {pv:Value} {l:List Int} {en:Int}
theorem RB.step (h:RB w0 W r mb m p iv v3 v4 v5 bt b6 Y X x rg ov os pv l en) {Y':Nat→Prop} {x':Int} {rg':Nat→Int} {ov':Value} {os':List Int} (hs:MSt w0 W' r mb m p iv v3 v4 v5 Y' x' rg' ov' os') (hY:∀ i,Y' i→Y i∨W.heap.size≤i) (hf:Fr W W' (fun i=>i=r∨i=mb∨Y i)) :
  RB w0 W' r mb m p iv v3 v4 v5 bt b6 Y' X x' rg' ov' os' pv l en:=by
 have hbt:=z0s h.tr;have hb6:=z0s h.tz;have key:∀ b,b < W.heap.size→(b≠r∧b≠mb∧¬ Y b)→W'.heap[b]?=W.heap[b]?∧¬ Y' b:=fun b hb hn =>
  ⟨hf.block b hb fun hh=>hh.elim hn.1 fun hh=>hh.elim hn.2.1 hn.2.2,fun hy=>(hY b hy).elim hn.2.2 (by omega)⟩
 refine ⟨hs,h.que.fr hf fun i hi hh=>?_,(key bt hbt h.tb.2).1.trans h.tr,(key b6 hb6 h.zb.2).1.trans h.tz,fun i hi=>?_,⟨h.tb.1,h.tb.2.1,h.tb.2.2.1,(key bt hbt h.tb.2).2⟩,⟨h.zb.1,h.zb.2.1,h.zb.2.2.1,(key b6 hb6 h.zb.2).2⟩,h.ne⟩
 ·obtain ⟨_,_,h1,h2,h3,_⟩:=h.xs i hi;exact hh.elim h1 fun hh=>hh.elim h2 h3
 ·obtain ⟨a0,a1,h1,h2,h3,h4,h5⟩:=h.xs i hi;exact ⟨a0,Nat.lt_of_lt_of_le a1 hf.size,h1,h2,(key i a1 ⟨h1,h2,h3⟩).2,h4,h5⟩
theorem RB.below (h:RB w0 W r mb m p iv v3 v4 v5 bt b6 Y X x rg ov os pv l en) (hb:Below W.heap.size W W'):RB w0 W' r mb m p iv v3 v4 v5 bt b6 Y X x rg ov os pv l en :=
 ⟨h.st.below hb,h.que.below hb,z0h h.tr hb,z0h h.tz hb,fun i hi=>by obtain ⟨a0,a1,a2⟩:=h.xs i hi;exact ⟨a0,Nat.lt_of_lt_of_le a1 hb.size,a2⟩,h.tb,h.zb,h.ne⟩
theorem RB.push (h:RB w0 W r mb m p iv v3 v4 v5 bt b6 Y X x rg ov os pv l en) {pv':Value} {l':List Int} (hq:Que W' (fun i=>X i∨W.heap.size≤i) pv' l') (hf:Fr W W' (fun i=>X i∨W.heap.size≤i)) :
  RB w0 (W'.setCell ⟨bt,0,none⟩ pv') r mb m p iv v3 v4 v5 bt b6 Y (fun i=>(X i∨W.heap.size≤i)∧i < W'.heap.size) x rg ov os pv' l' en:=by
 have hbt:=z0s h.tr;have hb6:=z0s h.tz;have hlo:=h.st.bel.size;have nbt:¬ (X bt∨W.heap.size≤bt):=fun hh=>hh.elim (fun h1=>(h.xs bt h1).2.2.2.2.2.1 rfl) (by omega)
 have nb6:¬ (X b6∨W.heap.size≤b6):=fun hh=>hh.elim (fun h1=>(h.xs b6 h1).2.2.2.2.2.2 rfl) (by omega)
 have hs:=z2l W' ⟨bt,0,none⟩ pv';have hm:MSt w0 W' r mb m p iv v3 v4 v5 Y x rg ov os:=h.st.keep hf fun i hi=>hi.elim (fun h1=>by obtain ⟨a0,_,a2,a3,a4,_⟩:=h.xs i h1;exact ⟨a0,a2,a3,a4⟩) fun h1=>⟨by omega,by have:=h.st.rlt;omega,by have:=h.st.mlt;omega,fun hy=>by have:=h.st.lt i hy;omega⟩
 refine ⟨hm.setT h.tb 0 _,(hq.mono (fun i h1 h2=>⟨h2,h1⟩)).fr hs fun i hi (hh:i=bt)=>nbt (hh ▸ hi.1),z1d ((hf.block bt hbt nbt).trans h.tr) 0 _,(hs.block b6 (Nat.lt_of_lt_of_le hb6 hf.size) fun (hh:b6=bt)=>h.ne hh.symm).trans ((hf.block b6 hb6 nb6).trans h.tz),fun i hi=>?_,h.tb,h.zb,h.ne⟩
 rcases hi.1 with h1|h1
 ·obtain ⟨a0,_,a2⟩:=h.xs i h1;exact ⟨a0,Nat.lt_of_lt_of_le hi.2 hs.size,a2⟩
 ·exact ⟨by omega,Nat.lt_of_lt_of_le hi.2 hs.size,by have:=h.st.rlt;omega,by have:=h.st.mlt;omega,fun hy=>by have:=h.st.lt i hy;omega,by omega,by omega⟩
end
end Go.Proofs.YtcbnhfnnjkkceaaGreat.X
end
section
namespace Go.Proofs.YtcbnhfnnjkkceaaGreat.X
open Go.RowKit Go.Proofs.YtcbnhfnnjkkceaaGreatW.PrintWords Go.Proofs.YtcbnhfnnjkkceaaGreatW.PrintLast Go.Proofs.YtcbnhfnnjkkceaaGreatW.PrintMore
attribute [local go_sem] z1w z1x z23 z26 z1r z1q z1u z1v
mutual
def z0i.j0:Nat→Int→Bool→Int→Int→Int→List Int→List Int→List (S79)→Option (Int)
 | 0,_,_,_,_,_,_,_,_=>none
 | k+1,x1,x15,xaa,xab,xac,xad,xae,xaf=>if x15=true then (some (-1)) else (z0i.l0 k x1 (-1) 0 xaa xab xac xad xae xaf)
def z0i.l0:Nat→Int→Int→Int→Int→Int→Int→List Int→List Int→List (S79)→Option (Int)
 | 0,_,_,_,_,_,_,_,_,_=>none
 | k+1,x1,x5,x6,xaa,xab,xac,xad,xae,xaf=>if x6 < (xae.length:Int) then (if 0≤x6 then (if (rd xae x6)≤x1 then (z0i.l0 k x1 x6 (wrap64 (x6+1)) xaa xab xac xad xae xaf) else (z0i.l0 k x1 x5 (wrap64 (x6+1)) xaa xab xac xad xae xaf)) else (none)) else (some x5)
end
def z0i.f (k:Nat) (a0_0:Int) (a0_1:Int) (a0_2:Int) (l0_3:List Int) (l0_4:List Int) (l0_5:List (S79)) (a1:Int):Option (Int):=if a1 < 0 then (z0i.j0 k a1 true a0_0 a0_1 a0_2 l0_3 l0_4 l0_5) else (z0i.j0 k a1 (decide (a1 ≥ (l0_5.length:Int))) a0_0 a0_1 a0_2 l0_3 l0_4 l0_5)
theorem z0i.mono_l:∀ k,(∀ y0 y1 y2 y3 y4 y5 y6 y7,LeO (z0i.j0 k y0 y1 y2 y3 y4 y5 y6 y7) (z0i.j0 (k+1) y0 y1 y2 y3 y4 y5 y6 y7))∧(∀ y0 y1 y2 y3 y4 y5 y6 y7 y8,LeO (z0i.l0 k y0 y1 y2 y3 y4 y5 y6 y7 y8) (z0i.l0 (k+1) y0 y1 y2 y3 y4 y5 y6 y7 y8))
 | 0=>⟨fun _ _ _ _ _ _ _ _ r h=>by simp [z0i.j0] at h,fun _ _ _ _ _ _ _ _ _ r h=>by simp [z0i.l0] at h⟩
 | k+1=>by
  obtain ⟨ih0,ih1⟩:=z0i.mono_l k;refine ⟨?_,?_⟩
  ·intro y0 y1 y2 y3 y4 y5 y6 y7;unfold z0i.j0
   repeat' first|exact ih0 _ _ _ _ _ _ _ _|exact ih1 _ _ _ _ _ _ _ _ _|exact LeO.none _|refine LeO.ite ?_ ?_|refine LeO.bind ?_ (fun _=>?_)|exact LeO.refl _
  ·intro y0 y1 y2 y3 y4 y5 y6 y7 y8;unfold z0i.l0
   repeat' first|exact ih0 _ _ _ _ _ _ _ _|exact ih1 _ _ _ _ _ _ _ _ _|exact LeO.none _|refine LeO.ite ?_ ?_|refine LeO.bind ?_ (fun _=>?_)|exact LeO.refl _
theorem z0i.mono:∀ a0 a1 a2 a3 a4 a5 a6 k,LeO (z0i.f k a0 a1 a2 a3 a4 a5 a6) (z0i.f (k+1) a0 a1 a2 a3 a4 a5 a6):=by
 intro a0 a1 a2 a3 a4 a5 a6 k;obtain ⟨ih0,ih1⟩:=z0i.mono_l k;unfold z0i.f
 repeat' first|exact ih0 _ _ _ _ _ _ _ _|exact ih1 _ _ _ _ _ _ _ _ _|exact LeO.none _|refine LeO.ite ?_ ?_|refine LeO.bind ?_ (fun _=>?_)|exact LeO.refl _
theorem z0i.calls (k:Nat) (a0_0:Int) (a0_1:Int) (a0_2:Int) (A0_3:Option Addr) (c0_3:Nat) (l0_3:List Int) (A0_4:Option Addr) (c0_4:Nat) (l0_4:List Int) (A0_5:Option Addr) (c0_5:Nat) (l0_5:List (S79)) (a1:Int) (r:Int) (w:World) (hr0_3:Kd.C (Kd.int .u8) w A0_3 l0_3.length l0_3) (hc0_3:l0_3.length≤c0_3) (hr0_4:Kd.C (Kd.int .i64) w A0_4 l0_4.length l0_4) (hc0_4:l0_4.length≤c0_4) (hr0_5:Kd.C k79 w A0_5 l0_5.length l0_5) (hc0_5:l0_5.length≤c0_5) (h:z0i.f k a0_0 a0_1 a0_2 l0_3 l0_4 l0_5 a1=some r) :
  Calls Tryz.prog 65 #[.agg #[.int .i64 a0_0,.int .i64 a0_1,.int .i64 a0_2,.slice A0_3 l0_3.length c0_3,.slice A0_4 l0_4.length c0_4,.slice A0_5 l0_5.length c0_5],.int .i64 a1] w fun e w'=>e=.returned (.int .i64 r)∧Below w.heap.size w w':=by
 have hu26:=Tryz.underlying26;have HR0_3:=Aside0.mk hr0_3;have HC0_3:=Aside0.mk hc0_3;clear hr0_3 hc0_3;have HR0_4:=Aside0.mk hr0_4;have HC0_4:=Aside0.mk hc0_4;clear hr0_4 hc0_4;have HR0_5:=Aside0.mk hr0_5;have HC0_5:=Aside0.mk hc0_5;clear hr0_5 hc0_5;have HB:=Aside0.mk (Below.refl w.heap.size w);have H:(if a1 < 0 then (z0i.j0 k a1 true a0_0 a0_1 a0_2 l0_3 l0_4 l0_5) else (z0i.j0 k a1 (decide (a1 ≥ (l0_5.length:Int))) a0_0 a0_1 a0_2 l0_3 l0_4 l0_5))=some r:=h;clear h;have HC3:=Aside0.mk H;clear H
 go_enter Tryz.func65,Tryz.ntmps65
 go_upto_region 1 with (first|((with_reducible refine z15 (N:=2) rfl ?_);(try (refine z20 (by rfl) ?_;dsimp only));refine z1e ?hg (N:=2) ?hd (cs:=#[.int .i64 a0_0,.int .i64 a0_1,.int .i64 a0_2,.slice A0_3 l0_3.length c0_3,.slice A0_4 l0_4.length c0_4,.slice A0_5 l0_5.length c0_5]) (t:=26) ?hr ?_;(case hd=>rfl);(case hg=>rfl);(case hr=>first|(go_simp;done)|(go_simp;rfl));intro gb216 hg w4 hbox hb;have n0_:=Aside0.mk (z0t (by repeat (first|exact HB.out|apply z04|apply z03|apply z05)) hb);have n1_:=Aside0.mk (hbox);have n2_:=Aside0.mk ((by rw [hg];exact (z0o (by repeat (first|exact HB.out|apply z04|apply z03|apply z05))):w.heap.size≤gb216));have n3_:=Aside0.mk ((by rw [hg];exact (z0o (by repeat (first|exact HB.out|apply z04|apply z03|apply z05))):w.heap.size≤gb216));clear HB;have HB:=n0_;have BK216:=n1_;have GW216:=n2_;have GE216:=n3_;clear n0_ n1_ n2_ n3_;clear hb hbox hg))
 (try simp only [Act.put,zq1,zq2,zq3])
 go_cut [15] (fun v15 wc=>∃ (kq:Nat) (x15_2:Bool),v15=.bool x15_2∧Aside0 (z0i.j0 kq a1 x15_2 a0_0 a0_1 a0_2 l0_3 l0_4 l0_5=some r)∧Aside0 (kq≤k)∧Aside0 (wc.heap[gb216]?=some (.cells #[.int .i64 a0_0,.int .i64 a0_1,.int .i64 a0_2,(.slice A0_3 l0_3.length c0_3),(.slice A0_4 l0_4.length c0_4),(.slice A0_5 l0_5.length c0_5)] 26 (0,0)))∧Aside0 (Below w.heap.size w wc))
 case first =>
  have H:=HC3.out;clear HC3
  by_cases c5:a1 < 0
  ·rw [if_pos c5] at H;have c5b0:decide (a1 < 0)=true:=decide_eq_true c5;clear c5
   (first|rw [c5b0]|(simp only [i64_w,i32_w];rw [c5b0])|skip)
   have H':=Aside0.mk H;clear H;go_wp2
   go_meet
   case rel=>exact ⟨_,(true),(by first|rfl|(simp;done)|(simp [*];done)),H',⟨by first|omega|exact Nat.le_refl _⟩,⟨by (with_reducible repeat (first|refine z08 ?_ _|refine z09 ?_|refine z06 ?_ _));exact BK216.out⟩,⟨by repeat (first|(with_reducible first|exact HB.out|apply z04|apply z03|apply z05|refine z07 ?_ GE216.out)|exact HB.out)⟩⟩
  ·rw [if_neg c5] at H;have c5b0:decide (a1 < 0)=false:=decide_eq_false c5;clear c5
   (first|rw [c5b0]|(simp only [i64_w,i32_w];rw [c5b0])|skip)
   have H':=Aside0.mk H;clear H;have hcz6_0:w4.cell? ⟨gb216,0,none⟩=some (.int .i64 a0_0):=(z01 BK216.out 0).trans rfl;have hcz6_1:w4.cell? ⟨gb216,1,none⟩=some (.int .i64 a0_1):=(z01 BK216.out 1).trans rfl;have hcz6_2:w4.cell? ⟨gb216,2,none⟩=some (.int .i64 a0_2):=(z01 BK216.out 2).trans rfl;have hcz6_3:w4.cell? ⟨gb216,3,none⟩=some (.slice A0_3 l0_3.length c0_3):=(z01 BK216.out 3).trans rfl;have hcz6_4:w4.cell? ⟨gb216,4,none⟩=some (.slice A0_4 l0_4.length c0_4):=(z01 BK216.out 4).trans rfl;have hcz6_5:w4.cell? ⟨gb216,5,none⟩=some (.slice A0_5 l0_5.length c0_5):=(z01 BK216.out 5).trans rfl;have hfz6_0:=z02 BK216.out 0;have hfz6_1:=z02 BK216.out 1;have hfz6_2:=z02 BK216.out 2;have hfz6_3:=z02 BK216.out 3;have hfz6_4:=z02 BK216.out 4;have hfz6_5:=z02 BK216.out 5;go_wp2
   go_meet
   case rel=>exact ⟨_,(decide (a1 ≥ (l0_5.length:Int))),(by first|rfl|(simp;done)|(simp [*];done)),H',⟨by first|omega|exact Nat.le_refl _⟩,⟨by (with_reducible repeat (first|refine z08 ?_ _|refine z09 ?_|refine z06 ?_ _));exact BK216.out⟩,⟨by repeat (first|(with_reducible first|exact HB.out|apply z04|apply z03|apply z05|refine z07 ?_ GE216.out)|exact HB.out)⟩⟩
 case rest =>
  clear HC3;obtain ⟨kq,x15_2,rfl,HA,HJ2,BK216,HB⟩:=hcut;cases kq with
  | zero=>exact absurd HA.out (by simp [z0i.j0])
  | succ kj2 =>
   have H:=HA.out;clear HA;simp only [z0i.j0] at H
   by_cases c7:x15_2=true
   ·subst c7;have H1:(some (-1))=some r:=(by rw [if_pos rfl] at H;exact H);clear H;have H:=H1;clear H1;obtain rfl:=Option.some.inj H;go_wp2;go_ret
    exact ⟨by first|rfl|(simp [z0k,z0j] <;> rfl)|(simp [*,z0k,z0j] <;> rfl),by repeat (first|(with_reducible first|exact HB.out|apply z04|apply z03|apply z05|refine z07 ?_ GE216.out)|exact HB.out)⟩
   ·replace c7:=Bool.eq_false_iff.mpr c7;subst c7;have H1:(z0i.l0 kj2 a1 (-1) 0 a0_0 a0_1 a0_2 l0_3 l0_4 l0_5)=some r:=(by rw [if_neg (show ¬ (false=true) by decide)] at H;exact H);clear H;have H:=H1;clear H1;have H':=Aside0.mk H;clear H;go_wp2
    go_loopg [5,6] kj2 (fun kq v5 v6 w'=>∃ (x5_2:Int) (x6_2:Int),v5=.int .i64 x5_2∧v6=.int .i64 x6_2∧Aside0 (z0i.l0 kq a1 x5_2 x6_2 a0_0 a0_1 a0_2 l0_3 l0_4 l0_5=some r)∧Aside0 (kq≤kj2)∧Aside0 (w'.heap[gb216]?=some (.cells #[.int .i64 a0_0,.int .i64 a0_1,.int .i64 a0_2,(.slice A0_3 l0_3.length c0_3),(.slice A0_4 l0_4.length c0_4),(.slice A0_5 l0_5.length c0_5)] 26 (0,0)))∧Aside0 (Below w.heap.size w w'))
    case atStart=>exact ⟨((-1)),(0),(by first|rfl|(simp;done)|(simp [*];done)),(by first|rfl|(simp;done)|(simp [*];done)),H',⟨Nat.le_refl _⟩,⟨by (with_reducible repeat (first|refine z08 ?_ _|refine z09 ?_|refine z06 ?_ _));exact BK216.out⟩,⟨by repeat (first|(with_reducible first|exact HB.out|apply z04|apply z03|apply z05|refine z07 ?_ GE216.out)|exact HB.out)⟩⟩
    case round =>
     clear H';obtain ⟨x5_2,x6_2,rfl,rfl,HA,HK2,BK216,HB⟩:=hrel;cases gk with
     | zero=>exact absurd HA.out (by simp [z0i.l0])
     | succ k2 =>
      have H:=HA.out;clear HA;simp only [z0i.l0] at H
      by_cases c8:x6_2 < (l0_4.length:Int)
      ·rw [if_pos c8] at H;have c8b0:decide (x6_2 < (l0_4.length:Int))=true:=decide_eq_true c8;clear c8
       by_cases c9:0≤x6_2
       ·rw [if_pos c9] at H;have c9b0:decide (0≤x6_2)=true:=decide_eq_true c9;clear c9
        by_cases c10:(rd l0_4 x6_2)≤a1
        ·rw [if_pos c10] at H;have c10b0:decide ((rd l0_4 x6_2)≤a1)=true:=decide_eq_true c10;clear c10;have H':=Aside0.mk H;clear H;have hcz11_0:wr.cell? ⟨gb216,0,none⟩=some (.int .i64 a0_0):=(z01 BK216.out 0).trans rfl;have hcz11_1:wr.cell? ⟨gb216,1,none⟩=some (.int .i64 a0_1):=(z01 BK216.out 1).trans rfl;have hcz11_2:wr.cell? ⟨gb216,2,none⟩=some (.int .i64 a0_2):=(z01 BK216.out 2).trans rfl;have hcz11_3:wr.cell? ⟨gb216,3,none⟩=some (.slice A0_3 l0_3.length c0_3):=(z01 BK216.out 3).trans rfl;have hcz11_4:wr.cell? ⟨gb216,4,none⟩=some (.slice A0_4 l0_4.length c0_4):=(z01 BK216.out 4).trans rfl;have hcz11_5:wr.cell? ⟨gb216,5,none⟩=some (.slice A0_5 l0_5.length c0_5):=(z01 BK216.out 5).trans rfl;have hfz11_0:=z02 BK216.out 0;have hfz11_1:=z02 BK216.out 1;have hfz11_2:=z02 BK216.out 2;have hfz11_3:=z02 BK216.out 3;have hfz11_4:=z02 BK216.out 4;have hfz11_5:=z02 BK216.out 5;have p217:0≤(x6_2:Int):=of_decide_eq_true (by assumption);have q217:x6_2 < (l0_4.length:Int):=of_decide_eq_true (by assumption);obtain ⟨ad217,e217,hx217_0⟩:=Kd.at_int HR0_4.out x6_2 p217 q217;cases e217;replace hx217_0:=(HB.out.cell (World.block_lt_of_cell? w _ hx217_0)).trans hx217_0;replace p217:=eq_true p217;replace q217:=eq_true q217;go_wp2
         go_roundg k2
         case measure=>have:=HJ2.out;have:=HK2.out;omega
         case rel=>exact ⟨(x6_2),(wrap64 (x6_2+1)),(by first|rfl|(simp;done)|(simp [*];done)),(by first|rfl|(simp;done)|(simp [*];done)),H',⟨by have:=HJ2.out;have:=HK2.out;omega⟩,⟨by (with_reducible repeat (first|refine z08 ?_ _|refine z09 ?_|refine z06 ?_ _));exact BK216.out⟩,⟨by repeat (first|(with_reducible first|exact HB.out|apply z04|apply z03|apply z05|refine z07 ?_ GE216.out)|exact HB.out)⟩⟩
        ·rw [if_neg c10] at H;have c10b0:decide ((rd l0_4 x6_2)≤a1)=false:=decide_eq_false c10;clear c10;have H':=Aside0.mk H;clear H;have hcz12_0:wr.cell? ⟨gb216,0,none⟩=some (.int .i64 a0_0):=(z01 BK216.out 0).trans rfl;have hcz12_1:wr.cell? ⟨gb216,1,none⟩=some (.int .i64 a0_1):=(z01 BK216.out 1).trans rfl;have hcz12_2:wr.cell? ⟨gb216,2,none⟩=some (.int .i64 a0_2):=(z01 BK216.out 2).trans rfl;have hcz12_3:wr.cell? ⟨gb216,3,none⟩=some (.slice A0_3 l0_3.length c0_3):=(z01 BK216.out 3).trans rfl;have hcz12_4:wr.cell? ⟨gb216,4,none⟩=some (.slice A0_4 l0_4.length c0_4):=(z01 BK216.out 4).trans rfl;have hcz12_5:wr.cell? ⟨gb216,5,none⟩=some (.slice A0_5 l0_5.length c0_5):=(z01 BK216.out 5).trans rfl;have hfz12_0:=z02 BK216.out 0;have hfz12_1:=z02 BK216.out 1;have hfz12_2:=z02 BK216.out 2;have hfz12_3:=z02 BK216.out 3;have hfz12_4:=z02 BK216.out 4;have hfz12_5:=z02 BK216.out 5;have p217:0≤(x6_2:Int):=of_decide_eq_true (by assumption);have q217:x6_2 < (l0_4.length:Int):=of_decide_eq_true (by assumption);obtain ⟨ad217,e217,hx217_0⟩:=Kd.at_int HR0_4.out x6_2 p217 q217;cases e217;replace hx217_0:=(HB.out.cell (World.block_lt_of_cell? w _ hx217_0)).trans hx217_0;replace p217:=eq_true p217;replace q217:=eq_true q217;go_wp2
         go_roundg k2
         case measure=>have:=HJ2.out;have:=HK2.out;omega
         case rel=>exact ⟨(x5_2),(wrap64 (x6_2+1)),(by first|rfl|(simp;done)|(simp [*];done)),(by first|rfl|(simp;done)|(simp [*];done)),H',⟨by have:=HJ2.out;have:=HK2.out;omega⟩,⟨by (with_reducible repeat (first|refine z08 ?_ _|refine z09 ?_|refine z06 ?_ _));exact BK216.out⟩,⟨by repeat (first|(with_reducible first|exact HB.out|apply z04|apply z03|apply z05|refine z07 ?_ GE216.out)|exact HB.out)⟩⟩
       ·rw [if_neg c9] at H;exact absurd H (by simp)
      ·rw [if_neg c8] at H;have c8b0:decide (x6_2 < (l0_4.length:Int))=false:=decide_eq_false c8;clear c8;obtain rfl:=Option.some.inj H;have hcz13_0:wr.cell? ⟨gb216,0,none⟩=some (.int .i64 a0_0):=(z01 BK216.out 0).trans rfl;have hcz13_1:wr.cell? ⟨gb216,1,none⟩=some (.int .i64 a0_1):=(z01 BK216.out 1).trans rfl;have hcz13_2:wr.cell? ⟨gb216,2,none⟩=some (.int .i64 a0_2):=(z01 BK216.out 2).trans rfl;have hcz13_3:wr.cell? ⟨gb216,3,none⟩=some (.slice A0_3 l0_3.length c0_3):=(z01 BK216.out 3).trans rfl;have hcz13_4:wr.cell? ⟨gb216,4,none⟩=some (.slice A0_4 l0_4.length c0_4):=(z01 BK216.out 4).trans rfl;have hcz13_5:wr.cell? ⟨gb216,5,none⟩=some (.slice A0_5 l0_5.length c0_5):=(z01 BK216.out 5).trans rfl;have hfz13_0:=z02 BK216.out 0;have hfz13_1:=z02 BK216.out 1;have hfz13_2:=z02 BK216.out 2;have hfz13_3:=z02 BK216.out 3;have hfz13_4:=z02 BK216.out 4;have hfz13_5:=z02 BK216.out 5;go_wp2;go_ret
       exact ⟨by first|rfl|(simp [z0k,z0j] <;> rfl)|(simp [*,z0k,z0j] <;> rfl),by repeat (first|(with_reducible first|exact HB.out|apply z04|apply z03|apply z05|refine z07 ?_ GE216.out)|exact HB.out)⟩
def z1k.f (a0:Int):Option (Bool):=if a0 ≥ 0 then (if a0≤25 then (if a0=0 then (some false) else (if a0=21 then (some false) else (if a0=24 then (some false) else (some (a0 != 25))))) else (some false)) else (some false)
theorem z1k.calls (a0:Int) (r:Bool) (w:World) (h:z1k.f a0=some r) :
  Calls Tryz.prog 86 #[.int .i64 a0] w fun e w'=>e=.returned (.bool r)∧Drawn0 w w':=by
 have H:(if a0 ≥ 0 then (if a0≤25 then (if a0=0 then (some false) else (if a0=21 then (some false) else (if a0=24 then (some false) else (some (a0 != 25))))) else (some false)) else (some false))=some r:=h;clear h
 by_cases c2:a0 ≥ 0
 ·rw [if_pos c2] at H;have c2b0:decide (0≤a0)=true:=decide_eq_true c2;clear c2
  by_cases c3:a0≤25
  ·rw [if_pos c3] at H;have c3b0:decide (a0≤25)=true:=decide_eq_true c3;clear c3
   by_cases c4:a0=0
   ·rw [if_pos c4] at H;have c4b0:(a0 == 0)=true:=beq_iff_eq.mpr c4;have c4b1:(a0 != 0)=false:=bne_eq_false_iff_eq.mpr c4;clear c4;obtain rfl:=Option.some.inj H
    go_enter Tryz.func86,Tryz.ntmps86
    go_wp2;go_ret
    exact ⟨by first|rfl|(simp;done)|(simp [*];done),by repeat (first|exact Drawn0.refl _|apply Drawn0.step)⟩
   ·rw [if_neg c4] at H;have c4b0:(a0 == 0)=false:=beq_eq_false_iff_ne.mpr c4;have c4b1:(a0 != 0)=true:=bne_iff_ne.mpr c4
    by_cases c5:a0=21
    ·rw [if_pos c5] at H;have c5b0:(a0 == 21)=true:=beq_iff_eq.mpr c5;have c5b1:(a0 != 21)=false:=bne_eq_false_iff_eq.mpr c5;clear c5;obtain rfl:=Option.some.inj H
     go_enter Tryz.func86,Tryz.ntmps86
     go_wp2;go_ret
     exact ⟨by first|rfl|(simp;done)|(simp [*];done),by repeat (first|exact Drawn0.refl _|apply Drawn0.step)⟩
    ·rw [if_neg c5] at H;have c5b0:(a0 == 21)=false:=beq_eq_false_iff_ne.mpr c5;have c5b1:(a0 != 21)=true:=bne_iff_ne.mpr c5
     by_cases c6:a0=24
     ·rw [if_pos c6] at H;have c6b0:(a0 == 24)=true:=beq_iff_eq.mpr c6;have c6b1:(a0 != 24)=false:=bne_eq_false_iff_eq.mpr c6;clear c6;obtain rfl:=Option.some.inj H
      go_enter Tryz.func86,Tryz.ntmps86
      go_wp2;go_ret
      exact ⟨by first|rfl|(simp;done)|(simp [*];done),by repeat (first|exact Drawn0.refl _|apply Drawn0.step)⟩
     ·rw [if_neg c6] at H;have c6b0:(a0 == 24)=false:=beq_eq_false_iff_ne.mpr c6;have c6b1:(a0 != 24)=true:=bne_iff_ne.mpr c6;obtain rfl:=Option.some.inj H
      go_enter Tryz.func86,Tryz.ntmps86
      go_wp2;go_ret
      exact ⟨by first|rfl|(simp;done)|(simp [*];done),by repeat (first|exact Drawn0.refl _|apply Drawn0.step)⟩
  ·rw [if_neg c3] at H;have c3b0:decide (a0≤25)=false:=decide_eq_false c3;clear c3;obtain rfl:=Option.some.inj H
   go_enter Tryz.func86,Tryz.ntmps86
   go_wp2;go_ret
   exact ⟨by first|rfl|(simp;done)|(simp [*];done),by repeat (first|exact Drawn0.refl _|apply Drawn0.step)⟩
 ·rw [if_neg c2] at H;have c2b0:decide (0≤a0)=false:=decide_eq_false c2;clear c2;obtain rfl:=Option.some.inj H
  go_enter Tryz.func86,Tryz.ntmps86
  go_wp2;go_ret
  exact ⟨by first|rfl|(simp;done)|(simp [*];done),by repeat (first|exact Drawn0.refl _|apply Drawn0.step)⟩
end Go.Proofs.YtcbnhfnnjkkceaaGreat.X
end
