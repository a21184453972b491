/- For the statement of the row : what its proof needs of the text M9. -/
import Derived.Deep.Slices
import Derived.ChangeArms
import Derived.WideShapes
import Derived.DataReads
import Derived.RangeFuncNested
import Derived.RangeFuncBound
import Derived.RangeFuncCalls
import Derived.RangeFuncLeaves
import Derived.Maps.OwnIn
import Derived.Test.YtcbnhfnnjkkceaaGreatOM1
import Derived.Test.YtcbnhfnnjkkceaaGreatOM2
import Derived.Test.YtcbnhfnnjkkceaaGreatOM3
import Derived.Test.YtcbnhfnnjkkceaaGreatOM4
import Derived.Test.YtcbnhfnnjkkceaaGreatOM5
import Derived.Test.YtcbnhfnnjkkceaaGreatOM7
import Derived.Test.YtcbnhfnnjkkceaaGreatOM8
set_option maxHeartbeats 8000000
set_option maxRecDepth 100000
set_option linter.constructorNameAsVariable false
set_option linter.unusedSimpArgs false
set_option linter.unusedVariables false

section
namespace Go.Proofs.YtcbnhfnnjkkceaaGreat.X
open Go.RowKit Go.Proofs.YtcbnhfnnjkkceaaGreatW.PrintWords Go.Proofs.YtcbnhfnnjkkceaaGreatW.PrintLast Go.Proofs.YtcbnhfnnjkkceaaGreatW.PrintMore Go.Proofs.YtcbnhfnnjkkceaaGreat.Gr
theorem GrM.below {w w1:World} {g B:Nat} {p:Im} (h:GrM w g B p) (hb:Below w.heap.size w w1):GrM w1 g B p:=by
 obtain ⟨h0,dv,fv,cv,bs,n,V,h1,h2,h3,h4⟩:=h;exact ⟨h0,dv,fv,cv,bs,n,V,h1.keep fun k hk=>hb.block k (h1.ne h2 hk).1,(hb.block g (z0s h2)).trans h2,h3.keep fun i hi=>hb.block i (h3.in_lt hi).2.1,h4⟩
theorem GrM.lt {w:World} {g B:Nat} {p:Im} (h:GrM w g B p):g < w.heap.size:=by
 obtain ⟨h0,dv,fv,cv,bs,n,V,h1,h2,h3,h4⟩:=h;exact z0s h2
def RowPost (w:World) (g B:Nat) (p:Im) (l:List Int) (e:Ending) (w':World):Prop:=∃ v,e=.returned v∧Kd.R (Kd.int .i64) 3 w' w.heap.size (fun _=>True) v l∧GrM w' g B p∧Fr w w' (fun i=>i=g)
def RowPost2 (w:World) (g B:Nat) (p:Im) (l:List Int) (e:Ending) (w':World):Prop:=RowPost w g B p l e w'∧∀ Y,GrY w g B p Y→GrY w' g B p (fun i=>Y i∨w.heap.size≤i)
set_option maxHeartbeats 4000000 in
theorem rowPrev2 {w:World} {g B b:Nat} {p:Im} (hp:Rt p) (hg:Gr w g B p) (hb:w.heap[b]?=some (.cells #[.pointer (some ⟨g,0,none⟩)] 29 (0,0))) {x:Int} (hx:Gr.wfI x) :
  Calls Tryz.prog 59 #[.pointer (some ⟨g,0,none⟩),.func (.func 62) #[] #[.pointer (some ⟨b,0,none⟩)],.int .i64 x] w (RowPost2 w g B p (prevL p x)):=by
 have HDO:=Aside0.mk (do_calls2 hp hg);have HLT:=Aside0.mk hg.lt;have hbg:b≠g:=fun e=>by
  obtain ⟨c,hc⟩:=hg.typed;rw [e,hc] at hb;injection hb with hb
  injection hb with _ hb
  exact absurd hb (by decide)
 have HB:=Aside0.mk hb;have hmf:∀ (fn:Fn) (first cap:Array Value) (w:World),(Instr.makeFunc fn first cap).run Tryz.prog w=.ok (.func fn first cap) w:=fun _ _ _ _=>rfl
 clear hg hb
 go_enter Tryz.func59,Tryz.ntmps59
 go_wp2_with fail
 refine HDO.out.mono ?_;rintro e w1 ⟨rfl,hM,hF,hY⟩;have HY:=Aside0.mk hY;clear hY;have HM:=Aside0.mk hM;have HF:=Aside0.mk hF;obtain ⟨_,dv,fv,cv,bs,n,V,hgp,hh,ht,hn⟩:=hM;have c0:=cell_of_one ((hF.block b (z0s HB.out) hbg).trans HB.out);have c1:w1.cell? ⟨g,9+1,none⟩=some (.map (some (bs 1))):=(z01 hh (9+1)).trans rfl;have hlk:=(ht.maps 1 (by omega)).look mt hx;have hrow:=ints_R (ht.rows 1 x (by omega) hx);have hlen:=ht.len 1 x (by omega) hx;obtain ⟨A,c,ev⟩:=Kd.R_slice hrow;rw [ev] at hlk hrow;have HCL:=Aside0.mk (clone_int A c (rowsG p 1 x) w1 (Kd.R_reads' hrow).2.2 (Kd.R_reads' hrow).2.1 (by omega));have HSZ:=Aside0.mk hF.size;clear hF hgp hh ht hrow hlen ev
 go_wp2_with (first|(go_at_call 83;refine HCL.out.mono ?_;rintro e w2 ⟨v,rfl,hR,hB2⟩)|go_in)
 go_ret
 exact ⟨⟨_,rfl,Kd.R_lower hR HSZ.out,HM.out.below hB2,HF.out.trans (Fr.mono (Fr.of_below hB2) fun i h1 h2=>by omega)⟩,fun Y h=>(HY.out Y h).below hB2⟩
set_option maxHeartbeats 4000000 in
theorem graphPrev2 {w:World} {g B:Nat} {p:Im} (hp:Rt p) (hg:Gr w g B p) {x:Int} (hx:Gr.wfI x) :
  Calls Tryz.prog 22 #[.pointer (some ⟨g,0,none⟩),.int .i64 x] w (RowPost2 w g B p (prevL p x)):=by
 have hbl:=z04 (Below.refl w.heap.size w) (.cells #[.pointer (some ⟨g,0,none⟩)] 29);have HR:=Aside0.mk (rowPrev2 hp (hg.below hbl) (z14 w (.cells #[.pointer (some ⟨g,0,none⟩)] 29)) hx);have HF:=Aside0.mk (Fr.mono (Fr.of_below hbl) (S':=fun i=>i=g) fun i h1 h2=>by omega);have HSZ:=Aside0.mk hbl.size;have HBL:=Aside0.mk hbl;have hmf:∀ (fn:Fn) (first cap:Array Value) (w:World),(Instr.makeFunc fn first cap).run Tryz.prog w=.ok (.func fn first cap) w:=fun _ _ _ _=>rfl
 clear hg hbl
 go_enter Tryz.func22,Tryz.ntmps22
 go_wp2_with fail
 refine HR.out.mono ?_;rintro e w2 ⟨⟨v,rfl,hR,hM,hF⟩,hY⟩;have HY:=Aside0.mk hY;clear hY;have HRR:=Aside0.mk hR;have HM:=Aside0.mk hM;have HF2:=Aside0.mk hF;clear hR hM hF;go_wp2;go_ret
 exact ⟨⟨_,rfl,Kd.R_lower HRR.out HSZ.out,HM.out,HF.out.trans HF2.out⟩,fun Y h=>(HY.out Y (h.below HBL.out)).mono fun i hi=>hi.elim .inl fun h2=>.inr (Nat.le_trans HSZ.out h2)⟩
set_option maxHeartbeats 4000000 in
theorem z34 {w:World} {g B:Nat} {p:Im} (hg:Gr w g B p) (hl3:p.f3.length≤100) (hl4:p.f4.length≤40) (hl5:p.f5.length≤300) :
  Calls Tryz.prog 18 #[.pointer (some ⟨g,0,none⟩)] w fun e w'=>∃ v3 v4 v5,e=.returned (.agg #[.int .i64 p.f0,.int .i64 p.f1,.int .i64 p.f2,v3,v4,v5]) ∧
   Kd.R (Kd.int .u8) 5 w' w.heap.size (fun _=>True) v3 p.f3∧Kd.R (Kd.int .i64) 3 w' w.heap.size (fun _=>True) v4 p.f4∧Kd.R k79 79 w' w.heap.size (fun _=>True) v5 p.f5∧Below w.heap.size w w':=by
 obtain ⟨hB,dv,fv,cv,hgp,hh⟩:=hg;have hcs:∃ d st m,w.heap[g]?=some (.cells (z1m p dv fv cv d st m) 97 (0,0)):=by
  rcases hh with hh|⟨bs,n,V,hh,_⟩
  ·exact ⟨_,_,_,hh⟩
  ·exact ⟨_,_,_,hh⟩
 obtain ⟨d,st,m,hc⟩:=hcs;clear hh;obtain ⟨A3,n3,c3,e3⟩:∃ A n c,dv=.slice A n c:=by obtain ⟨A,c,h⟩:=Kd.R_slice hgp.d;exact ⟨_,_,_,h⟩
 obtain ⟨A4,n4,c4,e4⟩:∃ A n c,fv=.slice A n c:=by obtain ⟨A,c,h⟩:=Kd.R_slice hgp.f;exact ⟨_,_,_,h⟩
 obtain ⟨A5,n5,c5,e5⟩:∃ A n c,cv=.slice A n c:=by obtain ⟨A,c,h⟩:=Kd.R_slice hgp.c;exact ⟨_,_,_,h⟩
 subst e3;subst e4;subst e5;obtain rfl:=(Kd.R_reads' hgp.d).1;obtain rfl:=(Kd.R_reads' hgp.f).1;obtain rfl:=(Kd.R_reads' hgp.c).1;have hbl:=z04 (Below.refl w.heap.size w) (Obj.cells #[.int .i64 0,.int .i64 0,.int .i64 0,.slice none 0 0,.slice none 0 0,.slice none 0 0] 26);have HC:=Aside0.mk (copied_calls p.f0 p.f1 p.f2 A3 c3 p.f3 A4 c4 p.f4 A5 c5 p.f5 (w.alloc (Obj.cells #[.int .i64 0,.int .i64 0,.int .i64 0,.slice none 0 0,.slice none 0 0,.slice none 0 0] 26))
  (Kd.C_below (Kd.R_reads' hgp.d).2.2 hbl) (Kd.R_reads' hgp.d).2.1 (Kd.C_below (Kd.R_reads' hgp.f).2.2 hbl) (Kd.R_reads' hgp.f).2.1 (Kd.C_below (Kd.R_reads' hgp.c).2.2 hbl) (Kd.R_reads' hgp.c).2.1 hl3 hl4 hl5)
 have hc1:=z06 hc (Obj.cells #[.int .i64 0,.int .i64 0,.int .i64 0,.slice none 0 0,.slice none 0 0,.slice none 0 0] 26);have k0:(w.alloc (Obj.cells #[.int .i64 0,.int .i64 0,.int .i64 0,.slice none 0 0,.slice none 0 0,.slice none 0 0] 26)).cell? ⟨g,0,none⟩=some (.int .i64 p.f0):=(z01 hc1 0).trans rfl;have k1:(w.alloc (Obj.cells #[.int .i64 0,.int .i64 0,.int .i64 0,.slice none 0 0,.slice none 0 0,.slice none 0 0] 26)).cell? ⟨g,1,none⟩=some (.int .i64 p.f1):=(z01 hc1 1).trans rfl;have k2:(w.alloc (Obj.cells #[.int .i64 0,.int .i64 0,.int .i64 0,.slice none 0 0,.slice none 0 0,.slice none 0 0] 26)).cell? ⟨g,2,none⟩=some (.int .i64 p.f2):=(z01 hc1 2).trans rfl;have k3:(w.alloc (Obj.cells #[.int .i64 0,.int .i64 0,.int .i64 0,.slice none 0 0,.slice none 0 0,.slice none 0 0] 26)).cell? ⟨g,3,none⟩=some (.slice A3 p.f3.length c3):=(z01 hc1 3).trans rfl;have k4:(w.alloc (Obj.cells #[.int .i64 0,.int .i64 0,.int .i64 0,.slice none 0 0,.slice none 0 0,.slice none 0 0] 26)).cell? ⟨g,4,none⟩=some (.slice A4 p.f4.length c4):=(z01 hc1 4).trans rfl;have k5:(w.alloc (Obj.cells #[.int .i64 0,.int .i64 0,.int .i64 0,.slice none 0 0,.slice none 0 0,.slice none 0 0] 26)).cell? ⟨g,5,none⟩=some (.slice A5 p.f5.length c5):=(z01 hc1 5).trans rfl;have BZ1:=Aside0.mk (z14 w (Obj.cells #[.int .i64 0,.int .i64 0,.int .i64 0,.slice none 0 0,.slice none 0 0,.slice none 0 0] 26));have HB1:=Aside0.mk hbl;clear hc1 hgp hc hbl
 go_enter Tryz.func18,Tryz.ntmps18
 go_wp2_with fail
 refine HC.out.mono ?_;rintro e w5 ⟨v3,v4,v5,rfl,h3,h4,h5,hB⟩;obtain ⟨A3',n3',c3',e3⟩:∃ A n c,v3=.slice A n c:=by obtain ⟨A,c,h⟩:=Kd.R_slice h3;exact ⟨_,_,_,h⟩
 obtain ⟨A4',n4',c4',e4⟩:∃ A n c,v4=.slice A n c:=by obtain ⟨A,c,h⟩:=Kd.R_slice h4;exact ⟨_,_,_,h⟩
 obtain ⟨A5',n5',c5',e5⟩:∃ A n c,v5=.slice A n c:=by obtain ⟨A,c,h⟩:=Kd.R_slice h5;exact ⟨_,_,_,h⟩
 subst e3;subst e4;subst e5;have BZ5:=Aside0.mk ((hB.block _ (z0s BZ1.out)).trans BZ1.out);have HB5:=Aside0.mk (z0x HB1.out HB1.out.size hB);have HR3d:=Aside0.mk (Kd.R_lower h3 HB1.out.size);have HR4d:=Aside0.mk (Kd.R_lower h4 HB1.out.size);have HR5d:=Aside0.mk (Kd.R_lower h5 HB1.out.size);clear h3 h4 h5 hB k0 k1 k2 k3 k4 k5 HC;have z0:=z01 BZ5.out 0;have z1:=z01 BZ5.out 1;have z2:=z01 BZ5.out 2;have z3:=z01 BZ5.out 3;have z4:=z01 BZ5.out 4;have z5:=z01 BZ5.out 5;have f0:=z02 BZ5.out 0;have f1:=z02 BZ5.out 1;have f2:=z02 BZ5.out 2;have f3:=z02 BZ5.out 3;have f4:=z02 BZ5.out 4;have f5:=z02 BZ5.out 5;go_wp2;have y0:=BZ5.out;have y1:=z0y y0 0 (.int .i64 p.f0) (cs':=#[.int .i64 p.f0,.int .i64 0,.int .i64 0,.slice none 0 0,.slice none 0 0,.slice none 0 0]) rfl;have y2:=z0y y1 1 (.int .i64 p.f1) (cs':=#[.int .i64 p.f0,.int .i64 p.f1,.int .i64 0,.slice none 0 0,.slice none 0 0,.slice none 0 0]) rfl;have y3:=z0y y2 2 (.int .i64 p.f2) (cs':=#[.int .i64 p.f0,.int .i64 p.f1,.int .i64 p.f2,.slice none 0 0,.slice none 0 0,.slice none 0 0]) rfl;have y4:=z0y y3 3 (.slice A3' n3' c3') (cs':=#[.int .i64 p.f0,.int .i64 p.f1,.int .i64 p.f2,.slice A3' n3' c3',.slice none 0 0,.slice none 0 0]) rfl;have y5:=z0y y4 4 (.slice A4' n4' c4') (cs':=#[.int .i64 p.f0,.int .i64 p.f1,.int .i64 p.f2,.slice A3' n3' c3',.slice A4' n4' c4',.slice none 0 0]) rfl;have y6:=z0y y5 5 (.slice A5' n5' c5') (cs':=#[.int .i64 p.f0,.int .i64 p.f1,.int .i64 p.f2,.slice A3' n3' c3',.slice A4' n4' c4',.slice A5' n5' c5']) rfl;have HR3df:=Aside0.mk (R_set rfl (R_set rfl (R_set rfl (R_set rfl (R_set rfl (R_set rfl (HR3d.out) y0 (by decide) 0 (.int .i64 p.f0)) y1 (by decide) 1 (.int .i64 p.f1)) y2 (by decide) 2 (.int .i64 p.f2)) y3 (by decide) 3 (.slice A3' n3' c3')) y4 (by decide) 4 (.slice A4' n4' c4')) y5 (by decide) 5 (.slice A5' n5' c5'));have HR4df:=Aside0.mk (R_set rfl (R_set rfl (R_set rfl (R_set rfl (R_set rfl (R_set rfl (HR4d.out) y0 (by decide) 0 (.int .i64 p.f0)) y1 (by decide) 1 (.int .i64 p.f1)) y2 (by decide) 2 (.int .i64 p.f2)) y3 (by decide) 3 (.slice A3' n3' c3')) y4 (by decide) 4 (.slice A4' n4' c4')) y5 (by decide) 5 (.slice A5' n5' c5'));have HR5df:=Aside0.mk (R_set rfl (R_set rfl (R_set rfl (R_set rfl (R_set rfl (R_set rfl (HR5d.out) y0 (by decide) 0 (.int .i64 p.f0)) y1 (by decide) 1 (.int .i64 p.f1)) y2 (by decide) 2 (.int .i64 p.f2)) y3 (by decide) 3 (.slice A3' n3' c3')) y4 (by decide) 4 (.slice A4' n4' c4')) y5 (by decide) 5 (.slice A5' n5' c5'));have HB6:=Aside0.mk (z07 (z07 (z07 (z07 (z07 (z07 (HB5.out) (Nat.le_refl w.heap.size) (j:=0) (v:=.int .i64 p.f0)) (Nat.le_refl w.heap.size) (j:=1) (v:=.int .i64 p.f1)) (Nat.le_refl w.heap.size) (j:=2) (v:=.int .i64 p.f2)) (Nat.le_refl w.heap.size) (j:=3) (v:=.slice A3' n3' c3')) (Nat.le_refl w.heap.size) (j:=4) (v:=.slice A4' n4' c4')) (Nat.le_refl w.heap.size) (j:=5) (v:=.slice A5' n5' c5'));have BZ6:=Aside0.mk y6;generalize ((((((w5.setCell ⟨w.heap.size,0,none⟩ (.int .i64 p.f0)).setCell ⟨w.heap.size,1,none⟩ (.int .i64 p.f1)).setCell ⟨w.heap.size,2,none⟩ (.int .i64 p.f2)).setCell ⟨w.heap.size,3,none⟩ (.slice A3' n3' c3')).setCell ⟨w.heap.size,4,none⟩ (.slice A4' n4' c4')).setCell ⟨w.heap.size,5,none⟩ (.slice A5' n5' c5'))=w6 at HR3df HR4df HR5df HB6 BZ6 ⊢;have x0:=z01 BZ6.out 0;have x1:=z01 BZ6.out 1;have x2:=z01 BZ6.out 2;have x3:=z01 BZ6.out 3;have x4:=z01 BZ6.out 4;have x5:=z01 BZ6.out 5;simp only [List.getElem?_toArray,List.getElem?_cons_zero,List.getElem?_cons_succ] at x0 x1 x2 x3 x4 x5;exact bodyPost_ret (v:=.agg #[.int .i64 p.f0,.int .i64 p.f1,.int .i64 p.f2,.slice A3' n3' c3',.slice A4' n4' c4',.slice A5' n5' c5']) (by simp [results,Tryz.results18,go_sem,x0,x1,x2,x3,x4,x5]) rfl ⟨_,_,_,rfl,HR3df.out,HR4df.out,HR5df.out,HB6.out⟩
theorem ints_l0 (a b:List Int) (hl:a.length=b.length) (hs:a.length < 4611686018427387904):∀ (d k j:Nat),j+d=a.length→d < k→z0v.l0 k a b j=some (a.drop j == b.drop j)
 | 0,k,j,hj,hk=>by
  obtain ⟨k,rfl⟩:∃ n,k=n+1:=⟨k - 1,by omega⟩;rw [z0v.l0,if_neg (by omega),List.drop_eq_nil_of_le (by omega),List.drop_eq_nil_of_le (by omega)];rfl
 | d+1,k,j,hj,hk=>by
  obtain ⟨k,rfl⟩:∃ n,k=n+1:=⟨k - 1,by omega⟩;have hlt:j < a.length:=by omega
  have hlb:j < b.length:=by omega
  have e:rd a (j:Int)=a[j]:=by unfold rd;simp [List.getD_eq_getElem?_getD,List.getElem?_eq_getElem hlt]
  have e':rd b (j:Int)=b[j]:=by unfold rd;simp [List.getD_eq_getElem?_getD,List.getElem?_eq_getElem hlb]
  rw [z0v.l0,if_pos (by omega),if_pos (by omega),if_pos (by omega),List.drop_eq_getElem_cons hlt,List.drop_eq_getElem_cons hlb,e,e',show (a[j] :: a.drop (j+1) == b[j] :: b.drop (j+1))=(a[j] == b[j] && a.drop (j+1) == b.drop (j+1)) from rfl]
  by_cases h:a[j]=b[j]
  ·rw [if_pos h,beq_iff_eq.2 h,Bool.true_and,show wrap64 ((j:Int)+1)=((j+1:Nat):Int) by unfold wrap64;omega,ints_l0 a b hl hs d k (j+1) (by omega) (by omega)]
  ·rw [if_neg h,beq_eq_false_iff_ne.2 h,Bool.false_and]
theorem ints_f (a b:List Int) (hs:a.length < 4611686018427387904):z0v.f (a.length+1) a b=some (a == b):=by
 unfold z0v.f
 by_cases hl:a.length=b.length
 ·rw [if_pos (by omega)];have:=ints_l0 a b hl hs a.length (a.length+1) 0 (by omega) (by omega)
  simpa using this
 ·rw [if_neg (by omega)]
  congr 1
  symm
  rw [beq_eq_false_iff_ne];exact fun e=>hl (by rw [e])
theorem new_yes' (p:Im) (A3:Option Addr) (c3:Nat) (A4:Option Addr) (c4:Nat) (A5:Option Addr) (c5:Nat) (w:World)
  (hr3:Kd.C (Kd.int .u8) w A3 p.f3.length p.f3) (hc3:p.f3.length≤c3) (hr4:Kd.C (Kd.int .i64) w A4 p.f4.length p.f4) (hc4:p.f4.length≤c4) (hr5:Kd.C k79 w A5 p.f5.length p.f5) (hc5:p.f5.length≤c5)
  (hw:wfP p) (h0:encV p=0) :
  Calls Tryz.prog 15 #[.agg #[.int .i64 p.f0,.int .i64 p.f1,.int .i64 p.f2,.slice A3 p.f3.length c3,.slice A4 p.f4.length c4,.slice A5 p.f5.length c5]] w fun e w'=>∃ g,e=.returned (.tuple #[.pointer (some ⟨g,0,none⟩),.int .i64 0])∧Gr w' g w.heap.size p∧Below w.heap.size w w':=by
 obtain ⟨r,hr⟩:=enc_f p hw.1;rw [h0] at hr;have hs:=(z2w.1 h0).1;exact new_yes p A3 c3 A4 c4 A5 c5 w 700 r hr3 hc3 hr4 hc4 hr5 hc5 (by have:=hs.1;have:=hs.2.2.2.1;omega) (by have:=hs.2.2.2.2.1;omega) (by have:=hs.2.2.2.2.2.2.2.2;omega) hr
def p20:Im:=⟨0,1,0,[],[0,2],[⟨23,0,0,0,1⟩,⟨0,0,0,0,0⟩,⟨24,0,0,0,0⟩]⟩
theorem p20_wf:wfP p20:=⟨by unfold wfF p20;decide,by unfold p20;decide⟩
theorem p20_enc:encV p20=0:=z2w.2 ⟨by unfold z2h p20;decide +kernel,by unfold p20;decide +kernel,by unfold p20;decide +kernel⟩
theorem cell_add (w:World) (b n:Nat):w.cell? ((⟨b,0,none⟩:Addr).add n)=w.cell? ⟨b,n,none⟩:=by
 unfold Addr.add
 split
 ·rename_i h
  rw [h]
 ·simp
theorem C_lit {α:Type} (d:Kd α) {w:World} {b:Nat} {cs:Array Value} {t:TypeId} (hb:w.heap[b]?=some (.cells cs t (0,0))) (xs:List α) (hl:xs.length≤1000)
  (h:∀ j p,xs[j]?=some p→∃ c,c.length=d.sz∧d.K w p c∧∀ i u,c[i]?=some u→cs[j * d.sz+i]?=some u):d.C w (some ⟨b,0,none⟩) xs.length xs :=
 ⟨rfl,by omega,fun _=>⟨_,rfl,fun j p hj=>by
  obtain ⟨c,h1,h2,h3⟩:=h j p hj;exact ⟨c,h1,h2,fun i u hu=>by rw [cell_add];exact (z01 hb _).trans (h3 i u hu)⟩⟩⟩
theorem ints_lit {w:World} {b:Nat} {t:TypeId} (xs:List Int) (hl:xs.length≤1000) (hb:w.heap[b]?=some (.cells (xs.map (Value.int .i64)).toArray t (0,0))):Kd.C (Kd.int .i64) w (some ⟨b,0,none⟩) xs.length xs :=
 C_lit _ hb xs hl fun j p hj=>⟨[.int .i64 p],rfl,rfl,fun i u hu=>by
  rcases i with _|i
  ·show (xs.map (Value.int .i64)).toArray[j * 1+0]?=_;rw [Nat.mul_one,Nat.add_zero,List.getElem?_toArray,List.getElem?_map,hj];exact hu
  ·simp at hu⟩
theorem code20_lit {w:World} {b:Nat} (hb:w.heap[b]?=some (.cells #[.int .i64 23,.int .i64 0,.int .i64 0,.int .i64 0,.int .u64 1,.int .i64 0,.int .i64 0,.int .i64 0,.int .i64 0,.int .u64 0,.int .i64 24,.int .i64 0,.int .i64 0,.int .i64 0,.int .u64 0] 79 (0,0))) :
  Kd.C k79 w (some ⟨b,0,none⟩) p20.f5.length p20.f5 :=
 C_lit _ hb p20.f5 (by decide) fun j p hj=>by
  rcases j with _|_|_|j
  ·obtain rfl:(⟨23,0,0,0,1⟩:In)=p:=by simpa [p20] using hj
   exact ⟨_,rfl,k79_mk w _,fun i u hu=>by rcases i with _|_|_|_|_|i <;> first|exact hu|simp at hu⟩
  ·obtain rfl:(⟨0,0,0,0,0⟩:In)=p:=by simpa [p20] using hj
   exact ⟨_,rfl,k79_mk w _,fun i u hu=>by rcases i with _|_|_|_|_|i <;> first|exact hu|simp at hu⟩
  ·obtain rfl:(⟨24,0,0,0,0⟩:In)=p:=by simpa [p20] using hj
   exact ⟨_,rfl,k79_mk w _,fun i u hu=>by rcases i with _|_|_|_|_|i <;> first|exact hu|simp at hu⟩
  ·simp [p20] at hj
theorem p20_rt:Rt p20:=encV_rt p20_wf p20_enc
theorem ints_calls {a b:List Int} {A B:Option Addr} {cA cB:Nat} {w:World} (r:Bool) (hA:Kd.C (Kd.int .i64) w A a.length a) (hcA:a.length≤cA) (hB:Kd.C (Kd.int .i64) w B b.length b) (hcB:b.length≤cB) (hs:a.length≤1000000) (hr:(a == b)=r) :
  Calls Tryz.prog 19 #[.slice A a.length cA,.slice B b.length cB] w fun e w'=>e=.returned (.bool r)∧Drawn0 w w' :=
 z0v.calls (a.length+1) A cA a B cB b r w hA hcA hB hcB (by rw [ints_f a b (by omega),hr])
theorem fr_below {w0 w w':World} {g B:Nat} (h:Fr w w' (fun i=>i=g)) (hb:Below B w0 w) (hB:B≤w.heap.size) (hg:B≤g):Below B w0 w':=h.below hb hB fun i hi=>by omega
theorem prev_len (p:Im) (hn:p.f5.length≤256) (x:Int):(prevL p x).length≤256:=Nat.le_trans (List.length_filter_le _ _) (by rw [z2z];exact hn)
theorem r_gr {w w':World} {g B base:Nat} {p:Im} {v:Value} {l:List Int} (h:Kd.R (Kd.int .i64) 3 w base (fun _=>True) v l) (hg:Gr w g B p) (hf:Fr w w' (fun i=>i=g)):Kd.R (Kd.int .i64) 3 w' base (fun _=>True) v l :=
 z30 rfl h fun k hk=>by
  obtain ⟨c,hc⟩:=Kd.R_typed h k hk;obtain ⟨c',hc'⟩:=hg.typed;exact hf.block k (z0s hc) fun e=>by
   rw [e,hc'] at hc;injection hc with hc
   injection hc with _ hc
   exact absurd hc (by decide)
structure Cs (n1:Nat) (W1:World) (g BB:Nat) (p:Im) (v1 v2:Value) (l1 l2:List Int) (W:World):Prop where
 sz:n1≤W.heap.size
 gr:Gr W g BB p
 bel:Below n1 W1 W
 r1:Kd.R (Kd.int .i64) 3 W 0 (fun _=>True) v1 l1
 r2:Kd.R (Kd.int .i64) 3 W 0 (fun _=>True) v2 l2
theorem r_below {w w':World} {base:Nat} {v:Value} {l:List Int} (h:Kd.R (Kd.int .i64) 3 w base (fun _=>True) v l) (hb:Below w.heap.size w w'):Kd.R (Kd.int .i64) 3 w' base (fun _=>True) v l :=
 z30 rfl h fun k hk=>by
  obtain ⟨c,hc⟩:=Kd.R_typed h k hk;exact hb.block k (z0s hc)
section
variable {n1 g BB:Nat} {W1 W W':World} {p:Im} {v1 v2:Value} {l1 l2:List Int}
theorem Cs.below (h:Cs n1 W1 g BB p v1 v2 l1 l2 W) (hb:Below W.heap.size W W'):Cs n1 W1 g BB p v1 v2 l1 l2 W':=⟨Nat.le_trans h.sz hb.size,h.gr.below hb,z0x h.bel h.sz hb,r_below h.r1 hb,r_below h.r2 hb⟩
theorem Cs.fr (h:Cs n1 W1 g BB p v1 v2 l1 l2 W) (hm:GrM W' g BB p) (hf:Fr W W' (fun i=>i=g)) (hg:n1≤g):Cs n1 W1 g BB p v1 v2 l1 l2 W' :=
 ⟨Nat.le_trans h.sz hf.size,hm.gr,fr_below hf h.bel h.sz hg,r_gr h.r1 h.gr hf,r_gr h.r2 h.gr hf⟩
end
theorem rd_mem {l:List Int} {i:Nat} (hi:i < l.length):rd l (i:Int) ∈ l:=by
 unfold rd;rw [Int.toNat_natCast,List.getD_eq_getElem?_getD,List.getElem?_eq_getElem hi];exact List.getElem_mem hi
end Go.Proofs.YtcbnhfnnjkkceaaGreat.X
end
section
namespace Go.Proofs.YtcbnhfnnjkkceaaGreat.X
open Go.RowKit Go.Proofs.YtcbnhfnnjkkceaaGreatW.PrintWords Go.Proofs.YtcbnhfnnjkkceaaGreat.Gr
theorem add_add (a:Addr) (i j:Nat):(a.add i).add j=a.add (i+j):=by
 unfold Addr.add
 by_cases hi:i=0
 ·subst hi;simp
 ·rw [if_neg hi]
  by_cases hj:j=0
  ·subst hj;simp [hi]
  ·rw [if_neg hj,if_neg (by omega)];simp [Nat.add_assoc]
theorem open_K {α H:Type} (dk:Kd α) {enc:TypeId × Value→H} {P:Program} {W:World} {t e:TypeId} {fuel:Nat} {cs:List Value} {y:DataW H × List MemPlace} (Q:α→Prop) (ht:P.underlying t=some (.slice e)) (hc:P.cellsOf e=dk.sz)
  (hel:∀ n cs' y,DataW.trod enc P W 0 (fun _=>true) true n e cs'=some y→∃ x,dk.K W x cs'∧Q x)
  (h:DataW.trod enc P W 0 (fun _=>true) true fuel t cs=some y) :
  ∃ (A:Option Addr) (cap:Nat) (xs:List α),cs=[.slice A xs.length cap]∧dk.C W A xs.length xs∧xs.length≤cap∧∀ x ∈ xs,Q x:=by
 rcases Deep.open_slice ht h with ⟨h1,_⟩|⟨a,len,cap,m,n,D,Pl,h1,_,hl,hm,hmm,_,hx⟩
 ·exact ⟨none,0,[],h1,Kd.C_nil dk W,Nat.le_refl _,by simp⟩
 ·have hM:maxLen≤9223372036854775807:=by decide
  have hmm:m=cap:=hmm;have hex:∀ i,i < len→∃ x,(∃ cs',W.cells? 0 (a.add (i * dk.sz)) dk.sz=some cs'∧dk.K W x cs')∧Q x:=fun i hi=>by
   obtain ⟨cs',hcs,htr⟩:=hx i (by omega);rw [hc] at hcs;obtain ⟨x,hk,hq⟩:=hel n cs' _ htr;exact ⟨x,⟨cs',hcs,hk⟩,hq⟩
  have hlist:∀ k,k≤len→∃ xs:List α,xs.length=k∧∀ i x,xs[i]?=some x→(∃ cs',W.cells? 0 (a.add (i * dk.sz)) dk.sz=some cs'∧dk.K W x cs')∧Q x:=by
   intro k
   induction k with
   | zero=>exact fun _=>⟨[],rfl,fun i x hi=>by simp at hi⟩
   | succ k ih =>
    intro hk;obtain ⟨xs,hxl,hxs⟩:=ih (by omega);obtain ⟨x,hx'⟩:=hex k (by omega);refine ⟨xs ++ [x],by simp [hxl],fun i z hi=>?_⟩
    by_cases e:i < k
    ·rw [List.getElem?_append_left (by omega)] at hi;exact hxs i z hi
    ·rw [List.getElem?_append_right (by omega)] at hi;have hik:i - xs.length=0:=by
      have:=(List.getElem?_eq_some_iff.1 hi).1;simp at this;omega
     rw [hik] at hi;obtain rfl:x=z:=by simpa using hi
     obtain rfl:i=k:=by omega
     exact hx'
  obtain ⟨xs,hxl,hxs⟩:=hlist len (Nat.le_refl _);refine ⟨some a,cap,xs,by rw [hxl];exact h1,⟨rfl,by omega,fun _=>⟨a,rfl,fun j p hj=>?_⟩⟩,by omega,fun x hx1=>?_⟩
  ·obtain ⟨⟨cs',hcs,hk⟩,_⟩:=hxs j p hj;obtain ⟨_,hcl,hce⟩:=World.cells?_some hcs;refine ⟨cs',hcl,hk,fun i u hu=>?_⟩;have hi:i < dk.sz:=by have:=(List.getElem?_eq_some_iff.1 hu).1;omega
   rw [← add_add];exact (hce i hi).trans hu
  ·obtain ⟨i,hi⟩:=List.getElem?_of_mem hx1;exact (hxs i x hi).2
theorem lit_i64 {n:Int} (h:(Lit.int .i64 n).wf=true):-9223372036854775808≤n∧n≤9223372036854775807:=by
 simpa [Lit.wf,IntKind.min,IntKind.max,IntKind.bits,IntKind.signed] using h
theorem lit_u64 {n:Int} (h:(Lit.int .u64 n).wf=true):0≤n:=by
 have:0≤n∧n≤18446744073709551615:=by simpa [Lit.wf,IntKind.min,IntKind.max,IntKind.bits,IntKind.signed] using h
 exact this.1
theorem array6 {α:Type} {cs:Array α} (h:cs.size=6):∃ c0 c1 c2 c3 c4 c5,cs=#[c0,c1,c2,c3,c4,c5]:=by
 obtain ⟨l⟩:=cs
 match l,h with
 | [c0,c1,c2,c3,c4,c5],_=>exact ⟨c0,c1,c2,c3,c4,c5,rfl⟩
theorem list5 {α:Type} {cs:List α} (h:cs.length=5):∃ c0 c1 c2 c3 c4,cs=[c0,c1,c2,c3,c4]:=by
 match cs,h with
 | [c0,c1,c2,c3,c4],_=>exact ⟨c0,c1,c2,c3,c4,rfl⟩
theorem ci_int:Tryz.prog.cellsOf 3=1:=by kernel_rfl
theorem ci_u8:Tryz.prog.cellsOf 5=1:=by kernel_rfl
theorem ci_u64:Tryz.prog.cellsOf 43=1:=by kernel_rfl
theorem ci_bs:Tryz.prog.cellsOf 22=1:=by kernel_rfl
theorem ci_is:Tryz.prog.cellsOf 23=1:=by kernel_rfl
theorem ci_cs:Tryz.prog.cellsOf 24=1:=by kernel_rfl
theorem ci_ins:Tryz.prog.cellsOf 79=5:=by kernel_rfl
theorem ci_im:Tryz.prog.cellsOf 26=6:=by kernel_rfl
section
variable {H:Type} {enc:TypeId × Value→H} {W:World}
theorem el_ins (n:Nat) (cs:List Value) (y:DataW H × List MemPlace) (h:DataW.trod enc Tryz.prog W 0 (fun _=>true) true n 79 cs=some y):∃ x,k79.K W x cs∧0≤x.f4:=by
 obtain ⟨xs,m,_,_,hl,hn,hf⟩:=DataW.trod_struct Tryz.underlying79 h;rw [ci_ins] at hl;obtain ⟨c0,c1,c2,c3,c4,rfl⟩:=list5 hl
 match xs,hn with
 | [y0,y1,y2,y3,y4],_ =>
  have h0:=hf 0 _ rfl;have h1:=hf 1 _ rfl;have h2:=hf 2 _ rfl;have h3:=hf 3 _ rfl;have h4:=hf 4 _ rfl;simp only [ci_int,ci_u64,List.drop_zero,List.drop_succ_cons,List.take_succ_cons,List.take_zero,List.getElem?_cons_zero,List.getElem?_cons_succ] at h0 h1 h2 h3 h4;obtain ⟨a0,e0,_,_⟩:=DataW.trod_int Tryz.underlying3 h0;obtain ⟨a1,e1,_,_⟩:=DataW.trod_int Tryz.underlying3 h1;obtain ⟨a2,e2,_,_⟩:=DataW.trod_int Tryz.underlying3 h2;obtain ⟨a3,e3,_,_⟩:=DataW.trod_int Tryz.underlying3 h3;obtain ⟨a4,e4,_,w4⟩:=DataW.trod_int Tryz.underlying43 h4;cases e0;cases e1;cases e2;cases e3;cases e4;exact ⟨⟨a0,a1,a2,a3,a4⟩,k79_mk W _,lit_u64 w4⟩
theorem el_int (n:Nat) (cs:List Value) (y:DataW H × List MemPlace) (h:DataW.trod enc Tryz.prog W 0 (fun _=>true) true n 3 cs=some y):∃ x,(Kd.int .i64).K W x cs∧(-9223372036854775808≤x∧x≤9223372036854775807):=by
 obtain ⟨a,e,_,w⟩:=DataW.trod_int Tryz.underlying3 h;exact ⟨a,e,lit_i64 w⟩
theorem el_u8 (n:Nat) (cs:List Value) (y:DataW H × List MemPlace) (h:DataW.trod enc Tryz.prog W 0 (fun _=>true) true n 5 cs=some y):∃ x,(Kd.int .u8).K W x cs∧True:=by
 obtain ⟨a,e,_,w⟩:=DataW.trod_int Tryz.underlying5 h;exact ⟨a,e,trivial⟩
theorem open_image {r:Reach} {base:Nat} {v:Value} {d:DataW H} {ps:List MemPlace} (hv:Value.okWide Tryz.prog W r base 26 v) (h:DataW.Trod enc Tryz.prog W 0 (fun _=>true) true 26 v d ps) :
  ∃ (p:Im) (A3:Option Addr) (c3:Nat) (A4:Option Addr) (c4:Nat) (A5:Option Addr) (c5:Nat),v=.agg #[.int .i64 p.f0,.int .i64 p.f1,.int .i64 p.f2,.slice A3 p.f3.length c3,.slice A4 p.f4.length c4,.slice A5 p.f5.length c5] ∧
   Kd.C (Kd.int .u8) W A3 p.f3.length p.f3∧p.f3.length≤c3∧Kd.C (Kd.int .i64) W A4 p.f4.length p.f4∧p.f4.length≤c4∧Kd.C k79 W A5 p.f5.length p.f5∧p.f5.length≤c5∧wfP p:=by
 obtain ⟨cs,rfl,hsz⟩:=Go.WideShapes.okWide_struct Tryz.underlying26 hv;rw [ci_im] at hsz;obtain ⟨x0,x1,x2,x3,x4,x5,rfl⟩:=array6 hsz;obtain ⟨fuel,hfu⟩:=h;obtain ⟨xs,m,_,_,hl,hn,hf⟩:=DataW.trod_struct Tryz.underlying26 hfu
 match xs,hn with
 | [y0,y1,y2,y3,y4,y5],_ =>
  have h0:=hf 0 _ rfl;have h1:=hf 1 _ rfl;have h2:=hf 2 _ rfl;have h3:=hf 3 _ rfl;have h4:=hf 4 _ rfl;have h5:=hf 5 _ rfl;simp only [Value.cells,ci_int,ci_bs,ci_is,ci_cs,List.drop_zero,List.drop_succ_cons,List.take_succ_cons,List.take_zero,List.getElem?_cons_zero,List.getElem?_cons_succ] at h0 h1 h2 h3 h4 h5;obtain ⟨a0,e0,_,_⟩:=DataW.trod_int Tryz.underlying3 h0;obtain ⟨a1,e1,_,_⟩:=DataW.trod_int Tryz.underlying3 h1;obtain ⟨a2,e2,_,_⟩:=DataW.trod_int Tryz.underlying3 h2;obtain ⟨A3,c3,l3,e3,hC3,hc3,_⟩:=open_K (Kd.int .u8) _ Tryz.underlying22 ci_u8 el_u8 h3;obtain ⟨A4,c4,l4,e4,hC4,hc4,hw4⟩:=open_K (Kd.int .i64) _ Tryz.underlying23 ci_int el_int h4;obtain ⟨A5,c5,l5,e5,hC5,hc5,hw5⟩:=open_K k79 _ Tryz.underlying24 ci_ins el_ins h5;cases e0;cases e1;cases e2;cases e3;cases e4;cases e5;exact ⟨⟨a0,a1,a2,l3,l4,l5⟩,A3,c3,A4,c4,A5,c5,rfl,hC3,hc3,hC4,hc4,hC5,hc5,hw4,hw5⟩
end
end Go.Proofs.YtcbnhfnnjkkceaaGreat.X
end
section
namespace Go.Proofs.YtcbnhfnnjkkceaaGreat.X
open Go.RowKit Go.Proofs.YtcbnhfnnjkkceaaGreatW.PrintWords Go.Proofs.YtcbnhfnnjkkceaaGreatW.PrintLast Go.Proofs.YtcbnhfnnjkkceaaGreatW.PrintMore Go.Proofs.YtcbnhfnnjkkceaaGreat.Gr
section
open Go.WideShapes Go.ChangeShapes
end
structure GI (n1:Nat) (W1:World) (g BB:Nat) (p:Im) (bt pb po:Nat) (l:List Int) (tc:Array Value) (W:World):Prop where
 sz:n1≤W.heap.size
 gr:Gr W g BB p
 bel:Below n1 W1 W
 tr:W.heap[bt]?=some (.cells tc 46 (0,0))
 pth:∀ j:Nat,j < l.length→W.cell? ⟨pb,po+j,none⟩=some (.int .i64 (rd l (j:Int)))
 ne:n1≤g∧bt≠g∧pb≠g∧pb < W.heap.size
section
variable {n1:Nat} {W1 W W':World} {g BB bt pb po:Nat} {p:Im} {l:List Int} {tc:Array Value}
theorem GI.below (h:GI n1 W1 g BB p bt pb po l tc W) (hb:Below W.heap.size W W'):GI n1 W1 g BB p bt pb po l tc W' :=
 ⟨Nat.le_trans h.sz hb.size,h.gr.below hb,z0x h.bel h.sz hb,z0h h.tr hb,fun j hj=>(World.cell?_of_block (a:=⟨pb,po+j,none⟩) (hb.block pb h.ne.2.2.2)).trans (h.pth j hj),h.ne.1,h.ne.2.1,h.ne.2.2.1,Nat.lt_of_lt_of_le h.ne.2.2.2 hb.size⟩
theorem GI.fr (h:GI n1 W1 g BB p bt pb po l tc W) (hg:Gr W' g BB p) (hf:Fr W W' (fun i=>i=g)):GI n1 W1 g BB p bt pb po l tc W' :=
 ⟨Nat.le_trans h.sz hf.size,hg,hf.below h.bel h.sz fun i (hi:i=g)=>by rw [hi];exact h.ne.1,(hf.block bt (z0s h.tr) h.ne.2.1).trans h.tr,fun j hj=>(World.cell?_of_block (a:=⟨pb,po+j,none⟩) (hf.block pb h.ne.2.2.2 h.ne.2.2.1)).trans (h.pth j hj),h.ne.1,h.ne.2.1,h.ne.2.2.1,Nat.lt_of_lt_of_le h.ne.2.2.2 hf.size⟩
end
theorem bel_alloc {B:Nat} {w0 w:World} (h:Below B w0 w) (hB:B≤w.heap.size) (o:Obj):Below B w0 (w.alloc o):=z0x h hB (z04 (Below.refl _ _) o)
end Go.Proofs.YtcbnhfnnjkkceaaGreat.X
end
section
namespace Go.Proofs.YtcbnhfnnjkkceaaGreat.X
open Go.RowKit Go.Proofs.YtcbnhfnnjkkceaaGreatW.PrintWords Go.Proofs.YtcbnhfnnjkkceaaGreat.Gr
structure Nd where
 at_:Int
 opn:Int
 low:Int
 high:Int
structure Wy where
 ns:List Nd
 ws:List Int
def Wy.path (y:Wy):List Int:=y.ns.map (·.at_)
def NodeL (w:World):Option Addr→List Nd→Prop
 | q,[]=>q=none
 | q,n :: r=>∃ b q',q=some ⟨b,0,none⟩∧w.heap[b]?=some (.cells #[.int .i64 n.at_,.int .i64 n.opn,.pointer q',.int .i64 n.low,.int .i64 n.high] 118 (0,0))∧NodeL w q' r
def WaitL (w:World):Option Addr→List Int→Prop
 | q,[]=>q=none
 | q,x :: r=>∃ b q',q=some ⟨b,0,none⟩∧w.heap[b]?=some (.cells #[.int .i64 x,.pointer q'] 122 (0,0))∧WaitL w q' r
def WKeep (w w':World):Prop:=∀ (b:Nat) (c:Array Value) (t:TypeId),w.heap[b]?=some (.cells c t (0,0))→t=118∨t=122→w'.heap[b]?=some (.cells c t (0,0))
section
variable {w w' w'':World}
theorem WKeep.refl (w:World):WKeep w w:=fun _ _ _ h _=>h
theorem WKeep.trans (h:WKeep w w') (k:WKeep w' w''):WKeep w w'':=fun b c t hb ht=>k b c t (h b c t hb ht) ht
theorem WKeep.below (hb:Below w.heap.size w w'):WKeep w w':=fun b c t h _=>z0h h hb
theorem WKeep.fr {g:Nat} {t0:TypeId} {c0:Array Value} (hf:Fr w w' (fun i=>i=g)) (hg:w.heap[g]?=some (.cells c0 t0 (0,0))) (h1:t0≠118) (h2:t0≠122):WKeep w w':=fun b c t h ht=>by
 refine (hf.block b (z0s h) fun e=>?_).trans h;subst e;rw [hg] at h;cases h;exact ht.elim h1 h2
theorem NodeL.keep (hk:WKeep w w'):∀ {ns:List Nd} {q:Option Addr},NodeL w q ns→NodeL w' q ns
 | [],_,h=>h
 | _ :: _,_,⟨b,q',e,hb,hr⟩=>⟨b,q',e,hk b _ _ hb (.inl rfl),NodeL.keep hk hr⟩
theorem WaitL.keep (hk:WKeep w w'):∀ {ws:List Int} {q:Option Addr},WaitL w q ws→WaitL w' q ws
 | [],_,h=>h
 | _ :: _,_,⟨b,q',e,hb,hr⟩=>⟨b,q',e,hk b _ _ hb (.inr rfl),WaitL.keep hk hr⟩
end
def WyAt (w:World) (g:Nat) (y:Wy) (qn qw:Option Addr):Prop:=y.ns≠[]∧NodeL w qn y.ns∧WaitL w qw y.ws
theorem WyAt.keep {w w':World} {g:Nat} {y:Wy} {qn qw:Option Addr} (h:WyAt w g y qn qw) (hk:WKeep w w'):WyAt w' g y qn qw:=⟨h.1,h.2.1.keep hk,h.2.2.keep hk⟩
end Go.Proofs.YtcbnhfnnjkkceaaGreat.X
end
section
namespace Go.Proofs.YtcbnhfnnjkkceaaGreat.X
open Go.RowKit Go.Proofs.YtcbnhfnnjkkceaaGreatW.PrintWords Go.Proofs.YtcbnhfnnjkkceaaGreatW.PrintLast Go.Proofs.YtcbnhfnnjkkceaaGreatW.PrintMore Go.Proofs.YtcbnhfnnjkkceaaGreat.Gr
def tgtN:List Nd→Int
 | []=>0
 | [n]=>n.at_
 | _ :: r=>tgtN r
set_option maxHeartbeats 4000000 in
theorem target_calls {w:World} {pg qn qw:Option Addr} {n0:Nd} {r0:List Nd} (h:NodeL w qn (n0 :: r0)) :
  Calls Tryz.prog 98 #[.agg #[.pointer pg,.pointer qn,.pointer qw]] w fun e w'=>e=.returned (.int .i64 (tgtN (n0 :: r0)))∧Below w.heap.size w w':=by
 have HN:=Aside0.mk h;have HB:=Aside0.mk (z04 (Below.refl w.heap.size w) (.cells #[.pointer pg,.pointer qn,.pointer qw] 63));clear h
 go_enter Tryz.func98,Tryz.ntmps98
 go_wp2
 go_loopg [3] (r0.length+1) (fun kq v3 wr=>∃ (n:Nd) (r:List Nd) (q:Option Addr),v3=.pointer q∧Aside0 (NodeL w q (n :: r))∧Aside0 (tgtN (n :: r)=tgtN (n0 :: r0))∧Aside0 (r.length < kq)∧Aside0 (Below w.heap.size w wr))
 case atStart=>exact ⟨n0,r0,qn,rfl,HN,⟨rfl⟩,⟨Nat.lt_succ_self _⟩,HB⟩
 case round =>
  clear HN HB;obtain ⟨n,r,q,rfl,hN,hT,hk,hB⟩:=hrel;obtain ⟨b,q',rfl,hb,hr⟩:=hN.out;have HBK:=Aside0.mk ((hB.out.block b (z0s hb)).trans hb);have c2:wr.cell? ⟨b,2,none⟩=some (.pointer q'):=(z01 HBK.out 2).trans rfl;have HR:=Aside0.mk hr;clear hb hr hN;cases r with
  | nil =>
   have hq:q'=none:=HR.out;subst hq;have c0:wr.cell? ⟨b,0,none⟩=some (.int .i64 n.at_):=(z01 HBK.out 0).trans rfl;go_wp2;go_ret
   exact ⟨by rw [← hT.out];rfl,hB.out⟩
  | cons n1 r1 =>
   obtain ⟨b1,q1,rfl,hb1,hr1⟩:=id HR.out;have HM:Aside0 (r1.length < gk - 1∧0 < gk):=⟨by have:=hk.out;simp at this;omega⟩;clear hb1 hr1;go_wp2
   go_roundg (gk - 1)
   case measure=>have:=HM.out;omega
   case rel=>exact ⟨n1,r1,_,rfl,HR,⟨hT.out⟩,⟨HM.out.1⟩,hB⟩
def PathPost (w:World) (l:List Int) (e:Ending) (w':World):Prop:=∃ v,e=.returned v∧Que w' (fun i=>w.heap.size≤i) v l∧Below w.heap.size w w'
set_option maxHeartbeats 4000000 in
theorem path_calls {w:World} {pg qn qw:Option Addr} {ns:List Nd} (h:NodeL w qn ns) (hl:ns.length < 900000) :
  Calls Tryz.prog 46 #[.agg #[.pointer pg,.pointer qn,.pointer qw]] w (PathPost w (ns.map (·.at_))):=by
 have HN:=Aside0.mk h;have HB:=Aside0.mk (z04 (Below.refl w.heap.size w) (.cells #[.pointer pg,.pointer qn,.pointer qw] 63));have HL0:=Aside0.mk hl;clear h hl
 go_enter Tryz.func46,Tryz.ntmps46
 go_wp2
 go_loopg [3,4] (ns.length+1) (fun kq v3 v4 wr=>∃ (r:List Nd) (q:Option Addr) (l:List Int),v4=.pointer q∧Aside0 (NodeL w q r)∧Aside0 (Que wr (fun i=>w.heap.size≤i) v3 l)∧Aside0 (l ++ r.map (·.at_)=ns.map (·.at_))∧Aside0 (r.length < kq)∧Aside0 (Below w.heap.size w wr))
 case atStart=>exact ⟨ns,qn,[],rfl,HN,⟨Que.nil _ _⟩,⟨rfl⟩,⟨Nat.lt_succ_self _⟩,HB⟩
 case round =>
  clear HN HB;obtain ⟨r,q,l,rfl,hN,hQ,hT,hk,hB⟩:=hrel;obtain ⟨ap,cp,rfl,_⟩:=hQ.out.slice;cases r with
  | nil =>
   have hq:q=none:=hN.out;subst hq;go_wp2;go_ret
   have ht:=hT.out;rw [List.map_nil,List.append_nil] at ht;rw [← ht];exact ⟨_,rfl,hQ.out,hB.out⟩
  | cons n r1 =>
   obtain ⟨b,q',rfl,hb,hr⟩:=id hN.out;have HBK:=Aside0.mk ((hB.out.block b (z0s hb)).trans hb);have c0:wr.cell? ⟨b,0,none⟩=some (.int .i64 n.at_):=(z01 HBK.out 0).trans rfl;have HR:=Aside0.mk hr;have HBB:=Aside0.mk hb;have HLL:Aside0 (l.length < 1000000):=⟨by
    have h1:=congrArg List.length hT.out;have h2:=HL0.out;simp at h1;omega⟩
   have HM:Aside0 (r1.length < gk - 1∧0 < gk):=⟨by have:=hk.out;simp at this;omega⟩;have HQA:=Aside0.mk (hQ.out.below (z04 (Below.refl wr.heap.size wr) (.cells #[.int .i64 n.at_] 3)));have HBA:=Aside0.mk (bel_alloc hB.out hB.out.size (.cells #[.int .i64 n.at_] 3));have HCA:Aside0 ((wr.alloc (.cells #[.int .i64 n.at_] 3)).cell? ⟨wr.heap.size,0,none⟩=some (.int .i64 n.at_)):=⟨(World.cell?_alloc_new _ _ _ 0).trans rfl⟩;have HOK:Aside0 (∀ g,(wr.alloc (.cells #[.int .i64 n.at_] 3)).heap.size≤g→w.heap.size≤g):=⟨fun g hg=>Nat.le_trans HBA.out.size hg⟩;clear hb hr hN
   go_wp2_with (at_builtin;refine wpList_append_que rfl _ _ rfl ⟨wr.heap.size,0,none⟩ 1 n.at_ rfl rfl HQA.out HOK.out HCA.out HLL.out ?_;intro v2 w2 hq2 hf2;obtain ⟨a2,k2,rfl,hk2⟩:=hq2.slice;have HQ2:=Aside0.mk hq2;have HB2:=Aside0.mk (hf2.below HBA.out HBA.out.size fun i hi=>hi);have c2:=(z01 ((HB2.out.block b (z0s HBB.out)).trans HBB.out) 2);clear hq2 hf2 hk2)
   go_roundg (gk - 1)
   case measure=>have:=HM.out;omega
   case rel=>exact ⟨r1,q',l ++ [n.at_],rfl,HR,⟨by have:=HQ2.out;rw [List.length_append,List.length_singleton] at this;exact this⟩,⟨by rw [← hT.out];simp⟩,⟨HM.out.1⟩,HB2⟩
theorem s3 {w:World} {b b8:Nat} {o:Obj} (h:w.heap[b]?=some o) (hn:b≠b8) (u v x:Value):(((w.setCell ⟨b8,0,none⟩ u).setCell ⟨b8,1,none⟩ v).setCell ⟨b8,2,none⟩ x).heap[b]?=some o :=
 (Below.heap_setCell _ _ x b hn).trans ((Below.heap_setCell _ _ v b hn).trans ((Below.heap_setCell w _ u b hn).trans h))
theorem z33 {w:World} {g B:Nat} {p:Im} {qw qz:Option Addr} {bn:Nat} {n:Nd} {q':Option Addr} (hg:Gr w g B p) (hl3:p.f3.length≤100) (hl4:p.f4.length≤40) (hl5:p.f5.length≤300)
  (hb:w.heap[bn]?=some (.cells #[.int .i64 n.at_,.int .i64 n.opn,.pointer q',.int .i64 n.low,.int .i64 n.high] 118 (0,0))) (a more:Int) (ho:-1000000≤n.opn∧n.opn≤1000000) (hlo:-1000000≤n.low∧n.low≤1000000) (hhi:-1000000≤n.high∧n.high≤1000000) (hm:-1≤more∧more≤1) :
  Calls Tryz.prog 140 #[.agg #[.pointer (some ⟨g,0,none⟩),.pointer (some ⟨bn,0,none⟩),.pointer qw],.int .i64 a,.int .i64 more,.pointer qz] w fun e w'=>∃ b',e=.returned (.tuple #[.agg #[.pointer (some ⟨g,0,none⟩),.pointer (some ⟨b',0,none⟩),.pointer qz],.bool (decide (max n.high (n.opn+more) - min n.low (n.opn+more)≤p.f1))]) ∧
   w'.heap[b']?=some (.cells #[.int .i64 a,.int .i64 (n.opn+more),.pointer (some ⟨bn,0,none⟩),.int .i64 (min n.low (n.opn+more)),.int .i64 (max n.high (n.opn+more))] 118 (0,0))∧Below w.heap.size w w':=by
 have HB:=Aside0.mk (z04 (z04 (Below.refl w.heap.size w) (.cells #[.pointer (some ⟨g,0,none⟩),.pointer (some ⟨bn,0,none⟩),.pointer qw] 63)) (.cells #[.pointer none,.pointer none,.pointer none] 63));have BB:=Aside0.mk (z06 (z14 w (.cells #[.pointer (some ⟨g,0,none⟩),.pointer (some ⟨bn,0,none⟩),.pointer qw] 63)) (.cells #[.pointer none,.pointer none,.pointer none] 63));have B8:=Aside0.mk (z14 (w.alloc (.cells #[.pointer (some ⟨g,0,none⟩),.pointer (some ⟨bn,0,none⟩),.pointer qw] 63)) (.cells #[.pointer none,.pointer none,.pointer none] 63));have e1:(w.alloc (.cells #[.pointer (some ⟨g,0,none⟩),.pointer (some ⟨bn,0,none⟩),.pointer qw] 63)).heap.size=w.heap.size+1:=by show (w.heap.push _).size=_;simp
 rw [e1] at B8;have BN:=Aside0.mk (z0h hb HB.out);have HG:=Aside0.mk (hg.below HB.out);have HL:=Aside0.mk (And.intro hl3 (And.intro hl4 hl5));have hwo:IntKind.i64.wrap (n.opn+more)=n.opn+more:=IntWalk.i64_in _ (by omega);have hws:IntKind.i64.wrap (max n.high (n.opn+more) - min n.low (n.opn+more))=max n.high (n.opn+more) - min n.low (n.opn+more):=IntWalk.i64_in _ (by omega);have hfd:∀ (A3 A4 A5:Option Addr) (n3 n4 n5 c3 c4 c5:Nat) (w:World),(Instr.field 26 (.agg #[.int .i64 p.f0,.int .i64 p.f1,.int .i64 p.f2,.slice A3 n3 c3,.slice A4 n4 c4,.slice A5 n5 c5]) 1).run Tryz.prog w=.ok (.int .i64 p.f1) w:=fun _ _ _ _ _ _ _ _ _ _=>by kernel_rfl
 clear hg hb hl3 hl4 hl5 ho hlo hhi hm e1
 go_enter Tryz.func140,Tryz.ntmps140
 go_upto_region 1 with (fail)
 generalize (w.alloc (.cells #[.pointer (some ⟨g,0,none⟩),.pointer (some ⟨bn,0,none⟩),.pointer qw] 63)).alloc (.cells #[.pointer none,.pointer none,.pointer none] 63)=w1 at HB BB B8 BN HG ⊢;obtain ⟨b8,hb8⟩:∃ b8,w.heap.size+1=b8:=⟨_,rfl⟩;obtain ⟨bb,hbb⟩:∃ bb,w.heap.size=bb:=⟨_,rfl⟩;have HBB:Aside0 (b8=w.heap.size+1∧bb=w.heap.size):=⟨hb8.symm,hbb.symm⟩;rw [hb8] at B8;rw [hbb] at BB;simp only [hb8];simp only [hbb];clear hb8 hbb;have c1:w1.cell? ⟨bb,1,none⟩=some (.pointer (some ⟨bn,0,none⟩)):=(z01 BB.out 1).trans rfl;have n1:w1.cell? ⟨bn,1,none⟩=some (.int .i64 n.opn):=(z01 BN.out 1).trans rfl
 go_upto_region 2 with (fail)
 clear c1 n1;refine z27 (n:=21) (S:=fun w'=>w'.cell? ⟨bb,1,none⟩=some (.pointer (some ⟨bn,0,none⟩))∧w'.cell? ⟨bn,3,none⟩=some (.int .i64 n.low)∧w'.cell? ⟨bn,4,none⟩=some (.int .i64 n.high)) (ds:=[19]) #[zf,zf,zf,zf,zf,zf,zf,zf,zf,zf,zf,zf,zf,zf,zf,zf,zf,zf,zf,zf,zf] (by kernel_rfl) rfl rfl ⟨(z01 BB.out 1).trans rfl,(z01 BN.out 3).trans rfl,(z01 BN.out 4).trans rfl⟩ (fun hHeld=>?_);refine pure_ (i:=0) (N:=some 19) (v:=?_) (a':=?_) #[zt,zf,zf,zf,zf,zf,zf,zf,zf,zf,zf,zf,zf,zf,zf,zf,zf,zf,zf,zf,zf] rfl rfl (by kernel_rfl) (fun _ _ _ h=>h) (Or.inl ⟨by rfl,?_⟩) ?_ ?_;rotate_left
 ·intro w';go_simp;with_reducible rfl
 rotate_left
 ·simp only [Act.put,zq1,zq2,zq3,i64_w,i32_w];rfl
 refine pure_ (i:=1) (N:=some 20) (v:=?_) (a':=?_) #[zt,zt,zf,zf,zf,zf,zf,zf,zf,zf,zf,zf,zf,zf,zf,zf,zf,zf,zf,zf,zf] rfl rfl (by kernel_rfl) (fun _ _ _ h=>h) (Or.inl ⟨by rfl,?_⟩) ?_ ?_;rotate_left
 ·intro w';go_simp;with_reducible rfl
 rotate_left
 ·simp only [Act.put,zq1,zq2,zq3,i64_w,i32_w];rfl
 refine pure_ (i:=2) (N:=some 21) (v:=?_) (a':=?_) #[zt,zt,zt,zf,zf,zf,zf,zf,zf,zf,zf,zf,zf,zf,zf,zf,zf,zf,zf,zf,zf] rfl rfl (by kernel_rfl) (fun _ _ _ h=>h) (Or.inl ⟨by rfl,?_⟩) ?_ ?_;rotate_left
 ·intro w';go_simp;with_reducible rfl
 rotate_left
 ·simp only [Act.put,zq1,zq2,zq3,i64_w,i32_w];rfl
 refine pure_ (i:=4) (N:=some 23) (v:=?_) (a':=?_) #[zt,zt,zt,zf,zt,zf,zf,zf,zf,zf,zf,zf,zf,zf,zf,zf,zf,zf,zf,zf,zf] rfl rfl (by kernel_rfl) (fun _ _ _ h=>h) (Or.inl ⟨by rfl,?_⟩) ?_ ?_;rotate_left
 ·intro w';go_simp;with_reducible rfl
 rotate_left
 ·simp only [Act.put,zq1,zq2,zq3,i64_w,i32_w];rfl
 refine pure_ (i:=9) (N:=some 28) (v:=?_) (a':=?_) #[zt,zt,zt,zf,zt,zf,zf,zf,zf,zt,zf,zf,zf,zf,zf,zf,zf,zf,zf,zf,zf] rfl rfl (by kernel_rfl) (fun _ _ _ h=>h) (Or.inl ⟨by rfl,?_⟩) ?_ ?_;rotate_left
 ·intro w';go_simp;with_reducible rfl
 rotate_left
 ·simp only [Act.put,zq1,zq2,zq3,i64_w,i32_w];rfl
 refine pure_ (i:=11) (N:=some 30) (v:=?_) (a':=?_) #[zt,zt,zt,zf,zt,zf,zf,zf,zf,zt,zf,zt,zf,zf,zf,zf,zf,zf,zf,zf,zf] rfl rfl (by kernel_rfl) (fun _ _ _ h=>h) (Or.inl ⟨by rfl,?_⟩) ?_ ?_;rotate_left
 ·intro w';go_simp;with_reducible rfl
 rotate_left
 ·simp only [Act.put,zq1,zq2,zq3,i64_w,i32_w];rfl
 refine pure_ (i:=16) (N:=some 35) (v:=?_) (a':=?_) #[zt,zt,zt,zf,zt,zf,zf,zf,zf,zt,zf,zt,zf,zf,zf,zf,zt,zf,zf,zf,zf] rfl rfl (by kernel_rfl) (fun _ _ _ h=>h) (Or.inl ⟨by rfl,?_⟩) ?_ ?_;rotate_left
 ·intro w';go_simp;with_reducible rfl
 rotate_left
 ·simp only [Act.put,zq1,zq2,zq3,i64_w,i32_w];rfl
 refine take_ (i:=3) (N:=some 22) (v:=?_) (a':=?_) #[zt,zt,zt,zt,zt,zf,zf,zf,zf,zt,zf,zt,zf,zf,zf,zf,zt,zf,zf,zf,zf] rfl rfl (by kernel_rfl) (fun _ _ _ h=>h) (Or.inl ⟨by rfl,?_⟩) hHeld ?_ ?_;rotate_left
 ·rintro w' ⟨s0,s1,s2⟩;go_simp;with_reducible rfl
 rotate_left
 ·simp only [Act.put,zq1,zq2,zq3,i64_w,i32_w];rfl
 refine take_ (i:=5) (N:=some 24) (v:=?_) (a':=?_) #[zt,zt,zt,zt,zt,zt,zf,zf,zf,zt,zf,zt,zf,zf,zf,zf,zt,zf,zf,zf,zf] rfl rfl (by kernel_rfl) (fun _ _ _ h=>h) (Or.inl ⟨by rfl,?_⟩) hHeld ?_ ?_;rotate_left
 ·rintro w' ⟨s0,s1,s2⟩;go_simp;with_reducible rfl
 rotate_left
 ·simp only [Act.put,zq1,zq2,zq3,i64_w,i32_w];rfl
 refine pure_ (i:=6) (N:=some 25) (v:=?_) (a':=?_) #[zt,zt,zt,zt,zt,zt,zt,zf,zf,zt,zf,zt,zf,zf,zf,zf,zt,zf,zf,zf,zf] rfl rfl (by kernel_rfl) (fun _ _ _ h=>h) (Or.inl ⟨by rfl,?_⟩) ?_ ?_;rotate_left
 ·intro w';go_simp;with_reducible rfl
 rotate_left
 ·simp only [Act.put,zq1,zq2,zq3,i64_w,i32_w];rfl
 refine pure_ (i:=7) (N:=some 26) (v:=?_) (a':=?_) #[zt,zt,zt,zt,zt,zt,zt,zt,zf,zt,zf,zt,zf,zf,zf,zf,zt,zf,zf,zf,zf] rfl rfl (by kernel_rfl) (fun _ _ _ h=>h) (Or.inl ⟨by rfl,?_⟩) ?_ ?_;rotate_left
 ·intro w';go_simp;with_reducible rfl
 rotate_left
 ·simp only [Act.put,zq1,zq2,zq3,i64_w,i32_w];rfl
 refine take_ (i:=8) (N:=some 27) (v:=?_) (a':=?_) #[zt,zt,zt,zt,zt,zt,zt,zt,zt,zt,zf,zt,zf,zf,zf,zf,zt,zf,zf,zf,zf] rfl rfl (by kernel_rfl) (fun _ _ _ h=>h) (Or.inl ⟨by rfl,?_⟩) hHeld ?_ ?_;rotate_left
 ·rintro w' ⟨s0,s1,s2⟩;go_simp;with_reducible rfl
 rotate_left
 ·simp only [Act.put,zq1,zq2,zq3,i64_w,i32_w];rfl
 refine pure_ (i:=10) (N:=some 29) (v:=?_) (a':=?_) #[zt,zt,zt,zt,zt,zt,zt,zt,zt,zt,zt,zt,zf,zf,zf,zf,zt,zf,zf,zf,zf] rfl rfl (by kernel_rfl) (fun _ _ _ h=>h) (Or.inl ⟨by rfl,?_⟩) ?_ ?_;rotate_left
 ·intro w';go_simp;with_reducible rfl
 rotate_left
 ·simp only [Act.put,zq1,zq2,zq3,i64_w,i32_w];rfl
 refine take_ (i:=12) (N:=some 31) (v:=?_) (a':=?_) #[zt,zt,zt,zt,zt,zt,zt,zt,zt,zt,zt,zt,zt,zf,zf,zf,zt,zf,zf,zf,zf] rfl rfl (by kernel_rfl) (fun _ _ _ h=>h) (Or.inl ⟨by rfl,?_⟩) hHeld ?_ ?_;rotate_left
 ·rintro w' ⟨s0,s1,s2⟩;go_simp;with_reducible rfl
 rotate_left
 ·simp only [Act.put,zq1,zq2,zq3,i64_w,i32_w];rfl
 refine pure_ (i:=13) (N:=some 32) (v:=?_) (a':=?_) #[zt,zt,zt,zt,zt,zt,zt,zt,zt,zt,zt,zt,zt,zt,zf,zf,zt,zf,zf,zf,zf] rfl rfl (by kernel_rfl) (fun _ _ _ h=>h) (Or.inl ⟨by rfl,?_⟩) ?_ ?_;rotate_left
 ·intro w';go_simp;with_reducible rfl
 rotate_left
 ·simp only [Act.put,zq1,zq2,zq3,i64_w,i32_w];rfl
 refine pure_ (i:=14) (N:=some 33) (v:=?_) (a':=?_) #[zt,zt,zt,zt,zt,zt,zt,zt,zt,zt,zt,zt,zt,zt,zt,zf,zt,zf,zf,zf,zf] rfl rfl (by kernel_rfl) (fun _ _ _ h=>h) (Or.inl ⟨by rfl,?_⟩) ?_ ?_;rotate_left
 ·intro w';go_simp;with_reducible rfl
 rotate_left
 ·simp only [Act.put,zq1,zq2,zq3,i64_w,i32_w];rfl
 refine take_ (i:=15) (N:=some 34) (v:=?_) (a':=?_) #[zt,zt,zt,zt,zt,zt,zt,zt,zt,zt,zt,zt,zt,zt,zt,zt,zt,zf,zf,zf,zf] rfl rfl (by kernel_rfl) (fun _ _ _ h=>h) (Or.inl ⟨by rfl,?_⟩) hHeld ?_ ?_;rotate_left
 ·rintro w' ⟨s0,s1,s2⟩;go_simp;with_reducible rfl
 rotate_left
 ·simp only [Act.put,zq1,zq2,zq3,i64_w,i32_w];rfl
 refine pure_ (i:=17) (N:=some 36) (v:=?_) (a':=?_) #[zt,zt,zt,zt,zt,zt,zt,zt,zt,zt,zt,zt,zt,zt,zt,zt,zt,zt,zf,zf,zf] rfl rfl (by kernel_rfl) (fun _ _ _ h=>h) (Or.inl ⟨by rfl,?_⟩) ?_ ?_;rotate_left
 ·intro w';go_simp;with_reducible rfl
 rotate_left
 ·simp only [Act.put,zq1,zq2,zq3,i64_w,i32_w];rfl
 refine pure_ (i:=18) (N:=some 37) (v:=?_) (a':=?_) #[zt,zt,zt,zt,zt,zt,zt,zt,zt,zt,zt,zt,zt,zt,zt,zt,zt,zt,zt,zf,zf] rfl rfl (by kernel_rfl) (fun _ _ _ h=>h) (Or.inl ⟨by rfl,?_⟩) ?_ ?_;rotate_left
 ·intro w';go_simp;with_reducible rfl
 rotate_left
 ·simp only [Act.put,zq1,zq2,zq3,i64_w,i32_w];rfl
 refine last_ (i:=19) (N:=some 38) #[zt,zt,zt,zt,zt,zt,zt,zt,zt,zt,zt,zt,zt,zt,zt,zt,zt,zt,zt,zt,zf] rfl rfl (by kernel_rfl) (by decide) (fun K hK=>?_);refine z1c (w1:=?_) (v:=?_) (by rfl) rfl ?_ ?_;rotate_left 2
 ·go_simp;constructor
  ·rfl
  ·rfl
 refine hK.out _ _ ?_;clear hK K;refine norm_ (a':=?_) ?_ ?_;rotate_left
 ·show Act.put _ (some 38) _=_;simp only [Act.put,zq1,zq2,zq3,i64_w,i32_w];rfl
 refine pure_ (i:=20) (N:=some 11) (v:=?_) (a':=?_) #[zt,zt,zt,zt,zt,zt,zt,zt,zt,zt,zt,zt,zt,zt,zt,zt,zt,zt,zt,zt,zt] rfl rfl (by kernel_rfl) (fun _ _ _ h=>h) (Or.inl ⟨by rfl,?_⟩) ?_ ?_;rotate_left
 ·intro w';go_simp;with_reducible rfl
 rotate_left
 ·simp only [Act.put,zq1,zq2,zq3,i64_w,i32_w];rfl
 refine done_ (by kernel_rfl) ?_;have HB8:=B8;have BP:=Aside0.mk (z09 (z14 w1 (.cells #[.int .i64 a,.int .i64 (n.opn+more),.pointer (some ⟨bn,0,none⟩),.int .i64 (min n.low (n.opn+more)),.int .i64 (max n.high (n.opn+more))] 118)));have HB:=Aside0.mk (z12 (z04 HB.out (.cells #[.int .i64 a,.int .i64 (n.opn+more),.pointer (some ⟨bn,0,none⟩),.int .i64 (min n.low (n.opn+more)),.int .i64 (max n.high (n.opn+more))] 118)));have BB:=Aside0.mk (z09 (z06 BB.out (.cells #[.int .i64 a,.int .i64 (n.opn+more),.pointer (some ⟨bn,0,none⟩),.int .i64 (min n.low (n.opn+more)),.int .i64 (max n.high (n.opn+more))] 118)));have B8:=Aside0.mk (z09 (z06 B8.out (.cells #[.int .i64 a,.int .i64 (n.opn+more),.pointer (some ⟨bn,0,none⟩),.int .i64 (min n.low (n.opn+more)),.int .i64 (max n.high (n.opn+more))] 118)));have HG:=Aside0.mk (HG.out.below (z12 (z04 (Below.refl w1.heap.size w1) (.cells #[.int .i64 a,.int .i64 (n.opn+more),.pointer (some ⟨bn,0,none⟩),.int .i64 (min n.low (n.opn+more)),.int .i64 (max n.high (n.opn+more))] 118))));have HNE:Aside0 (w1.heap.size≠b8):=⟨Nat.ne_of_gt (z0s HB8.out)⟩;generalize (w1.alloc (.cells #[.int .i64 a,.int .i64 (n.opn+more),.pointer (some ⟨bn,0,none⟩),.int .i64 (min n.low (n.opn+more)),.int .i64 (max n.high (n.opn+more))] 118)).drew=w2 at BP HB BB B8 HG ⊢;generalize w1.heap.size=b' at BP HNE ⊢;clear hHeld
 go_upto_region 3 with (fail)
 refine z27 (n:=21) (S:=fun w'=>w'.cell? ⟨bb,0,none⟩=some (.pointer (some ⟨g,0,none⟩))∧w'.cell? ⟨b',3,none⟩=some (.int .i64 (min n.low (n.opn+more)))∧w'.cell? ⟨b',4,none⟩=some (.int .i64 (max n.high (n.opn+more)))) (ds:=[]) #[zf,zf,zf,zf,zf,zf,zf,zf,zf,zf,zf,zf,zf,zf,zf,zf,zf,zf,zf,zf,zf] (by kernel_rfl) rfl rfl ⟨(z01 BB.out 0).trans rfl,(z01 BP.out 3).trans rfl,(z01 BP.out 4).trans rfl⟩ (fun hHeld=>?_);refine pure_ (i:=0) (N:=some 39) (v:=?_) (a':=?_) #[zt,zf,zf,zf,zf,zf,zf,zf,zf,zf,zf,zf,zf,zf,zf,zf,zf,zf,zf,zf,zf] rfl rfl (by kernel_rfl) (fun _ _ _ h=>h) (Or.inl ⟨by rfl,?_⟩) ?_ ?_;rotate_left
 ·intro w';go_simp;with_reducible rfl
 rotate_left
 ·simp only [Act.put,zq1,zq2,zq3,i64_w,i32_w];rfl
 refine pure_ (i:=2) (N:=some 41) (v:=?_) (a':=?_) #[zt,zf,zt,zf,zf,zf,zf,zf,zf,zf,zf,zf,zf,zf,zf,zf,zf,zf,zf,zf,zf] rfl rfl (by kernel_rfl) (fun _ _ _ h=>h) (Or.inl ⟨by rfl,?_⟩) ?_ ?_;rotate_left
 ·intro w';go_simp;with_reducible rfl
 rotate_left
 ·simp only [Act.put,zq1,zq2,zq3,i64_w,i32_w];rfl
 refine pure_ (i:=3) (N:=some 42) (v:=?_) (a':=?_) #[zt,zf,zt,zt,zf,zf,zf,zf,zf,zf,zf,zf,zf,zf,zf,zf,zf,zf,zf,zf,zf] rfl rfl (by kernel_rfl) (fun _ _ _ h=>h) (Or.inl ⟨by rfl,?_⟩) ?_ ?_;rotate_left
 ·intro w';go_simp;with_reducible rfl
 rotate_left
 ·simp only [Act.put,zq1,zq2,zq3,i64_w,i32_w];rfl
 refine pure_ (i:=5) (N:=some 44) (v:=?_) (a':=?_) #[zt,zf,zt,zt,zf,zt,zf,zf,zf,zf,zf,zf,zf,zf,zf,zf,zf,zf,zf,zf,zf] rfl rfl (by kernel_rfl) (fun _ _ _ h=>h) (Or.inl ⟨by rfl,?_⟩) ?_ ?_;rotate_left
 ·intro w';go_simp;with_reducible rfl
 rotate_left
 ·simp only [Act.put,zq1,zq2,zq3,i64_w,i32_w];rfl
 refine pure_ (i:=6) (N:=some 45) (v:=?_) (a':=?_) #[zt,zf,zt,zt,zf,zt,zt,zf,zf,zf,zf,zf,zf,zf,zf,zf,zf,zf,zf,zf,zf] rfl rfl (by kernel_rfl) (fun _ _ _ h=>h) (Or.inl ⟨by rfl,?_⟩) ?_ ?_;rotate_left
 ·intro w';go_simp;with_reducible rfl
 rotate_left
 ·simp only [Act.put,zq1,zq2,zq3,i64_w,i32_w];rfl
 refine pure_ (i:=7) (N:=some 46) (v:=?_) (a':=?_) #[zt,zf,zt,zt,zf,zt,zt,zt,zf,zf,zf,zf,zf,zf,zf,zf,zf,zf,zf,zf,zf] rfl rfl (by kernel_rfl) (fun _ _ _ h=>h) (Or.inl ⟨by rfl,?_⟩) ?_ ?_;rotate_left
 ·intro w';go_simp;with_reducible rfl
 rotate_left
 ·simp only [Act.put,zq1,zq2,zq3,i64_w,i32_w];rfl
 refine pure_ (i:=9) (N:=some 48) (v:=?_) (a':=?_) #[zt,zf,zt,zt,zf,zt,zt,zt,zf,zt,zf,zf,zf,zf,zf,zf,zf,zf,zf,zf,zf] rfl rfl (by kernel_rfl) (fun _ _ _ h=>h) (Or.inl ⟨by rfl,?_⟩) ?_ ?_;rotate_left
 ·intro w';go_simp;with_reducible rfl
 rotate_left
 ·simp only [Act.put,zq1,zq2,zq3,i64_w,i32_w];rfl
 refine pure_ (i:=10) (N:=some 49) (v:=?_) (a':=?_) #[zt,zf,zt,zt,zf,zt,zt,zt,zf,zt,zt,zf,zf,zf,zf,zf,zf,zf,zf,zf,zf] rfl rfl (by kernel_rfl) (fun _ _ _ h=>h) (Or.inl ⟨by rfl,?_⟩) ?_ ?_;rotate_left
 ·intro w';go_simp;with_reducible rfl
 rotate_left
 ·simp only [Act.put,zq1,zq2,zq3,i64_w,i32_w];rfl
 refine pure_ (i:=11) (N:=some 50) (v:=?_) (a':=?_) #[zt,zf,zt,zt,zf,zt,zt,zt,zf,zt,zt,zt,zf,zf,zf,zf,zf,zf,zf,zf,zf] rfl rfl (by kernel_rfl) (fun _ _ _ h=>h) (Or.inl ⟨by rfl,?_⟩) ?_ ?_;rotate_left
 ·intro w';go_simp;with_reducible rfl
 rotate_left
 ·simp only [Act.put,zq1,zq2,zq3,i64_w,i32_w];rfl
 refine pure_ (i:=14) (N:=some 53) (v:=?_) (a':=?_) #[zt,zf,zt,zt,zf,zt,zt,zt,zf,zt,zt,zt,zf,zf,zt,zf,zf,zf,zf,zf,zf] rfl rfl (by kernel_rfl) (fun _ _ _ h=>h) (Or.inl ⟨by rfl,?_⟩) ?_ ?_;rotate_left
 ·intro w';go_simp;with_reducible rfl
 rotate_left
 ·simp only [Act.put,zq1,zq2,zq3,i64_w,i32_w];rfl
 refine take_ (i:=1) (N:=some 40) (v:=?_) (a':=?_) #[zt,zt,zt,zt,zf,zt,zt,zt,zf,zt,zt,zt,zf,zf,zt,zf,zf,zf,zf,zf,zf] rfl rfl (by kernel_rfl) (fun _ _ _ h=>h) (Or.inl ⟨by rfl,?_⟩) hHeld ?_ ?_;rotate_left
 ·rintro w' ⟨s0,s1,s2⟩;go_simp;with_reducible rfl
 rotate_left
 ·simp only [Act.put,zq1,zq2,zq3,i64_w,i32_w];rfl
 refine pure_ (i:=4) (N:=some 43) (v:=?_) (a':=?_) #[zt,zt,zt,zt,zt,zt,zt,zt,zf,zt,zt,zt,zf,zf,zt,zf,zf,zf,zf,zf,zf] rfl rfl (by kernel_rfl) (fun _ _ _ h=>h) (Or.inl ⟨by rfl,?_⟩) ?_ ?_;rotate_left
 ·intro w';go_simp;with_reducible rfl
 rotate_left
 ·simp only [Act.put,zq1,zq2,zq3,i64_w,i32_w];rfl
 refine take_ (i:=8) (N:=some 47) (v:=?_) (a':=?_) #[zt,zt,zt,zt,zt,zt,zt,zt,zt,zt,zt,zt,zf,zf,zt,zf,zf,zf,zf,zf,zf] rfl rfl (by kernel_rfl) (fun _ _ _ h=>h) (Or.inl ⟨by rfl,?_⟩) hHeld ?_ ?_;rotate_left
 ·rintro w' ⟨s0,s1,s2⟩;go_simp;with_reducible rfl
 rotate_left
 ·simp only [Act.put,zq1,zq2,zq3,i64_w,i32_w];rfl
 refine take_ (i:=12) (N:=some 51) (v:=?_) (a':=?_) #[zt,zt,zt,zt,zt,zt,zt,zt,zt,zt,zt,zt,zt,zf,zt,zf,zf,zf,zf,zf,zf] rfl rfl (by kernel_rfl) (fun _ _ _ h=>h) (Or.inl ⟨by rfl,?_⟩) hHeld ?_ ?_;rotate_left
 ·rintro w' ⟨s0,s1,s2⟩;go_simp;with_reducible rfl
 rotate_left
 ·simp only [Act.put,zq1,zq2,zq3,i64_w,i32_w];rfl
 refine pure_ (i:=13) (N:=some 52) (v:=?_) (a':=?_) #[zt,zt,zt,zt,zt,zt,zt,zt,zt,zt,zt,zt,zt,zt,zt,zf,zf,zf,zf,zf,zf] rfl rfl (by kernel_rfl) (fun _ _ _ h=>h) (Or.inl ⟨by rfl,?_⟩) ?_ ?_;rotate_left
 ·intro w';go_simp;with_reducible rfl
 rotate_left
 ·simp only [Act.put,zq1,zq2,zq3,i64_w,i32_w];rfl
 refine take_ (i:=15) (N:=some 54) (v:=?_) (a':=?_) #[zt,zt,zt,zt,zt,zt,zt,zt,zt,zt,zt,zt,zt,zt,zt,zt,zf,zf,zf,zf,zf] rfl rfl (by kernel_rfl) (fun _ _ _ h=>h) (Or.inl ⟨by rfl,?_⟩) hHeld ?_ ?_;rotate_left
 ·rintro w' ⟨s0,s1,s2⟩;go_simp;with_reducible rfl
 rotate_left
 ·simp only [Act.put,zq1,zq2,zq3,i64_w,i32_w];rfl
 refine one_ (i:=16) (N:=some 55) #[zt,zt,zt,zt,zt,zt,zt,zt,zt,zt,zt,zt,zt,zt,zt,zt,zt,zf,zf,zf,zf] rfl rfl (by kernel_rfl) (by decide) (fun K hK=>?_);refine goes_ Tryz.func18 (by kernel_rfl) rfl #[.pointer (some ⟨g,0,none⟩)] (by rfl) rfl rfl (by simp only [List.map_toArray,List.map_cons,List.map_nil];rfl) ?_;refine (z34 (HG.out.below (z12 (Below.refl w2.heap.size w2))) HL.out.1 HL.out.2.1 HL.out.2.2).mono ?_;rintro e w4 ⟨v3,v4,v5,rfl,hR3,hR4,hR5,hb4⟩;obtain ⟨A3,c3,rfl⟩:=Kd.R_slice hR3;obtain ⟨A4,c4,rfl⟩:=Kd.R_slice hR4;obtain ⟨A5,c5,rfl⟩:=Kd.R_slice hR5;refine ⟨_,rfl,?_⟩;have BB4:=Aside0.mk (z0h (z09 BB.out) hb4);have BP4:=Aside0.mk (z0h (z09 BP.out) hb4);have B84:=Aside0.mk (z0h (z09 B8.out) hb4);have HB4:=Aside0.mk (z0x (z12 HB.out) (z12 HB.out).size hb4);have g0:w4.cell? ⟨b8,0,none⟩=some (.pointer none):=(z01 B84.out 0).trans rfl;have g1:w4.cell? ⟨b8,1,none⟩=some (.pointer none):=(z01 B84.out 1).trans rfl;have g2:w4.cell? ⟨b8,2,none⟩=some (.pointer none):=(z01 B84.out 2).trans rfl;have z0:=z02 B84.out 0;have z1:=z02 B84.out 1;have z2:=z02 B84.out 2;clear hR3 hR4 hR5 hb4;refine hK.out _ _ ⟨(z01 BB4.out 0).trans rfl,(z01 BP4.out 3).trans rfl,(z01 BP4.out 4).trans rfl⟩ (fun hHeld=>?_);clear hK K;refine norm_ (a':=?_) ?_ ?_;rotate_left
 ·show Act.put _ (some 55) _=_;simp only [Act.put,zq1,zq2,zq3,i64_w,i32_w];rfl
 refine pure_ (i:=17) (N:=some 56) (v:=?_) (a':=?_) #[zt,zt,zt,zt,zt,zt,zt,zt,zt,zt,zt,zt,zt,zt,zt,zt,zt,zt,zf,zf,zf] rfl rfl (by kernel_rfl) (fun _ _ _ h=>h) (Or.inl ⟨by rfl,?_⟩) ?_ ?_;rotate_left
 ·intro w';go_simp;with_reducible rfl
 rotate_left
 ·simp only [Act.put,zq1,zq2,zq3,i64_w,i32_w];rfl
 refine pure_ (i:=18) (N:=some 57) (v:=?_) (a':=?_) #[zt,zt,zt,zt,zt,zt,zt,zt,zt,zt,zt,zt,zt,zt,zt,zt,zt,zt,zt,zf,zf] rfl rfl (by kernel_rfl) (fun _ _ _ h=>h) (Or.inl ⟨by rfl,?_⟩) ?_ ?_;rotate_left
 ·intro w';go_simp;with_reducible rfl
 rotate_left
 ·simp only [Act.put,zq1,zq2,zq3,i64_w,i32_w];rfl
 refine one_ (i:=19) (N:=none) #[zt,zt,zt,zt,zt,zt,zt,zt,zt,zt,zt,zt,zt,zt,zt,zt,zt,zt,zt,zt,zf] rfl rfl (by kernel_rfl) (by decide) (fun K hK=>?_);refine skip_ (w1:=?_) (by rfl) rfl ?_ ?_;rotate_left
 ·go_simp;rfl
 refine hK.out _ _ ⟨(z01 (s3 BB4.out (by have:=HBB.out;omega) _ _ _) 0).trans rfl,(z01 (s3 BP4.out HNE.out _ _ _) 3).trans rfl,(z01 (s3 BP4.out HNE.out _ _ _) 4).trans rfl⟩ (fun hHeld=>?_);clear hK K;refine pure_ (i:=20) (N:=some 9) (v:=?_) (a':=?_) #[zt,zt,zt,zt,zt,zt,zt,zt,zt,zt,zt,zt,zt,zt,zt,zt,zt,zt,zt,zt,zt] rfl rfl (by kernel_rfl) (fun _ _ _ h=>h) (Or.inl ⟨by rfl,?_⟩) ?_ ?_;rotate_left
 ·intro w';go_simp;with_reducible rfl
 rotate_left
 ·simp only [Act.put,zq1,zq2,zq3,i64_w,i32_w];rfl
 refine done_ (by kernel_rfl) ?_;have B8':=Aside0.mk (z1d (z1d (z1d B84.out 0 (.pointer (some ⟨g,0,none⟩))) 1 (.pointer (some ⟨b',0,none⟩))) 2 (.pointer qz));have BP':=Aside0.mk (s3 BP4.out HNE.out (.pointer (some ⟨g,0,none⟩)) (.pointer (some ⟨b',0,none⟩)) (.pointer qz));have hlb:w.heap.size≤b8:=by have:=HBB.out;omega
 have HB':=Aside0.mk (z07 (z07 (z07 HB4.out (g:=b8) (j:=0) (v:=.pointer (some ⟨g,0,none⟩)) hlb) (g:=b8) (j:=1) (v:=.pointer (some ⟨b',0,none⟩)) hlb) (g:=b8) (j:=2) (v:=.pointer qz) hlb);generalize ((w4.setCell ⟨b8,0,none⟩ (.pointer (some ⟨g,0,none⟩))).setCell ⟨b8,1,none⟩ (.pointer (some ⟨b',0,none⟩))).setCell ⟨b8,2,none⟩ (.pointer qz)=w5 at B8' BP' HB' ⊢;clear BB BP B8 HB HG BB4 BP4 B84 HB4 hHeld g0 g1 g2 z0 z1 z2;go_wp2;refine bodyPost_ret (z2j rfl _ _ b8 63 #[.pointer (some ⟨g,0,none⟩),.pointer (some ⟨b',0,none⟩),.pointer qz] _ _ rfl B8'.out rfl rfl (by kernel_rfl)) rfl ?_;exact ⟨b',rfl,BP'.out,HB'.out⟩
def z1p (p:Im) (n:Nd) (r:List Nd) (ws:List Int) (a:Int):Wy × Bool :=
 let mk:=fun (more:Int) (vs:List Int)=>((⟨⟨a,n.opn+more,min n.low (n.opn+more),max n.high (n.opn+more)⟩ :: n :: r,vs⟩:Wy),decide (max n.high (n.opn+more) - min n.low (n.opn+more)≤p.f1))
 if opA p a=23 then
  (match ws with
   | []=>mk (-1) []
   | x :: vs=>if x=a+1 then mk (-1) vs else (⟨[],[]⟩,false))
 else if opA p a=24 then mk 1 (n.at_ :: ws)
 else mk 0 ws
def AheadPost (w:World) (g:Nat) (p:Im) (n:Nd) (r:List Nd) (ws:List Int) (a:Int) (e:Ending) (w':World):Prop :=
 ∃ q0 q1 q2,e=.returned (.tuple #[.agg #[.pointer q0,.pointer q1,.pointer q2],.bool (z1p p n r ws a).2])∧Below w.heap.size w w'∧((z1p p n r ws a).2=true→q0=some ⟨g,0,none⟩∧WyAt w' g (z1p p n r ws a).1 q1 q2)
theorem ahead_done {w w5:World} {g b6 b' bn:Nat} {p:Im} {n:Nd} {r:List Nd} {ws vs:List Int} {a more:Int} {qz:Option Addr} (hB:Below w.heap.size w w5) (h6:w.heap.size≤b6) (ht:∃ c,w.heap[bn]?=some c)
  (hb':w5.heap[b']?=some (.cells #[.int .i64 a,.int .i64 (n.opn+more),.pointer (some ⟨bn,0,none⟩),.int .i64 (min n.low (n.opn+more)),.int .i64 (max n.high (n.opn+more))] 118 (0,0)))
  (hn:NodeL w (some ⟨bn,0,none⟩) (n :: r)) (hz:WaitL w5 qz vs) (hw6:∃ c,w5.heap[b6]?=some (.cells c 63 (0,0)))
  (he:z1p p n r ws a=((⟨⟨a,n.opn+more,min n.low (n.opn+more),max n.high (n.opn+more)⟩ :: n :: r,vs⟩:Wy),decide (max n.high (n.opn+more) - min n.low (n.opn+more)≤p.f1))) (u0 u1 u2:Value) :
  Below w.heap.size w (((w5.setCell ⟨b6,0,none⟩ u0).setCell ⟨b6,1,none⟩ u1).setCell ⟨b6,2,none⟩ u2)∧WyAt (((w5.setCell ⟨b6,0,none⟩ u0).setCell ⟨b6,1,none⟩ u1).setCell ⟨b6,2,none⟩ u2) g (z1p p n r ws a).1 (some ⟨b',0,none⟩) qz:=by
 have hb3:=z07 (z07 (z07 hB (g:=b6) (j:=0) (v:=u0) h6) (g:=b6) (j:=1) (v:=u1) h6) (g:=b6) (j:=2) (v:=u2) h6;obtain ⟨c6,hc6⟩:=hw6;have hk:WKeep w5 (((w5.setCell ⟨b6,0,none⟩ u0).setCell ⟨b6,1,none⟩ u1).setCell ⟨b6,2,none⟩ u2):=fun b c t h htt=>s3 h (fun e=>by
  subst e;rw [hc6] at h;cases h
  rcases htt with h1|h1 <;> exact absurd h1 (by decide)) u0 u1 u2
 rw [he];exact ⟨hb3,by simp,⟨b',some ⟨bn,0,none⟩,rfl,hk _ _ _ hb' (.inl rfl),hn.keep (WKeep.below hb3)⟩,hz.keep hk⟩
theorem ahead_calls {w:World} {g B:Nat} {p:Im} {qw:Option Addr} {bn:Nat} {n:Nd} {r:List Nd} {ws:List Int} (hg:Gr w g B p) (hl3:p.f3.length≤100) (hl4:p.f4.length≤40) (hl5:p.f5.length≤300)
  (hn:NodeL w (some ⟨bn,0,none⟩) (n :: r)) (hws:WaitL w qw ws) {A3 A4 A5:Option Addr} {n3 c3 n4 c4 c5:Nat} (hC:Kd.C k79 w A5 p.f5.length p.f5)
  (a:Int) (ha0:0≤a) (ha1:a < p.f5.length) (ho:-1000000≤n.opn∧n.opn≤1000000) (hlo:-1000000≤n.low∧n.low≤1000000) (hhi:-1000000≤n.high∧n.high≤1000000) :
  Calls Tryz.prog 99 #[.agg #[.pointer (some ⟨g,0,none⟩),.pointer (some ⟨bn,0,none⟩),.pointer qw],.agg #[.int .i64 p.f0,.int .i64 p.f1,.int .i64 p.f2,.slice A3 n3 c3,.slice A4 n4 c4,.slice A5 p.f5.length c5],.int .i64 a] w (AheadPost w g p n r ws a):=by
 have hbl:=z04 (z04 (z04 (Below.refl w.heap.size w) (.cells #[.pointer (some ⟨g,0,none⟩),.pointer (some ⟨bn,0,none⟩),.pointer qw] 63)) (.cells #[.int .i64 p.f0,.int .i64 p.f1,.int .i64 p.f2,.slice A3 n3 c3,.slice A4 n4 c4,.slice A5 p.f5.length c5] 26)) (.cells #[.pointer none,.pointer none,.pointer none] 63);have HB:=Aside0.mk hbl;have e1:(w.alloc (.cells #[.pointer (some ⟨g,0,none⟩),.pointer (some ⟨bn,0,none⟩),.pointer qw] 63)).heap.size=w.heap.size+1:=by show (w.heap.push _).size=_;simp
 have e2:((w.alloc (.cells #[.pointer (some ⟨g,0,none⟩),.pointer (some ⟨bn,0,none⟩),.pointer qw] 63)).alloc (.cells #[.int .i64 p.f0,.int .i64 p.f1,.int .i64 p.f2,.slice A3 n3 c3,.slice A4 n4 c4,.slice A5 p.f5.length c5] 26)).heap.size=w.heap.size+2:=by show (((w.heap.push _).push _)).size=_;simp
 have BB:=Aside0.mk (z06 (z06 (z14 w (.cells #[.pointer (some ⟨g,0,none⟩),.pointer (some ⟨bn,0,none⟩),.pointer qw] 63)) (.cells #[.int .i64 p.f0,.int .i64 p.f1,.int .i64 p.f2,.slice A3 n3 c3,.slice A4 n4 c4,.slice A5 p.f5.length c5] 26)) (.cells #[.pointer none,.pointer none,.pointer none] 63));have bi0:=z06 (z14 (w.alloc (.cells #[.pointer (some ⟨g,0,none⟩),.pointer (some ⟨bn,0,none⟩),.pointer qw] 63)) (.cells #[.int .i64 p.f0,.int .i64 p.f1,.int .i64 p.f2,.slice A3 n3 c3,.slice A4 n4 c4,.slice A5 p.f5.length c5] 26)) (.cells #[.pointer none,.pointer none,.pointer none] 63);rw [e1] at bi0;have BI:=Aside0.mk bi0;clear bi0;have b60:=z14 ((w.alloc (.cells #[.pointer (some ⟨g,0,none⟩),.pointer (some ⟨bn,0,none⟩),.pointer qw] 63)).alloc (.cells #[.int .i64 p.f0,.int .i64 p.f1,.int .i64 p.f2,.slice A3 n3 c3,.slice A4 n4 c4,.slice A5 p.f5.length c5] 26)) (.cells #[.pointer none,.pointer none,.pointer none] 63);rw [e2] at b60;have B6:=Aside0.mk b60;clear b60;obtain ⟨bn',q',ebn,hbn,hnr⟩:=id hn;obtain rfl:bn=bn':=by cases ebn;rfl
 have BN:=Aside0.mk (z0h hbn hbl);have HNL:=Aside0.mk hn;have HBN0:Aside0 (∃ c,w.heap[bn]?=some c):=⟨⟨_,hbn⟩⟩;have HWS:=Aside0.mk hws;have HG:=Aside0.mk (hg.below hbl);have HL:=Aside0.mk (And.intro hl3 (And.intro hl4 hl5));have HOO:=Aside0.mk (And.intro ho (And.intro hlo hhi));obtain ⟨ad,e5,hx0,_,_,_,_⟩:=at_T79 (Kd.C_below hC hbl) a ha0 ha1;subst e5;have HX0:=Aside0.mk hx0;have HA:=Aside0.mk (And.intro ha0 ha1);clear hg hl3 hl4 hl5 hn hws hC ho hlo hhi hbl e1 e2 hbn hnr ebn hx0 BB;have BB:=Aside0.mk (z06 (z06 (z14 w (.cells #[.pointer (some ⟨g,0,none⟩),.pointer (some ⟨bn,0,none⟩),.pointer qw] 63)) (.cells #[.int .i64 p.f0,.int .i64 p.f1,.int .i64 p.f2,.slice A3 n3 c3,.slice A4 n4 c4,.slice (some ad) p.f5.length c5] 26)) (.cells #[.pointer none,.pointer none,.pointer none] 63))
 go_enter Tryz.func99,Tryz.ntmps99
 go_upto_region 1 with (fail)
 generalize ((w.alloc (.cells #[.pointer (some ⟨g,0,none⟩),.pointer (some ⟨bn,0,none⟩),.pointer qw] 63)).alloc (.cells #[.int .i64 p.f0,.int .i64 p.f1,.int .i64 p.f2,.slice A3 n3 c3,.slice A4 n4 c4,.slice (some ad) p.f5.length c5] 26)).alloc (.cells #[.pointer none,.pointer none,.pointer none] 63)=w1 at HB BB BI B6 BN HG HX0 ⊢;obtain ⟨b6,hb6⟩:∃ b6,w.heap.size+1+1=b6:=⟨_,rfl⟩;obtain ⟨bi,hbi⟩:∃ bi,w.heap.size+1=bi:=⟨_,rfl⟩;obtain ⟨bb,hbb⟩:∃ bb,w.heap.size=bb:=⟨_,rfl⟩;have HBB:Aside0 (w.heap.size≤b6):=⟨by omega⟩;have hb6':w.heap.size+2=b6:=hb6;rw [hb6'] at B6;rw [hbi] at BI;rw [hbb] at BB;simp only [hb6];simp only [hbi];simp only [hbb];clear hb6 hbi hbb hb6';have y0:w1.cell? ⟨bb,0,none⟩=some (.pointer (some ⟨g,0,none⟩)):=(z01 BB.out 0).trans rfl;have y1:w1.cell? ⟨bb,1,none⟩=some (.pointer (some ⟨bn,0,none⟩)):=(z01 BB.out 1).trans rfl;have y2:w1.cell? ⟨bb,2,none⟩=some (.pointer qw):=(z01 BB.out 2).trans rfl;have i5:w1.cell? ⟨bi,5,none⟩=some (.slice (some ad) p.f5.length c5):=(z01 BI.out 5).trans rfl;obtain ⟨k,hk⟩:∃ k,opA p a=k:=⟨_,rfl⟩;have hx0:w1.cell? (ad.add (a.toNat * 5))=some (.int .i64 k):=by rw [← hk];exact HX0.out
 have hp0:(0≤a)=True:=eq_true ha0;have hp1:(a < (p.f5.length:Int))=True:=eq_true ha1;have HK:=Aside0.mk hk;clear hk
 by_cases h23:k=23
 ·have e23:(k == 23)=true:=by simpa using h23
  have HK23:Aside0 (opA p a=23):=⟨HK.out.trans h23⟩;clear h23;cases ws with
  | nil =>
   have hq:qw=none:=HWS.out;subst hq;have HE:Aside0 (z1p p n r [] a=((⟨⟨a,n.opn+(-1),min n.low (n.opn+(-1)),max n.high (n.opn+(-1))⟩ :: n :: r,[]⟩:Wy),decide (max n.high (n.opn+(-1)) - min n.low (n.opn+(-1))≤p.f1))):=⟨by unfold z1p;rw [if_pos HK23.out]⟩
   go_wp2_with (fail)
   refine (z33 (qz:=none) HG.out HL.out.1 HL.out.2.1 HL.out.2.2 BN.out a (-1) HOO.out.1 HOO.out.2.1 HOO.out.2.2 (by omega)).mono ?_;rintro e w5 ⟨b',rfl,hb',hB5⟩;have hc6:=z0h B6.out hB5;have HB5:=Aside0.mk (z0x HB.out HB.out.size hB5);have g0:w5.cell? ⟨b6,0,none⟩=some (.pointer none):=(z01 hc6 0).trans rfl;have g1:w5.cell? ⟨b6,1,none⟩=some (.pointer none):=(z01 hc6 1).trans rfl;have g2:w5.cell? ⟨b6,2,none⟩=some (.pointer none):=(z01 hc6 2).trans rfl;have z0:=z02 hc6 0;have z1:=z02 hc6 1;have z2:=z02 hc6 2;have HD:=Aside0.mk (ahead_done (g:=g) HB5.out HBB.out HBN0.out hb' HNL.out (show WaitL w5 none [] from rfl) ⟨_,hc6⟩ HE.out (.pointer (some ⟨g,0,none⟩)) (.pointer (some ⟨b',0,none⟩)) (.pointer none));have B6':=Aside0.mk (z1d (z1d (z1d hc6 0 (.pointer (some ⟨g,0,none⟩))) 1 (.pointer (some ⟨b',0,none⟩))) 2 (.pointer none));clear hb' hB5 hc6 y0 y1 y2 i5 hx0;go_wp2;refine bodyPost_ret (z2j rfl _ _ b6 63 #[.pointer (some ⟨g,0,none⟩),.pointer (some ⟨b',0,none⟩),.pointer none] _ _ rfl B6'.out rfl rfl (by kernel_rfl)) rfl ?_;exact ⟨_,_,_,by rw [HE.out];first|rfl|simp,HD.out.1,fun _=>⟨rfl,HD.out.2⟩⟩
  | cons x vs =>
   obtain ⟨bx,qx,rfl,hbx,hwx⟩:=id HWS.out;have BX:=Aside0.mk (z0h hbx HB.out);have HWX:=Aside0.mk hwx;clear hbx hwx;have x0:w1.cell? ⟨bx,0,none⟩=some (.int .i64 x):=(z01 BX.out 0).trans rfl;have hwr:IntKind.i64.wrap (a+1)=a+1:=IntWalk.i64_in _ (by have:=HA.out;have:=HL.out;omega)
   by_cases hxa:x=a+1
   ·have exa:(x != a+1)=false:=(by simpa using hxa);have HE:Aside0 (z1p p n r (x :: vs) a=((⟨⟨a,n.opn+(-1),min n.low (n.opn+(-1)),max n.high (n.opn+(-1))⟩ :: n :: r,vs⟩:Wy),decide (max n.high (n.opn+(-1)) - min n.low (n.opn+(-1))≤p.f1))):=⟨by unfold z1p;rw [if_pos HK23.out];simp only [if_pos hxa]⟩;clear hxa
    go_upto_region 7 with (fail)
    clear y0 y1 y2 i5 hx0 x0;refine z27 (n:=12) (S:=fun w'=>w'.cell? ⟨bb,0,none⟩=some (.pointer (some ⟨g,0,none⟩))∧w'.cell? ⟨bb,1,none⟩=some (.pointer (some ⟨bn,0,none⟩))∧w'.cell? ⟨bb,2,none⟩=some (.pointer (some ⟨bx,0,none⟩))∧w'.cell? ⟨bx,1,none⟩=some (.pointer qx)) (ds:=[7,10]) #[zf,zf,zf,zf,zf,zf,zf,zf,zf,zf,zf,zf] (by kernel_rfl) rfl rfl ⟨(z01 BB.out 0).trans rfl,(z01 BB.out 1).trans rfl,(z01 BB.out 2).trans rfl,(z01 BX.out 1).trans rfl⟩ (fun hHeld=>?_);refine pure_ (i:=1) (N:=some 34) (v:=?_) (a':=?_) #[zf,zt,zf,zf,zf,zf,zf,zf,zf,zf,zf,zf] rfl rfl (by kernel_rfl) (fun _ _ _ h=>h) (Or.inl ⟨by rfl,?_⟩) ?_ ?_;rotate_left
    ·intro w';go_simp;with_reducible rfl
    rotate_left
    ·simp only [Act.put,zq1,zq2,zq3,i64_w,i32_w];rfl
    refine pure_ (i:=2) (N:=some 35) (v:=?_) (a':=?_) #[zf,zt,zt,zf,zf,zf,zf,zf,zf,zf,zf,zf] rfl rfl (by kernel_rfl) (fun _ _ _ h=>h) (Or.inl ⟨by rfl,?_⟩) ?_ ?_;rotate_left
    ·intro w';go_simp;with_reducible rfl
    rotate_left
    ·simp only [Act.put,zq1,zq2,zq3,i64_w,i32_w];rfl
    refine take_ (i:=0) (N:=some 33) (v:=?_) (a':=?_) #[zt,zt,zt,zf,zf,zf,zf,zf,zf,zf,zf,zf] rfl rfl (by kernel_rfl) (fun _ _ _ h=>h) (Or.inl ⟨by rfl,?_⟩) hHeld ?_ ?_;rotate_left
    ·rintro w' ⟨s0,s1,s2,s3⟩;go_simp;with_reducible rfl
    rotate_left
    ·simp only [Act.put,zq1,zq2,zq3,i64_w,i32_w];rfl
    refine take_ (i:=3) (N:=some 36) (v:=?_) (a':=?_) #[zt,zt,zt,zt,zf,zf,zf,zf,zf,zf,zf,zf] rfl rfl (by kernel_rfl) (fun _ _ _ h=>h) (Or.inl ⟨by rfl,?_⟩) hHeld ?_ ?_;rotate_left
    ·rintro w' ⟨s0,s1,s2,s3⟩;go_simp;with_reducible rfl
    rotate_left
    ·simp only [Act.put,zq1,zq2,zq3,i64_w,i32_w];rfl
    refine pure_ (i:=4) (N:=some 37) (v:=?_) (a':=?_) #[zt,zt,zt,zt,zt,zf,zf,zf,zf,zf,zf,zf] rfl rfl (by kernel_rfl) (fun _ _ _ h=>h) (Or.inl ⟨by rfl,?_⟩) ?_ ?_;rotate_left
    ·intro w';go_simp;with_reducible rfl
    rotate_left
    ·simp only [Act.put,zq1,zq2,zq3,i64_w,i32_w];rfl
    refine pure_ (i:=5) (N:=some 38) (v:=?_) (a':=?_) #[zt,zt,zt,zt,zt,zt,zf,zf,zf,zf,zf,zf] rfl rfl (by kernel_rfl) (fun _ _ _ h=>h) (Or.inl ⟨by rfl,?_⟩) ?_ ?_;rotate_left
    ·intro w';go_simp;with_reducible rfl
    rotate_left
    ·simp only [Act.put,zq1,zq2,zq3,i64_w,i32_w];rfl
    refine take_ (i:=6) (N:=some 39) (v:=?_) (a':=?_) #[zt,zt,zt,zt,zt,zt,zt,zf,zf,zf,zf,zf] rfl rfl (by kernel_rfl) (fun _ _ _ h=>h) (Or.inl ⟨by rfl,?_⟩) hHeld ?_ ?_;rotate_left
    ·rintro w' ⟨s0,s1,s2,s3⟩;go_simp;with_reducible rfl
    rotate_left
    ·simp only [Act.put,zq1,zq2,zq3,i64_w,i32_w];rfl
    refine last_ (i:=7) (N:=some 40) #[zt,zt,zt,zt,zt,zt,zt,zt,zf,zf,zf,zf] rfl rfl (by kernel_rfl) (by decide) (fun K hK=>?_);refine goes_ Tryz.func140 (by kernel_rfl) rfl #[.agg #[.pointer (some ⟨g,0,none⟩),.pointer (some ⟨bn,0,none⟩),.pointer (some ⟨bx,0,none⟩)],.int .i64 a,.int .i64 (-1),.pointer qx] (by rfl) rfl rfl (by simp only [List.map_toArray,List.map_cons,List.map_nil];rfl) ?_;refine (z33 (qz:=qx) (HG.out.below (z12 (Below.refl w1.heap.size w1))) HL.out.1 HL.out.2.1 HL.out.2.2 (z09 BN.out) a (-1) HOO.out.1 HOO.out.2.1 HOO.out.2.2 (by omega)).mono ?_;rintro e w5 ⟨b',rfl,hb',hB5'⟩;refine ⟨_,rfl,?_⟩;have hB5:Below w1.heap.size w1 w5:=⟨hB5'.os,hB5'.tape,hB5'.output,hB5'.size,hB5'.block⟩;have hc6:=z0h B6.out hB5;have HB5:=Aside0.mk (z0x HB.out HB.out.size hB5);have g0:w5.cell? ⟨b6,0,none⟩=some (.pointer none):=(z01 hc6 0).trans rfl;have g1:w5.cell? ⟨b6,1,none⟩=some (.pointer none):=(z01 hc6 1).trans rfl;have g2:w5.cell? ⟨b6,2,none⟩=some (.pointer none):=(z01 hc6 2).trans rfl;have z0:=z02 hc6 0;have z1:=z02 hc6 1;have z2:=z02 hc6 2;have HD:=Aside0.mk (ahead_done (g:=g) HB5.out HBB.out HBN0.out hb' HNL.out (HWX.out.keep (WKeep.below (z0x HB.out HB.out.size hB5))) ⟨_,hc6⟩ HE.out (.pointer (some ⟨g,0,none⟩)) (.pointer (some ⟨b',0,none⟩)) (.pointer qx));have B6':=Aside0.mk (z1d (z1d (z1d hc6 0 (.pointer (some ⟨g,0,none⟩))) 1 (.pointer (some ⟨b',0,none⟩))) 2 (.pointer qx));clear hb' hB5 hc6;refine hK.out _ _ ?_;clear hK K;refine norm_ (a':=?_) ?_ ?_;rotate_left
    ·show Act.put _ (some 40) _=_;simp only [Act.put,zq1,zq2,zq3,i64_w,i32_w];rfl
    refine pure_ (i:=8) (N:=some 41) (v:=?_) (a':=?_) #[zt,zt,zt,zt,zt,zt,zt,zt,zt,zf,zf,zf] rfl rfl (by kernel_rfl) (fun _ _ _ h=>h) (Or.inl ⟨by rfl,?_⟩) ?_ ?_;rotate_left
    ·intro w';go_simp;with_reducible rfl
    rotate_left
    ·simp only [Act.put,zq1,zq2,zq3,i64_w,i32_w];rfl
    refine pure_ (i:=9) (N:=some 42) (v:=?_) (a':=?_) #[zt,zt,zt,zt,zt,zt,zt,zt,zt,zt,zf,zf] rfl rfl (by kernel_rfl) (fun _ _ _ h=>h) (Or.inl ⟨by rfl,?_⟩) ?_ ?_;rotate_left
    ·intro w';go_simp;with_reducible rfl
    rotate_left
    ·simp only [Act.put,zq1,zq2,zq3,i64_w,i32_w];rfl
    refine last_ (i:=10) (N:=none) #[zt,zt,zt,zt,zt,zt,zt,zt,zt,zt,zt,zf] rfl rfl (by kernel_rfl) (by decide) (fun K hK=>?_);refine skip_ (w1:=?_) (by rfl) rfl ?_ ?_;rotate_left
    ·go_simp;rfl
    refine hK.out _ _ ?_;clear hK K;refine pure_ (i:=11) (N:=some 7) (v:=?_) (a':=?_) #[zt,zt,zt,zt,zt,zt,zt,zt,zt,zt,zt,zt] rfl rfl (by kernel_rfl) (fun _ _ _ h=>h) (Or.inl ⟨by rfl,?_⟩) ?_ ?_;rotate_left
    ·intro w';go_simp;with_reducible rfl
    rotate_left
    ·simp only [Act.put,zq1,zq2,zq3,i64_w,i32_w];rfl
    refine done_ (by kernel_rfl) ?_;go_wp2;refine bodyPost_ret (z2j rfl _ _ b6 63 #[.pointer (some ⟨g,0,none⟩),.pointer (some ⟨b',0,none⟩),.pointer qx] _ _ rfl B6'.out rfl rfl (by kernel_rfl)) rfl ?_;exact ⟨_,_,_,by rw [HE.out];first|rfl|simp,HD.out.1,fun _=>⟨rfl,HD.out.2⟩⟩
   ·have exa:(x != a+1)=true:=(by simpa using hxa);have HE:Aside0 ((z1p p n r (x :: vs) a).2=false):=⟨by unfold z1p;rw [if_pos HK23.out];simp only [if_neg hxa]⟩;clear hxa;have g0:w1.cell? ⟨b6,0,none⟩=some (.pointer none):=(z01 B6.out 0).trans rfl;have g1:w1.cell? ⟨b6,1,none⟩=some (.pointer none):=(z01 B6.out 1).trans rfl;have g2:w1.cell? ⟨b6,2,none⟩=some (.pointer none):=(z01 B6.out 2).trans rfl;have z0:=z02 B6.out 0;have z1:=z02 B6.out 1;have z2:=z02 B6.out 2;have B6':=Aside0.mk (z1d (z1d (z1d B6.out 0 (.pointer none)) 1 (.pointer none)) 2 (.pointer none));have HB':=Aside0.mk (z07 (z07 (z07 HB.out (g:=b6) (j:=0) (v:=.pointer none) HBB.out) (g:=b6) (j:=1) (v:=.pointer none) HBB.out) (g:=b6) (j:=2) (v:=.pointer none) HBB.out);go_wp2;refine bodyPost_ret (z2j rfl _ _ b6 63 #[.pointer none,.pointer none,.pointer none] _ _ rfl B6'.out rfl rfl (by kernel_rfl)) rfl ?_;exact ⟨none,none,none,by rw [HE.out];rfl,HB'.out,fun h=>by rw [HE.out] at h;cases h⟩
 ·have e23:(k == 23)=false:=by simpa using h23
  by_cases h24:k=24
  ·have e24:(k == 24)=true:=by simpa using h24
   have HE:Aside0 (z1p p n r ws a=((⟨⟨a,n.opn+(1),min n.low (n.opn+(1)),max n.high (n.opn+(1))⟩ :: n :: r,n.at_ :: ws⟩:Wy),decide (max n.high (n.opn+(1)) - min n.low (n.opn+(1))≤p.f1))):=⟨by unfold z1p;rw [if_neg (by rw [HK.out];exact h23),if_pos (by rw [HK.out];exact h24)]⟩;clear h23 h24
   go_upto_region 9 with (fail)
   clear y0 y1 y2 i5 hx0;refine z27 (n:=16) (S:=fun w'=>w'.cell? ⟨bb,0,none⟩=some (.pointer (some ⟨g,0,none⟩))∧w'.cell? ⟨bb,1,none⟩=some (.pointer (some ⟨bn,0,none⟩))∧w'.cell? ⟨bb,2,none⟩=some (.pointer qw)∧w'.cell? ⟨bn,0,none⟩=some (.int .i64 n.at_)) (ds:=[11,14]) #[zf,zf,zf,zf,zf,zf,zf,zf,zf,zf,zf,zf,zf,zf,zf,zf] (by kernel_rfl) rfl rfl ⟨(z01 BB.out 0).trans rfl,(z01 BB.out 1).trans rfl,(z01 BB.out 2).trans rfl,(z01 BN.out 0).trans rfl⟩ (fun hHeld=>?_);refine pure_ (i:=1) (N:=some 46) (v:=?_) (a':=?_) #[zf,zt,zf,zf,zf,zf,zf,zf,zf,zf,zf,zf,zf,zf,zf,zf] rfl rfl (by kernel_rfl) (fun _ _ _ h=>h) (Or.inl ⟨by rfl,?_⟩) ?_ ?_;rotate_left
   ·intro w';go_simp;with_reducible rfl
   rotate_left
   ·simp only [Act.put,zq1,zq2,zq3,i64_w,i32_w];rfl
   refine pure_ (i:=2) (N:=some 47) (v:=?_) (a':=?_) #[zf,zt,zt,zf,zf,zf,zf,zf,zf,zf,zf,zf,zf,zf,zf,zf] rfl rfl (by kernel_rfl) (fun _ _ _ h=>h) (Or.inl ⟨by rfl,?_⟩) ?_ ?_;rotate_left
   ·intro w';go_simp;with_reducible rfl
   rotate_left
   ·simp only [Act.put,zq1,zq2,zq3,i64_w,i32_w];rfl
   refine pure_ (i:=7) (N:=some 52) (v:=?_) (a':=?_) #[zf,zt,zt,zf,zf,zf,zf,zt,zf,zf,zf,zf,zf,zf,zf,zf] rfl rfl (by kernel_rfl) (fun _ _ _ h=>h) (Or.inl ⟨by rfl,?_⟩) ?_ ?_;rotate_left
   ·intro w';go_simp;with_reducible rfl
   rotate_left
   ·simp only [Act.put,zq1,zq2,zq3,i64_w,i32_w];rfl
   refine take_ (i:=0) (N:=some 45) (v:=?_) (a':=?_) #[zt,zt,zt,zf,zf,zf,zf,zt,zf,zf,zf,zf,zf,zf,zf,zf] rfl rfl (by kernel_rfl) (fun _ _ _ h=>h) (Or.inl ⟨by rfl,?_⟩) hHeld ?_ ?_;rotate_left
   ·rintro w' ⟨s0,s1,s2,s3⟩;go_simp;with_reducible rfl
   rotate_left
   ·simp only [Act.put,zq1,zq2,zq3,i64_w,i32_w];rfl
   refine take_ (i:=3) (N:=some 48) (v:=?_) (a':=?_) #[zt,zt,zt,zt,zf,zf,zf,zt,zf,zf,zf,zf,zf,zf,zf,zf] rfl rfl (by kernel_rfl) (fun _ _ _ h=>h) (Or.inl ⟨by rfl,?_⟩) hHeld ?_ ?_;rotate_left
   ·rintro w' ⟨s0,s1,s2,s3⟩;go_simp;with_reducible rfl
   rotate_left
   ·simp only [Act.put,zq1,zq2,zq3,i64_w,i32_w];rfl
   refine pure_ (i:=4) (N:=some 49) (v:=?_) (a':=?_) #[zt,zt,zt,zt,zt,zf,zf,zt,zf,zf,zf,zf,zf,zf,zf,zf] rfl rfl (by kernel_rfl) (fun _ _ _ h=>h) (Or.inl ⟨by rfl,?_⟩) ?_ ?_;rotate_left
   ·intro w';go_simp;with_reducible rfl
   rotate_left
   ·simp only [Act.put,zq1,zq2,zq3,i64_w,i32_w];rfl
   refine pure_ (i:=5) (N:=some 50) (v:=?_) (a':=?_) #[zt,zt,zt,zt,zt,zt,zf,zt,zf,zf,zf,zf,zf,zf,zf,zf] rfl rfl (by kernel_rfl) (fun _ _ _ h=>h) (Or.inl ⟨by rfl,?_⟩) ?_ ?_;rotate_left
   ·intro w';go_simp;with_reducible rfl
   rotate_left
   ·simp only [Act.put,zq1,zq2,zq3,i64_w,i32_w];rfl
   refine take_ (i:=6) (N:=some 51) (v:=?_) (a':=?_) #[zt,zt,zt,zt,zt,zt,zt,zt,zf,zf,zf,zf,zf,zf,zf,zf] rfl rfl (by kernel_rfl) (fun _ _ _ h=>h) (Or.inl ⟨by rfl,?_⟩) hHeld ?_ ?_;rotate_left
   ·rintro w' ⟨s0,s1,s2,s3⟩;go_simp;with_reducible rfl
   rotate_left
   ·simp only [Act.put,zq1,zq2,zq3,i64_w,i32_w];rfl
   refine take_ (i:=8) (N:=some 53) (v:=?_) (a':=?_) #[zt,zt,zt,zt,zt,zt,zt,zt,zt,zf,zf,zf,zf,zf,zf,zf] rfl rfl (by kernel_rfl) (fun _ _ _ h=>h) (Or.inl ⟨by rfl,?_⟩) hHeld ?_ ?_;rotate_left
   ·rintro w' ⟨s0,s1,s2,s3⟩;go_simp;with_reducible rfl
   rotate_left
   ·simp only [Act.put,zq1,zq2,zq3,i64_w,i32_w];rfl
   refine pure_ (i:=9) (N:=some 54) (v:=?_) (a':=?_) #[zt,zt,zt,zt,zt,zt,zt,zt,zt,zt,zf,zf,zf,zf,zf,zf] rfl rfl (by kernel_rfl) (fun _ _ _ h=>h) (Or.inl ⟨by rfl,?_⟩) ?_ ?_;rotate_left
   ·intro w';go_simp;with_reducible rfl
   rotate_left
   ·simp only [Act.put,zq1,zq2,zq3,i64_w,i32_w];rfl
   refine one_ (i:=10) (N:=some 55) #[zt,zt,zt,zt,zt,zt,zt,zt,zt,zt,zt,zf,zf,zf,zf,zf] rfl rfl (by kernel_rfl) (by decide) (fun K hK=>?_);refine z1c (w1:=?_) (v:=?_) (by rfl) rfl ?_ ?_;rotate_left 2
   ·go_simp;constructor
    ·rfl
    ·rfl
   have BW:=Aside0.mk (z14 w1.drew (.cells #[.int .i64 n.at_,.pointer qw] 122));have BB3:=Aside0.mk (z06 (z09 BB.out) (.cells #[.int .i64 n.at_,.pointer qw] 122));have BN3:=Aside0.mk (z06 (z09 BN.out) (.cells #[.int .i64 n.at_,.pointer qw] 122));have HG3:=Aside0.mk (HG.out.below (z04 (z12 (Below.refl w1.heap.size w1)) (.cells #[.int .i64 n.at_,.pointer qw] 122)));have HB3:=Aside0.mk (z04 (z12 (Below.refl w1.heap.size w1)) (.cells #[.int .i64 n.at_,.pointer qw] 122));refine hK.out _ _ ⟨(z01 BB3.out 0).trans rfl,(z01 BB3.out 1).trans rfl,(z01 BB3.out 2).trans rfl,(z01 BN3.out 0).trans rfl⟩ (fun hHeld=>?_);clear hK K;refine norm_ (a':=?_) ?_ ?_;rotate_left
   ·show Act.put _ (some 55) _=_;simp only [Act.put,zq1,zq2,zq3,i64_w,i32_w];rfl
   refine last_ (i:=11) (N:=some 56) #[zt,zt,zt,zt,zt,zt,zt,zt,zt,zt,zt,zt,zf,zf,zf,zf] rfl rfl (by kernel_rfl) (by decide) (fun K hK=>?_);refine goes_ Tryz.func140 (by kernel_rfl) rfl #[.agg #[.pointer (some ⟨g,0,none⟩),.pointer (some ⟨bn,0,none⟩),.pointer qw],.int .i64 a,.int .i64 1,.pointer (some ⟨w1.heap.size,0,none⟩)] (by rfl) rfl rfl (by simp only [List.map_toArray,List.map_cons,List.map_nil];rfl) ?_;refine (z33 (qz:=(some ⟨w1.heap.size,0,none⟩)) HG3.out HL.out.1 HL.out.2.1 HL.out.2.2 BN3.out a 1 HOO.out.1 HOO.out.2.1 HOO.out.2.2 (by omega)).mono ?_;rintro e w5 ⟨b',rfl,hb',hB5'⟩;refine ⟨_,rfl,?_⟩;have hB5:Below w1.heap.size w1 w5:=z0x HB3.out HB3.out.size hB5';have hc6:=z0h B6.out hB5;have HB5:=Aside0.mk (z0x HB.out HB.out.size hB5);have g0:w5.cell? ⟨b6,0,none⟩=some (.pointer none):=(z01 hc6 0).trans rfl;have g1:w5.cell? ⟨b6,1,none⟩=some (.pointer none):=(z01 hc6 1).trans rfl;have g2:w5.cell? ⟨b6,2,none⟩=some (.pointer none):=(z01 hc6 2).trans rfl;have z0:=z02 hc6 0;have z1:=z02 hc6 1;have z2:=z02 hc6 2;have HD:=Aside0.mk (ahead_done (g:=g) HB5.out HBB.out HBN0.out hb' HNL.out (show WaitL w5 (some ⟨w1.heap.size,0,none⟩) (n.at_ :: ws) from ⟨w1.heap.size,qw,rfl,z0h BW.out hB5',HWS.out.keep (WKeep.below (z0x HB.out HB.out.size hB5))⟩) ⟨_,hc6⟩ HE.out (.pointer (some ⟨g,0,none⟩)) (.pointer (some ⟨b',0,none⟩)) (.pointer (some ⟨w1.heap.size,0,none⟩)));have B6':=Aside0.mk (z1d (z1d (z1d hc6 0 (.pointer (some ⟨g,0,none⟩))) 1 (.pointer (some ⟨b',0,none⟩))) 2 (.pointer (some ⟨w1.heap.size,0,none⟩)));clear hb' hB5 hc6;refine hK.out _ _ ?_;clear hK K;refine norm_ (a':=?_) ?_ ?_;rotate_left
   ·show Act.put _ (some 56) _=_;simp only [Act.put,zq1,zq2,zq3,i64_w,i32_w];rfl
   refine pure_ (i:=12) (N:=some 57) (v:=?_) (a':=?_) #[zt,zt,zt,zt,zt,zt,zt,zt,zt,zt,zt,zt,zt,zf,zf,zf] rfl rfl (by kernel_rfl) (fun _ _ _ h=>h) (Or.inl ⟨by rfl,?_⟩) ?_ ?_;rotate_left
   ·intro w';go_simp;with_reducible rfl
   rotate_left
   ·simp only [Act.put,zq1,zq2,zq3,i64_w,i32_w];rfl
   refine pure_ (i:=13) (N:=some 58) (v:=?_) (a':=?_) #[zt,zt,zt,zt,zt,zt,zt,zt,zt,zt,zt,zt,zt,zt,zf,zf] rfl rfl (by kernel_rfl) (fun _ _ _ h=>h) (Or.inl ⟨by rfl,?_⟩) ?_ ?_;rotate_left
   ·intro w';go_simp;with_reducible rfl
   rotate_left
   ·simp only [Act.put,zq1,zq2,zq3,i64_w,i32_w];rfl
   refine last_ (i:=14) (N:=none) #[zt,zt,zt,zt,zt,zt,zt,zt,zt,zt,zt,zt,zt,zt,zt,zf] rfl rfl (by kernel_rfl) (by decide) (fun K hK=>?_);refine skip_ (w1:=?_) (by rfl) rfl ?_ ?_;rotate_left
   ·go_simp;rfl
   refine hK.out _ _ ?_;clear hK K;refine pure_ (i:=15) (N:=some 7) (v:=?_) (a':=?_) #[zt,zt,zt,zt,zt,zt,zt,zt,zt,zt,zt,zt,zt,zt,zt,zt] rfl rfl (by kernel_rfl) (fun _ _ _ h=>h) (Or.inl ⟨by rfl,?_⟩) ?_ ?_;rotate_left
   ·intro w';go_simp;with_reducible rfl
   rotate_left
   ·simp only [Act.put,zq1,zq2,zq3,i64_w,i32_w];rfl
   refine done_ (by kernel_rfl) ?_;go_wp2;refine bodyPost_ret (z2j rfl _ _ b6 63 #[.pointer (some ⟨g,0,none⟩),.pointer (some ⟨b',0,none⟩),.pointer (some ⟨w1.heap.size,0,none⟩)] _ _ rfl B6'.out rfl rfl (by kernel_rfl)) rfl ?_;exact ⟨_,_,_,by rw [HE.out];first|rfl|simp,HD.out.1,fun _=>⟨rfl,HD.out.2⟩⟩
  ·have e24:(k == 24)=false:=by simpa using h24
   have HE:Aside0 (z1p p n r ws a=((⟨⟨a,n.opn+(0),min n.low (n.opn+(0)),max n.high (n.opn+(0))⟩ :: n :: r,ws⟩:Wy),decide (max n.high (n.opn+(0)) - min n.low (n.opn+(0))≤p.f1))):=⟨by unfold z1p;rw [if_neg (by rw [HK.out];exact h23),if_neg (by rw [HK.out];exact h24)]⟩;clear h23 h24
   go_wp2_with (fail)
   refine (z33 (qz:=qw) HG.out HL.out.1 HL.out.2.1 HL.out.2.2 BN.out a 0 HOO.out.1 HOO.out.2.1 HOO.out.2.2 (by omega)).mono ?_;rintro e w5 ⟨b',rfl,hb',hB5⟩;have hc6:=z0h B6.out hB5;have HB5:=Aside0.mk (z0x HB.out HB.out.size hB5);have g0:w5.cell? ⟨b6,0,none⟩=some (.pointer none):=(z01 hc6 0).trans rfl;have g1:w5.cell? ⟨b6,1,none⟩=some (.pointer none):=(z01 hc6 1).trans rfl;have g2:w5.cell? ⟨b6,2,none⟩=some (.pointer none):=(z01 hc6 2).trans rfl;have z0:=z02 hc6 0;have z1:=z02 hc6 1;have z2:=z02 hc6 2;have HD:=Aside0.mk (ahead_done (g:=g) HB5.out HBB.out HBN0.out hb' HNL.out (HWS.out.keep (WKeep.below (z0x HB.out HB.out.size hB5))) ⟨_,hc6⟩ HE.out (.pointer (some ⟨g,0,none⟩)) (.pointer (some ⟨b',0,none⟩)) (.pointer qw));have B6':=Aside0.mk (z1d (z1d (z1d hc6 0 (.pointer (some ⟨g,0,none⟩))) 1 (.pointer (some ⟨b',0,none⟩))) 2 (.pointer qw));clear hb' hB5 hc6 y0 y1 y2 i5 hx0;go_wp2;refine bodyPost_ret (z2j rfl _ _ b6 63 #[.pointer (some ⟨g,0,none⟩),.pointer (some ⟨b',0,none⟩),.pointer qw] _ _ rfl B6'.out rfl rfl (by kernel_rfl)) rfl ?_;exact ⟨_,_,_,by rw [HE.out];first|rfl|simp,HD.out.1,fun _=>⟨rfl,HD.out.2⟩⟩
def StartPost (w:World) (g:Nat) (p:Im) (t:Int) (e:Ending) (w':World):Prop :=
 Below w.heap.size w w'∧((¬ (0≤t∧t < p.f5.length)∧e=.returned (.tuple #[.agg #[.pointer none,.pointer none,.pointer none],.bool false])) ∨
  ((0≤t∧t < p.f5.length)∧∃ q,e=.returned (.tuple #[.agg #[.pointer (some ⟨g,0,none⟩),.pointer q,.pointer none],.bool true])∧WyAt w' g ⟨[⟨t,0,0,0⟩],[]⟩ q none))
theorem s3_bel {w w1:World} {b:Nat} (hB:Below w.heap.size w w1) (hb:w.heap.size≤b) (u v x:Value):Below w.heap.size w (((w1.setCell ⟨b,0,none⟩ u).setCell ⟨b,1,none⟩ v).setCell ⟨b,2,none⟩ x) :=
 z07 (z07 (z07 hB (g:=b) (j:=0) (v:=u) hb) (g:=b) (j:=1) (v:=v) hb) (g:=b) (j:=2) (v:=x) hb
theorem start2_calls {w:World} {g B:Nat} {p:Im} (hg:Gr w g B p) (hl3:p.f3.length≤100) (hl4:p.f4.length≤40) (hl5:p.f5.length≤300) (t:Int) :
  Calls Tryz.prog 44 #[.pointer (some ⟨g,0,none⟩),.int .i64 t] w (StartPost w g p t):=by
 have HB:=Aside0.mk (z04 (Below.refl w.heap.size w) (.cells #[.pointer none,.pointer none,.pointer none] 63));have B4:=Aside0.mk (z14 w (.cells #[.pointer none,.pointer none,.pointer none] 63));have HG:=Aside0.mk (hg.below HB.out);have HL:=Aside0.mk (And.intro hl3 (And.intro hl4 hl5));have hfd:∀ (A3 A4 A5:Option Addr) (n3 n4 n5 c3 c4 c5:Nat) (w:World),(Instr.field 26 (.agg #[.int .i64 p.f0,.int .i64 p.f1,.int .i64 p.f2,.slice A3 n3 c3,.slice A4 n4 c4,.slice A5 n5 c5]) 5).run Tryz.prog w=.ok (.slice A5 n5 c5) w:=fun _ _ _ _ _ _ _ _ _ _=>by kernel_rfl
 clear hg hl3 hl4 hl5
 go_enter Tryz.func44,Tryz.ntmps44
 go_upto_region 1 with (fail)
 generalize w.alloc (.cells #[.pointer none,.pointer none,.pointer none] 63)=w1 at HB B4 HG ⊢;obtain ⟨b4,hb4⟩:∃ b4,w.heap.size=b4:=⟨_,rfl⟩;rw [hb4] at B4;simp only [hb4];have HBB:Aside0 (w.heap.size≤b4):=⟨by omega⟩;clear hb4
 by_cases h0:t < 0
 ·have e0:decide (t < 0)=true:=decide_eq_true h0;have g0:w1.cell? ⟨b4,0,none⟩=some (.pointer none):=(z01 B4.out 0).trans rfl;have g1:w1.cell? ⟨b4,1,none⟩=some (.pointer none):=(z01 B4.out 1).trans rfl;have g2:w1.cell? ⟨b4,2,none⟩=some (.pointer none):=(z01 B4.out 2).trans rfl;have z0:=z02 B4.out 0;have z1:=z02 B4.out 1;have z2:=z02 B4.out 2;have B4':=Aside0.mk (z1d (z1d (z1d B4.out 0 (.pointer none)) 1 (.pointer none)) 2 (.pointer none));have HE:=Aside0.mk h0;go_wp2;refine bodyPost_ret (z2j rfl _ _ b4 63 #[.pointer none,.pointer none,.pointer none] _ _ rfl B4'.out rfl rfl (by kernel_rfl)) rfl ?_;exact ⟨s3_bel HB.out HBB.out _ _ _,.inl ⟨by have:=HE.out;omega,rfl⟩⟩
 have e0:decide (t < 0)=false:=decide_eq_false h0
 go_wp2_with (fail)
 refine (z34 HG.out HL.out.1 HL.out.2.1 HL.out.2.2).mono ?_;rintro e w2 ⟨v3,v4,v5,rfl,hR3,hR4,hR5,hb2⟩;obtain ⟨A3,c3,rfl⟩:=Kd.R_slice hR3;obtain ⟨A4,c4,rfl⟩:=Kd.R_slice hR4;obtain ⟨A5,c5,rfl⟩:=Kd.R_slice hR5;have B42:=Aside0.mk (z0h B4.out hb2);have HB2:=Aside0.mk (z0x HB.out HB.out.size hb2);clear hR3 hR4 hR5 hb2 HG B4 HB
 by_cases h1:t ≥ (p.f5.length:Int)
 ·have e1:decide (t ≥ (p.f5.length:Int))=true:=decide_eq_true h1;have e2:decide ((p.f5.length:Int)≤t)=true:=decide_eq_true h1;have g0:w2.cell? ⟨b4,0,none⟩=some (.pointer none):=(z01 B42.out 0).trans rfl;have g1:w2.cell? ⟨b4,1,none⟩=some (.pointer none):=(z01 B42.out 1).trans rfl;have g2:w2.cell? ⟨b4,2,none⟩=some (.pointer none):=(z01 B42.out 2).trans rfl;have z0:=z02 B42.out 0;have z1:=z02 B42.out 1;have z2:=z02 B42.out 2;have B4':=Aside0.mk (z1d (z1d (z1d B42.out 0 (.pointer none)) 1 (.pointer none)) 2 (.pointer none));have HE:=Aside0.mk h1;go_wp2;refine bodyPost_ret (z2j rfl _ _ b4 63 #[.pointer none,.pointer none,.pointer none] _ _ rfl B4'.out rfl rfl (by kernel_rfl)) rfl ?_;exact ⟨s3_bel HB2.out HBB.out _ _ _,.inl ⟨by have:=HE.out;omega,rfl⟩⟩
 have e1:decide (t ≥ (p.f5.length:Int))=false:=decide_eq_false h1;have e2:decide ((p.f5.length:Int)≤t)=false:=decide_eq_false h1;have HIN:Aside0 (0≤t∧t < p.f5.length):=⟨by omega⟩;have BN:=Aside0.mk (z14 w2 (.cells #[.int .i64 t,.int .i64 0,.pointer none,.int .i64 0,.int .i64 0] 118));have B43:=Aside0.mk (z06 B42.out (.cells #[.int .i64 t,.int .i64 0,.pointer none,.int .i64 0,.int .i64 0] 118));have HB3:=Aside0.mk (z04 HB2.out (.cells #[.int .i64 t,.int .i64 0,.pointer none,.int .i64 0,.int .i64 0] 118));have hne:w2.heap.size≠b4:=Nat.ne_of_gt (z0s B42.out);have g0:(w2.alloc (.cells #[.int .i64 t,.int .i64 0,.pointer none,.int .i64 0,.int .i64 0] 118)).cell? ⟨b4,0,none⟩=some (.pointer none):=(z01 B43.out 0).trans rfl;have g1:(w2.alloc (.cells #[.int .i64 t,.int .i64 0,.pointer none,.int .i64 0,.int .i64 0] 118)).cell? ⟨b4,1,none⟩=some (.pointer none):=(z01 B43.out 1).trans rfl;have g2:(w2.alloc (.cells #[.int .i64 t,.int .i64 0,.pointer none,.int .i64 0,.int .i64 0] 118)).cell? ⟨b4,2,none⟩=some (.pointer none):=(z01 B43.out 2).trans rfl;have z0:=z02 B43.out 0;have z1:=z02 B43.out 1;have z2:=z02 B43.out 2;have B4':=Aside0.mk (z1d (z1d (z1d B43.out 0 (.pointer (some ⟨g,0,none⟩))) 1 (.pointer (some ⟨w2.heap.size,0,none⟩))) 2 (.pointer none));have BN':=Aside0.mk (s3 BN.out hne (.pointer (some ⟨g,0,none⟩)) (.pointer (some ⟨w2.heap.size,0,none⟩)) (.pointer none));have HB':=Aside0.mk (s3_bel HB3.out HBB.out (.pointer (some ⟨g,0,none⟩)) (.pointer (some ⟨w2.heap.size,0,none⟩)) (.pointer none));clear hne;go_wp2;refine bodyPost_ret (z2j rfl _ _ b4 63 #[.pointer (some ⟨g,0,none⟩),.pointer (some ⟨w2.heap.size,0,none⟩),.pointer none] _ _ rfl B4'.out rfl rfl (by kernel_rfl)) rfl ?_;exact ⟨HB'.out,.inr ⟨HIN.out,_,rfl,by simp,⟨_,none,rfl,BN'.out,rfl⟩,rfl⟩⟩
theorem eqW (d:Nat) (w:World) (q0 q1 q2:Option Addr) :
  (Op.equalIn (d+2) 63 (.agg #[.pointer q0,.pointer q1,.pointer q2]) (.agg #[.pointer none,.pointer none,.pointer none])).run Tryz.prog w=.ok (q0.isNone && (q1.isNone && q2.isNone)) w:=by
 refine eqA_of Tryz.underlying63 (by kernel_rfl) ?_;refine eqf_cons (by rfl) (by go_simp) (by go_simp) (run_equalIn_pointer_nil w _ _ q0 (by kernel_rfl)) ?_;refine eqf_cons (by rfl) (by go_simp) (by go_simp) (run_equalIn_pointer_nil w _ _ q1 (by kernel_rfl)) ?_;exact eqf_last (by rfl) (by go_simp) (by go_simp) (run_equalIn_pointer_nil w _ _ q2 (by kernel_rfl))
attribute [local go_sem high] eqW
theorem whole_calls {w:World} {g B:Nat} {p:Im} {qw:Option Addr} {bn:Nat} {n:Nd} {q':Option Addr} {ws:List Int} (hg:Gr w g B p) (hl3:p.f3.length≤100) (hl4:p.f4.length≤40) (hl5:p.f5.length≤300) (hf0:funP p.f4 p.f5.length 0=0)
  (hb:w.heap[bn]?=some (.cells #[.int .i64 n.at_,.int .i64 n.opn,.pointer q',.int .i64 n.low,.int .i64 n.high] 118 (0,0))) (hws:WaitL w qw ws) :
  Calls Tryz.prog 49 #[.agg #[.pointer (some ⟨g,0,none⟩),.pointer (some ⟨bn,0,none⟩),.pointer qw]] w fun e w'=>e=.returned (.bool (n.at_ == 0 && ws.isEmpty && n.low == n.opn))∧Below w.heap.size w w':=by
 have HB:=Aside0.mk (z04 (Below.refl w.heap.size w) (.cells #[.pointer (some ⟨g,0,none⟩),.pointer (some ⟨bn,0,none⟩),.pointer qw] 63));have BB:=Aside0.mk (z14 w (.cells #[.pointer (some ⟨g,0,none⟩),.pointer (some ⟨bn,0,none⟩),.pointer qw] 63));have BN:=Aside0.mk (z0h hb HB.out);have HG:=Aside0.mk (hg.below HB.out);have HL:=Aside0.mk (And.intro hl3 (And.intro hl4 hl5));have HF0:=Aside0.mk hf0;clear hg hb hl3 hl4 hl5 hf0
 go_enter Tryz.func49,Tryz.ntmps49
 go_upto_region 1 with (fail)
 generalize w.alloc (.cells #[.pointer (some ⟨g,0,none⟩),.pointer (some ⟨bn,0,none⟩),.pointer qw] 63)=w1 at HB BB BN HG ⊢;obtain ⟨bb,hbb⟩:∃ bb,w.heap.size=bb:=⟨_,rfl⟩;rw [hbb] at BB;simp only [hbb];clear hbb;have y0:w1.cell? ⟨bb,0,none⟩=some (.pointer (some ⟨g,0,none⟩)):=(z01 BB.out 0).trans rfl;have y1:w1.cell? ⟨bb,1,none⟩=some (.pointer (some ⟨bn,0,none⟩)):=(z01 BB.out 1).trans rfl;have y2:w1.cell? ⟨bb,2,none⟩=some (.pointer qw):=(z01 BB.out 2).trans rfl;have n0:w1.cell? ⟨bn,0,none⟩=some (.int .i64 n.at_):=(z01 BN.out 0).trans rfl
 by_cases h0:n.at_=0
 rotate_left
 ·have e0:(n.at_ != 0)=true:=by simpa using h0
  have HE:Aside0 ((n.at_ == 0)=false):=⟨by simpa using h0⟩;clear h0;go_wp2;go_ret
  exact ⟨by rw [HE.out];rfl,HB.out⟩
 have e0:(n.at_ != 0)=false:=by simpa using h0
 have HE:Aside0 ((n.at_ == 0)=true):=⟨by simpa using h0⟩;clear h0;cases ws with
 | cons x vs =>
  obtain ⟨bx,qx,rfl,hbx,hwx⟩:=id hws;clear hws hbx hwx;go_wp2;go_ret
  exact ⟨by rw [HE.out];rfl,HB.out⟩
 | nil =>
  have hq:qw=none:=hws;subst hq;clear hws
  go_upto_region 3 with (fail)
  clear y0 y1 y2 n0;refine z27 (n:=19) (S:=fun w'=>w'.cell? ⟨bb,0,none⟩=some (.pointer (some ⟨g,0,none⟩))∧w'.cell? ⟨bb,1,none⟩=some (.pointer (some ⟨bn,0,none⟩))∧w'.cell? ⟨bn,3,none⟩=some (.int .i64 n.low)∧w'.cell? ⟨bn,1,none⟩=some (.int .i64 n.opn)) (ds:=[]) #[zf,zf,zf,zf,zf,zf,zf,zf,zf,zf,zf,zf,zf,zf,zf,zf,zf,zf,zf] (by kernel_rfl) rfl rfl ⟨(z01 BB.out 0).trans rfl,(z01 BB.out 1).trans rfl,(z01 BN.out 3).trans rfl,(z01 BN.out 1).trans rfl⟩ (fun hHeld=>?_);refine pure_ (i:=0) (N:=some 19) (v:=?_) (a':=?_) #[zt,zf,zf,zf,zf,zf,zf,zf,zf,zf,zf,zf,zf,zf,zf,zf,zf,zf,zf] rfl rfl (by kernel_rfl) (fun _ _ _ h=>h) (Or.inl ⟨by rfl,?_⟩) ?_ ?_;rotate_left
  ·intro w';go_simp;with_reducible rfl
  rotate_left
  ·simp only [Act.put,zq1,zq2,zq3,i64_w,i32_w];rfl
  refine take_ (i:=1) (N:=some 20) (v:=?_) (a':=?_) #[zt,zt,zf,zf,zf,zf,zf,zf,zf,zf,zf,zf,zf,zf,zf,zf,zf,zf,zf] rfl rfl (by kernel_rfl) (fun _ _ _ h=>h) (Or.inl ⟨by rfl,?_⟩) hHeld ?_ ?_;rotate_left
  ·rintro w' ⟨s0,s1,s2,s3⟩;go_simp;with_reducible rfl
  rotate_left
  ·simp only [Act.put,zq1,zq2,zq3,i64_w,i32_w];rfl
  refine one_ (i:=2) (N:=some 21) #[zt,zt,zt,zf,zf,zf,zf,zf,zf,zf,zf,zf,zf,zf,zf,zf,zf,zf,zf] rfl rfl (by kernel_rfl) (by decide) (fun K hK=>?_);refine goes_ Tryz.func18 (by kernel_rfl) rfl #[.pointer (some ⟨g,0,none⟩)] (by rfl) rfl rfl (by simp only [List.map_toArray,List.map_cons,List.map_nil];rfl) ?_;refine (z34 (HG.out.below (z12 (Below.refl w1.heap.size w1))) HL.out.1 HL.out.2.1 HL.out.2.2).mono ?_;rintro e w4 ⟨v3,v4,v5,rfl,hR3,hR4,hR5,hb4⟩;obtain ⟨A3,c3,rfl⟩:=Kd.R_slice hR3;obtain ⟨A4,c4,rfl⟩:=Kd.R_slice hR4;obtain ⟨A5,c5,rfl⟩:=Kd.R_slice hR5;refine ⟨_,rfl,?_⟩;have HR3:=Aside0.mk hR3;have HR4:=Aside0.mk hR4;have HR5:=Aside0.mk hR5;have BB4:=Aside0.mk (z0h (z09 BB.out) hb4);have BN4:=Aside0.mk (z0h (z09 BN.out) hb4);have HB4:=Aside0.mk (z0x (z12 HB.out) (z12 HB.out).size hb4);clear hR3 hR4 hR5 hb4;refine hK.out _ _ ⟨(z01 BB4.out 0).trans rfl,(z01 BB4.out 1).trans rfl,(z01 BN4.out 3).trans rfl,(z01 BN4.out 1).trans rfl⟩ (fun hHeld=>?_);clear hK K;refine norm_ (a':=?_) ?_ ?_;rotate_left
  ·show Act.put _ (some 21) _=_;simp only [Act.put,zq1,zq2,zq3,i64_w,i32_w];rfl
  refine one_ (i:=3) (N:=some 22) #[zt,zt,zt,zt,zf,zf,zf,zf,zf,zf,zf,zf,zf,zf,zf,zf,zf,zf,zf] rfl rfl (by kernel_rfl) (by decide) (fun K hK=>?_);refine goes_ Tryz.func77 (by kernel_rfl) rfl #[.agg #[.int .i64 p.f0,.int .i64 p.f1,.int .i64 p.f2,.slice A3 p.f3.length c3,.slice A4 p.f4.length c4,.slice A5 p.f5.length c5],.int .i64 0] (by rfl) rfl rfl (by simp only [List.map_toArray,List.map_cons,List.map_nil];rfl) ?_;refine (z16.calls (p.f4.length+2) p.f0 p.f1 p.f2 A3 c3 p.f3 A4 c4 p.f4 A5 c5 p.f5 0 0 w4 (Kd.R_reads' HR3.out).2.2 (Kd.R_reads' HR3.out).2.1 (Kd.R_reads' HR4.out).2.2 (Kd.R_reads' HR4.out).2.1 (Kd.R_reads' HR5.out).2.2 (Kd.R_reads' HR5.out).2.1 ((imageFun_f p.f0 p.f1 p.f2 p.f3 p.f4 p.f5 0 (by have:=HL.out;omega) (k:=p.f4.length+2) (by omega)).trans (congrArg some HF0.out))).mono ?_;rintro e w5 ⟨rfl,hb5⟩;refine ⟨_,rfl,?_⟩;have BB5:=Aside0.mk (z0h BB4.out hb5);have BN5:=Aside0.mk (z0h BN4.out hb5);have HB5:=Aside0.mk (z0x HB4.out HB4.out.size hb5);clear hb5;refine hK.out _ _ ⟨(z01 BB5.out 0).trans rfl,(z01 BB5.out 1).trans rfl,(z01 BN5.out 3).trans rfl,(z01 BN5.out 1).trans rfl⟩ (fun hHeld=>?_);clear hK K;refine norm_ (a':=?_) ?_ ?_;rotate_left
  ·show Act.put _ (some 22) _=_;simp only [Act.put,zq1,zq2,zq3,i64_w,i32_w];rfl
  refine pure_ (i:=4) (N:=some 23) (v:=?_) (a':=?_) #[zt,zt,zt,zt,zt,zf,zf,zf,zf,zf,zf,zf,zf,zf,zf,zf,zf,zf,zf] rfl rfl (by kernel_rfl) (fun _ _ _ h=>h) (Or.inl ⟨by rfl,?_⟩) ?_ ?_;rotate_left
  ·intro w';go_simp;with_reducible rfl
  rotate_left
  ·simp only [Act.put,zq1,zq2,zq3,i64_w,i32_w];rfl
  refine pure_ (i:=5) (N:=some 24) (v:=?_) (a':=?_) #[zt,zt,zt,zt,zt,zt,zf,zf,zf,zf,zf,zf,zf,zf,zf,zf,zf,zf,zf] rfl rfl (by kernel_rfl) (fun _ _ _ h=>h) (Or.inl ⟨by rfl,?_⟩) ?_ ?_;rotate_left
  ·intro w';go_simp;with_reducible rfl
  rotate_left
  ·simp only [Act.put,zq1,zq2,zq3,i64_w,i32_w];rfl
  refine pure_ (i:=6) (N:=some 25) (v:=?_) (a':=?_) #[zt,zt,zt,zt,zt,zt,zt,zf,zf,zf,zf,zf,zf,zf,zf,zf,zf,zf,zf] rfl rfl (by kernel_rfl) (fun _ _ _ h=>h) (Or.inl ⟨by rfl,?_⟩) ?_ ?_;rotate_left
  ·intro w';go_simp;with_reducible rfl
  rotate_left
  ·simp only [Act.put,zq1,zq2,zq3,i64_w,i32_w];rfl
  refine pure_ (i:=11) (N:=some 30) (v:=?_) (a':=?_) #[zt,zt,zt,zt,zt,zt,zt,zf,zf,zf,zf,zt,zf,zf,zf,zf,zf,zf,zf] rfl rfl (by kernel_rfl) (fun _ _ _ h=>h) (Or.inl ⟨by rfl,?_⟩) ?_ ?_;rotate_left
  ·intro w';go_simp;with_reducible rfl
  rotate_left
  ·simp only [Act.put,zq1,zq2,zq3,i64_w,i32_w];rfl
  refine take_ (i:=7) (N:=some 26) (v:=?_) (a':=?_) #[zt,zt,zt,zt,zt,zt,zt,zt,zf,zf,zf,zt,zf,zf,zf,zf,zf,zf,zf] rfl rfl (by kernel_rfl) (fun _ _ _ h=>h) (Or.inl ⟨by rfl,?_⟩) hHeld ?_ ?_;rotate_left
  ·rintro w' ⟨s0,s1,s2,s3⟩;go_simp;with_reducible rfl
  rotate_left
  ·simp only [Act.put,zq1,zq2,zq3,i64_w,i32_w];rfl
  refine pure_ (i:=8) (N:=some 27) (v:=?_) (a':=?_) #[zt,zt,zt,zt,zt,zt,zt,zt,zt,zf,zf,zt,zf,zf,zf,zf,zf,zf,zf] rfl rfl (by kernel_rfl) (fun _ _ _ h=>h) (Or.inl ⟨by rfl,?_⟩) ?_ ?_;rotate_left
  ·intro w';go_simp;with_reducible rfl
  rotate_left
  ·simp only [Act.put,zq1,zq2,zq3,i64_w,i32_w];rfl
  refine pure_ (i:=9) (N:=some 28) (v:=?_) (a':=?_) #[zt,zt,zt,zt,zt,zt,zt,zt,zt,zt,zf,zt,zf,zf,zf,zf,zf,zf,zf] rfl rfl (by kernel_rfl) (fun _ _ _ h=>h) (Or.inl ⟨by rfl,?_⟩) ?_ ?_;rotate_left
  ·intro w';go_simp;with_reducible rfl
  rotate_left
  ·simp only [Act.put,zq1,zq2,zq3,i64_w,i32_w];rfl
  refine take_ (i:=10) (N:=some 29) (v:=?_) (a':=?_) #[zt,zt,zt,zt,zt,zt,zt,zt,zt,zt,zt,zt,zf,zf,zf,zf,zf,zf,zf] rfl rfl (by kernel_rfl) (fun _ _ _ h=>h) (Or.inl ⟨by rfl,?_⟩) hHeld ?_ ?_;rotate_left
  ·rintro w' ⟨s0,s1,s2,s3⟩;go_simp;with_reducible rfl
  rotate_left
  ·simp only [Act.put,zq1,zq2,zq3,i64_w,i32_w];rfl
  refine take_ (i:=12) (N:=some 31) (v:=?_) (a':=?_) #[zt,zt,zt,zt,zt,zt,zt,zt,zt,zt,zt,zt,zt,zf,zf,zf,zf,zf,zf] rfl rfl (by kernel_rfl) (fun _ _ _ h=>h) (Or.inl ⟨by rfl,?_⟩) hHeld ?_ ?_;rotate_left
  ·rintro w' ⟨s0,s1,s2,s3⟩;go_simp;with_reducible rfl
  rotate_left
  ·simp only [Act.put,zq1,zq2,zq3,i64_w,i32_w];rfl
  refine pure_ (i:=13) (N:=some 32) (v:=?_) (a':=?_) #[zt,zt,zt,zt,zt,zt,zt,zt,zt,zt,zt,zt,zt,zt,zf,zf,zf,zf,zf] rfl rfl (by kernel_rfl) (fun _ _ _ h=>h) (Or.inl ⟨by rfl,?_⟩) ?_ ?_;rotate_left
  ·intro w';go_simp;with_reducible rfl
  rotate_left
  ·simp only [Act.put,zq1,zq2,zq3,i64_w,i32_w];rfl
  refine pure_ (i:=14) (N:=some 33) (v:=?_) (a':=?_) #[zt,zt,zt,zt,zt,zt,zt,zt,zt,zt,zt,zt,zt,zt,zt,zf,zf,zf,zf] rfl rfl (by kernel_rfl) (fun _ _ _ h=>h) (Or.inl ⟨by rfl,?_⟩) ?_ ?_;rotate_left
  ·intro w';go_simp;with_reducible rfl
  rotate_left
  ·simp only [Act.put,zq1,zq2,zq3,i64_w,i32_w];rfl
  refine take_ (i:=15) (N:=some 34) (v:=?_) (a':=?_) #[zt,zt,zt,zt,zt,zt,zt,zt,zt,zt,zt,zt,zt,zt,zt,zt,zf,zf,zf] rfl rfl (by kernel_rfl) (fun _ _ _ h=>h) (Or.inl ⟨by rfl,?_⟩) hHeld ?_ ?_;rotate_left
  ·rintro w' ⟨s0,s1,s2,s3⟩;go_simp;with_reducible rfl
  rotate_left
  ·simp only [Act.put,zq1,zq2,zq3,i64_w,i32_w];rfl
  refine pure_ (i:=16) (N:=some 35) (v:=?_) (a':=?_) #[zt,zt,zt,zt,zt,zt,zt,zt,zt,zt,zt,zt,zt,zt,zt,zt,zt,zf,zf] rfl rfl (by kernel_rfl) (fun _ _ _ h=>h) (Or.inl ⟨by rfl,?_⟩) ?_ ?_;rotate_left
  ·intro w';go_simp;with_reducible rfl
  rotate_left
  ·simp only [Act.put,zq1,zq2,zq3,i64_w,i32_w];rfl
  refine pure_ (i:=17) (N:=some 36) (v:=?_) (a':=?_) #[zt,zt,zt,zt,zt,zt,zt,zt,zt,zt,zt,zt,zt,zt,zt,zt,zt,zt,zf] rfl rfl (by kernel_rfl) (fun _ _ _ h=>h) (Or.inl ⟨by rfl,?_⟩) ?_ ?_;rotate_left
  ·intro w';go_simp;with_reducible rfl
  rotate_left
  ·simp only [Act.put,zq1,zq2,zq3,i64_w,i32_w];rfl
  refine pure_ (i:=18) (N:=some 2) (v:=?_) (a':=?_) #[zt,zt,zt,zt,zt,zt,zt,zt,zt,zt,zt,zt,zt,zt,zt,zt,zt,zt,zt] rfl rfl (by kernel_rfl) (fun _ _ _ h=>h) (Or.inl ⟨by rfl,?_⟩) ?_ ?_;rotate_left
  ·intro w';go_simp;with_reducible rfl
  rotate_left
  ·simp only [Act.put,zq1,zq2,zq3,i64_w,i32_w];rfl
  refine done_ (by kernel_rfl) ?_;go_wp2;go_ret
  exact ⟨by rw [HE.out];simp,HB5.out⟩
end Go.Proofs.YtcbnhfnnjkkceaaGreat.X
end
section
namespace Go.Proofs.YtcbnhfnnjkkceaaGreat.X
open Go.RowKit Go.Proofs.YtcbnhfnnjkkceaaGreatW.PrintWords Go.Proofs.YtcbnhfnnjkkceaaGreat.Gr
def NoWay (A:World) (i:Nat):Prop:=∀ c t,A.heap[i]?=some (.cells c t (0,0))→t≠118∧t≠122
def StG (g N:Nat) (A B:World):Prop:=Fr A B (fun i=>i=g∨N≤i∧∃ es c,A.heap[i]?=some (.map es c))
def LpK (N:Nat) (A B:World):Prop:=Fr A B (fun i=>N≤i∧((∃ r,A.heap[i]?=some (.loop r))∨∃ c,A.heap[i]?=some (.deferred c)))
theorem LpK.put {N:Nat} {A:World} {l:Nat} {r:Loop} (hN:N≤l) (h:A.heap[l]?=some (.loop r)) (o:Obj):LpK N A (A.putObj l o):=by
 have hg:=grownBy_putObj' A l o;exact ⟨hg.os,hg.tape,hg.output,hg.size,fun i hi hn=>hg.block i hi fun e=>hn (by cases e;exact ⟨hN,.inl ⟨r,h⟩⟩)⟩
theorem LpK.putD {N:Nat} {A:World} {l:Nat} {r:Option (List Deferred)} (hN:N≤l) (h:A.heap[l]?=some (.deferred r)) (o:Obj):LpK N A (A.putObj l o):=by
 have hg:=grownBy_putObj' A l o;exact ⟨hg.os,hg.tape,hg.output,hg.size,fun i hi hn=>hg.block i hi fun e=>hn (by cases e;exact ⟨hN,.inr ⟨r,h⟩⟩)⟩
theorem LpK.keep {N:Nat} {A B:World} (h:LpK N A B) {l:Nat} {o:Obj} (hl:A.heap[l]?=some o) (h1:∀ r,o≠.loop r) (h2:∀ c,o≠.deferred c):B.heap[l]?=some o:=by
 refine (h.block l (z0s hl) fun hh=>?_).trans hl
 rcases hh with ⟨_,⟨c,hc⟩|⟨c,hc⟩⟩
 ·rw [hl] at hc;exact h1 c (Option.some.inj hc)
 ·rw [hl] at hc;exact h2 c (Option.some.inj hc)
theorem LpK.wk {N:Nat} {A B:World} (h:LpK N A B):WKeep A B:=fun b c t hb _=>h.keep hb (fun r e=>by cases e) (fun r e=>by cases e)
theorem LpK.old {N:Nat} {A B:World} (h:LpK N A B) {S:Nat→Prop} {w:World} (hf:Fr w A S) (hN:w.heap.size≤N):Fr w B S :=
 ⟨h.os.trans hf.os,h.tape.trans hf.tape,h.output.trans hf.output,Nat.le_trans hf.size h.size,fun i hi hn=>(h.block i (Nat.lt_of_lt_of_le hi hf.size) fun hh=>by omega).trans (hf.block i hi hn)⟩
theorem StG.below {g N:Nat} {A B:World} (h:Below A.heap.size A B):StG g N A B:=⟨h.os,h.tape,h.output,h.size,fun i hi _=>h.block i hi⟩
theorem StG.keep {g N:Nat} {A B:World} (h:StG g N A B) {l:Nat} {o:Obj} (hl:A.heap[l]?=some o) (h1:l≠g) (h2:∀ es c,o≠.map es c):B.heap[l]?=some o:=by
 refine (h.block l (z0s hl) fun hh=>?_).trans hl
 rcases hh with hc|⟨_,es,c,hc⟩
 ·exact h1 hc
 ·rw [hl] at hc;exact h2 es c (Option.some.inj hc)
theorem StG.old {g N:Nat} {A B:World} (h:StG g N A B) {w:World} (hf:Fr w A (fun i=>i=g)) (hN:w.heap.size≤N):Fr w B (fun i=>i=g) :=
 ⟨h.os.trans hf.os,h.tape.trans hf.tape,h.output.trans hf.output,Nat.le_trans hf.size h.size,fun i hi hn=>(h.block i (Nat.lt_of_lt_of_le hi hf.size) fun hh=>hh.elim hn fun hh=>by omega).trans (hf.block i hi hn)⟩
theorem StG.wk {g N:Nat} {A B:World} (h:StG g N A B) (hg:∃ c,A.heap[g]?=some (.cells c 97 (0,0))):WKeep A B:=fun b c t hb ht=>h.keep hb (fun e=>by
 obtain ⟨c',hc⟩:=hg;rw [e,hc] at hb;cases hb;exact ht.elim (by decide) (by decide)) (fun es c e=>by cases e)
def SeqO {α:Type} (m:Nat) (P:Program) (gf:Nat) (lb:Array Value) (encs:α→Array Value) (R:List α→Prop) (Fx:α→World→Prop) (T:List α→α→Prop) (S Sp:List α→World→Prop) (g N:Nat) (X:Nat→Prop) (Q0:World→Prop):Prop :=
 ∀ (l:Nat) (J Jx:List α→(Nat→Prop)→World→Prop) (O0:Nat→Prop) (W:World),Q0 W→N≤W.heap.size→(∀ i,O0 i→X i∨N≤i) →
  (∀ s O A B,J s O A→StG g N A B→J s O B)→(∀ s O A B,Jx s O A→StG g N A B→Jx s O B) →
  (∀ s O A,J s O A→R s∧∀ i,O i→i < A.heap.size∧NoWay A i) →
  (∀ pre x O W1,J pre O W1→Fx x W1→T pre x→YieldAt Fence.wide m P l (encs x) W1 fun e W'=>∃ O',Fr W1 W' O∧(∀ i,O' i→O i∨W1.heap.size≤i) ∧
   ((e=.returned (.bool true)∧J (pre ++ [x]) O' W')∨(e=.returned (.bool false)∧Jx (pre ++ [x]) O' W'))) →
  J [] O0 W→CallsIn Fence.wide m P gf (#[.func (.yield l) #[] #[]] ++ lb) W fun e W'=>(∃ v,e=.returned v)∧((∃ xs O,S xs W'∧J xs O W')∨(∃ pre O,Sp pre W'∧Jx pre O W'))
def bodyO {α:Type} (I:List α→(Nat→Prop)→World→Prop) (Ix:Code→List α→(Nat→Prop)→World→Prop) (xs:List α) (O:Nat→Prop) (W:World):Exit→Act→World→Prop
 | .normal,_,W'=>∃ O',Fr W W' O∧(∀ i,O' i→O i∨W.heap.size≤i)∧I xs O' W'
 | .ret,_,W'=>∃ O',Fr W W' O∧(∀ i,O' i→O i∨W.heap.size≤i)∧Ix .ret xs O' W'
 | .exit id,_,W'=>∃ O',Fr W W' O∧(∀ i,O' i→O i∨W.heap.size≤i)∧Ix (.exit id) xs O' W'
 | .goto t,_,W'=>∃ O',Fr W W' O∧(∀ i,O' i→O i∨W.heap.size≤i)∧Ix (.goto t) xs O' W'
 | .panic _,_,_=>False
 | .outgrown,_,_=>False
def withL {α:Type} (I:List α→(Nat→Prop)→World→Prop) (D L:Nat) (rec:LoopState→Option Code→Loop) (st:LoopState) (pe:Option Code) (s:List α) (O:Nat→Prop) (A:World):Prop :=
 ∃ O1,(∀ i,O i↔O1 i∨i=L)∧¬ O1 L∧¬ O1 D∧I s O1 A∧A.heap[L]?=some (.loop (rec st pe))∧A.heap[D]?=some (.deferred (some []))
set_option maxHeartbeats 4000000 in
theorem rangeO {α:Type} {m:Nat} {P:Program} {g:Operand} {ps:Array Tmp} {assign body:Code} {Q:Exit→Act→World→Prop} {a:Act} {w:World} {gf:Nat} {lb:Array Value}
  (hg:a.eval g=.func (.func gf) #[] lb) (eg:∀ args w,(callFunc gf args).run P w=.ok (.enter gf args) w)
  {encs:α→Array Value} {R:List α→Prop} {Fx:α→World→Prop} {T:List α→α→Prop} {S Sp:List α→World→Prop} {g0:Nat} {X:Nat→Prop} {Q0:World→Prop} (hseq:SeqO m P gf lb encs R Fx T S Sp g0 w.heap.size X Q0) (hps:∀ x,(encs x).size=ps.size)
  (hg0:g0 < w.heap.size) (hQ0:∀ W1,Below w.heap.size w W1→Q0 W1) (hFxB:∀ x A B,Fx x A→Below A.heap.size A B→Fx x B) (hFxL:∀ x A B,Fx x A→LpK w.heap.size A B→Fx x B)
  (I:List α→(Nat→Prop)→World→Prop) (Ix:Code→List α→(Nat→Prop)→World→Prop) (hI:∀ s O A B,I s O A→StG g0 w.heap.size A B→I s O B) (hIL:∀ s O A B,I s O A→LpK w.heap.size A B→I s O B)
  (hIx:∀ c s O A B,Ix c s O A→StG g0 w.heap.size A B→Ix c s O B) (hIxL:∀ c s O A B,Ix c s O A→LpK w.heap.size A B→Ix c s O B)
  (hIR:∀ s O A,I s O A→R s∧∀ i,O i→i < A.heap.size∧NoWay A i) (h0:I [] X w)
  (hround:∀ (l:Nat) (pre:List α) (x:α) (O:Nat→Prop) (W:World),w.heap.size≤W.heap.size→I pre O W→Fx x W→T pre x →
   assign.wpIn (Fence.wide.inRound l) m P (Exit.then (fun a' W'=>Below W.heap.size W W'∧∀ W2,LpK w.heap.size W' W2→I pre O W2→Fx x W2→body.wpIn (Fence.wide.inRound l) m P (bodyO I Ix (pre ++ [x]) O W2) a' W2) (fun _ _ _=>False))
    { tmps:=(ps.zip (encs x)).foldl (fun t (p,v)=>t.setIfInBounds p v) a.tmps,defers:=[] } W)
  (hdone:∀ (xs:List α) (O:Nat→Prop) (W W':World),S xs W→LpK w.heap.size W W'→I xs O W'→W'.heap[w.heap.size]?=some (.deferred (some []))→Q .normal { a with defers:={ target:=.collected w.heap.size,args:=#[] } :: a.defers } W')
  (hstop:∀ (c:Code) (pre:List α) (O:Nat→Prop) (W W':World),Sp pre W→LpK w.heap.size W W'→Ix c pre O W'→W'.heap[w.heap.size]?=some (.deferred (some []))→c.wpIn Fence.wide (m+1) P Q { a with defers:={ target:=.collected w.heap.size,args:=#[] } :: a.defers } W') :
  (Code.rangeFunc g ps assign body).wpIn Fence.wide (m+1) P Q a w:=by
 refine wpIn_rangeFunc ?_;intro fn hfn;obtain ⟨rec,hrec⟩:∃ rec:LoopState→Option Code→Loop,rec=fun st pe=>{ state:=st,pending:=pe,fn,tmps:=a.tmps,params:=ps,assign,body,defers:=w.heap.size }:=⟨_,rfl⟩
 obtain ⟨D,hD⟩:∃ D,w.heap.size=D:=⟨_,rfl⟩;obtain ⟨L,hL⟩:∃ L,w.heap.size+1=L:=⟨_,rfl⟩;have hent:=run_enterLoop_outer (P:=P) (w:=w) fn a.tmps ps assign body;have hbel:Below w.heap.size w ((w.alloc (.deferred (some []))).alloc (.loop (rec .ready none))):=z04 (z04 (Below.refl _ _) _) _;have hLb:((w.alloc (.deferred (some []))).alloc (.loop (rec .ready none))).heap[L]?=some (.loop (rec .ready none)):=by
  have:=z14 (w.alloc (.deferred (some []))) (.loop (rec .ready none))
  rwa [show (w.alloc (.deferred (some []))).heap.size=L by rw [← hL];show (w.heap.push _).size=_;simp] at this
 have hDb:((w.alloc (.deferred (some []))).alloc (.loop (rec .ready none))).heap[D]?=some (.deferred (some [])):=by
  rw [← hD];exact z06 (z14 w _) _
 have hreq:(w.alloc (.deferred (some []))).alloc (.loop { state:=.ready,pending:=none,fn,tmps:=a.tmps,params:=ps,assign,body,defers:=w.heap.size })=(w.alloc (.deferred (some []))).alloc (.loop (rec .ready none)):=by rw [hrec]
 rw [hreq,hL] at hent;generalize (w.alloc (.deferred (some []))).alloc (.loop (rec .ready none))=W1 at hent hbel hLb hDb;have hDL:D≠L:=by omega
 have hXlt:=fun i hi=>((hIR _ _ _ h0).2 i hi).1
 refine ⟨L,[{ target:=.collected w.heap.size,args:=#[] }],W1,{ target:=.fn (.func gf) lb,args:=#[.func (.yield L) #[] #[]] },W1,gf,#[.func (.yield L) #[] #[]] ++ lb,W1,hent,?_,fun _ _=>trivial,?_,(fun h=>by cases h),?_⟩
 ·simp only [resolve,hg];simp [go_sem]
 ·simp [invoke,go_sem,eg]
 ·have hfinal:∀ (W2:World) (st:LoopState) (pe:Option Code),st≠.busy→W2.heap[L]?=some (.loop (rec st pe))→W2.heap[D]?=some (.deferred (some [])) →
    ∃ W3,(Instr.endLoop L).run P W2=.ok pe W3∧LpK w.heap.size W2 W3∧W3.heap[D]?=some (.deferred (some [])):=fun W2 st pe hst hl hd=>by
   have h1:=run_endLoop (P:=P) hl (by rw [hrec];exact hst);rw [hrec] at h1;exact ⟨_,h1,LpK.put (by omega) hl _,(World.putObj_heap_other hDL).trans hd⟩
  refine (hseq L (withL I D L rec .ready none) (fun pre O W=>∃ c,withL (Ix c) D L rec .done (some c) pre O W) (fun i=>X i∨i=L) W1 (hQ0 W1 hbel) hbel.size (fun i hi=>hi.imp id fun e=>by omega)
   (fun s O A B hs hst=>by
    obtain ⟨O1,h1,h2,h3,h4,h5,h6⟩:=hs;exact ⟨O1,h1,h2,h3,hI s O1 A B h4 hst,hst.keep h5 (by omega) (fun es c e=>by cases e),hst.keep h6 (by omega) (fun es c e=>by cases e)⟩)
   (fun s O A B hs hst=>by
    obtain ⟨c,O1,h1,h2,h3,h4,h5,h6⟩:=hs;exact ⟨c,O1,h1,h2,h3,hIx c s O1 A B h4 hst,hst.keep h5 (by omega) (fun es c e=>by cases e),hst.keep h6 (by omega) (fun es c e=>by cases e)⟩)
   (fun s O A hs=>by
    obtain ⟨O1,h1,h2,h3,h4,h5,h6⟩:=hs;obtain ⟨hr,ho⟩:=hIR _ _ _ h4;refine ⟨hr,fun i hi=>?_⟩
    rcases (h1 i).1 hi with h7|h7
    ·exact ho i h7
    ·subst h7;exact ⟨z0s h5,fun c t hc=>by rw [h5] at hc;cases hc⟩)
   ?_ ⟨X,fun i=>Iff.rfl,fun h=>by have:=hXlt _ h;omega,fun h=>by have:=hXlt _ h;omega,hI [] X w W1 h0 (StG.below hbel),hLb,hDb⟩).mono ?_
  ·rintro pre x O W ⟨O1,hO,hOL,hOD,hi,hl,hd⟩ hx hT;have hwW:w.heap.size≤W.heap.size:=by have:=z0s hd;omega
   have hy:=run_yield (P:=P) (args:=encs x) hl (by rw [hrec];exact hps x);rw [hrec] at hy;refine ⟨fn,_,assign,body,hy,roundIn_of_wpIn hfn (wpIn_mono (hround L pre x O1 W hwW hi hx hT) ?_)⟩;intro e a' Wa hE;cases e with
   | normal =>
    obtain ⟨hB,hbd⟩:=hE;have hla:=z0h hl hB;have hda:=z0h hd hB;have hbg:=run_beginRound (P:=P) hla (by rw [hrec]);obtain ⟨W2,hW2⟩:∃ W2,Wa.putObj L (.loop { rec .ready none with state:=.busy })=W2:=⟨_,rfl⟩;have hl2:W2.heap[L]?=some (.loop { rec .ready none with state:=.busy }):=(by rw [← hW2];exact World.putObj_heap_same (z0s hla));have hd2:W2.heap[D]?=some (.deferred (some [])):=(by rw [← hW2];exact (World.putObj_heap_other hDL).trans hda);have hst2:LpK w.heap.size Wa W2:=(by rw [← hW2];exact LpK.put (by omega) hla _);have hf2:Fr W W2 O:=by
     rw [← hW2];refine Fr.trans (Fr.mono (Fr.of_below hB) fun i h1 h2=>by omega) ?_;have hg:=grownBy_putObj' Wa L (.loop { rec .ready none with state:=.busy });exact ⟨hg.os,hg.tape,hg.output,hg.size,fun i hi hn=>hg.block i hi fun e=>hn ((hO i).2 (.inr (by cases e;rfl)))⟩
    rw [hW2] at hbg;refine ⟨W2,hbg,?_⟩;have hWW2:W.heap.size≤W2.heap.size:=hf2.size;refine wpIn_mono (hbd W2 hst2 (hIL _ _ _ _ (hI _ _ _ _ hi (StG.below hB)) hst2) (hFxL _ _ _ (hFxB _ _ _ hx hB) hst2)) ?_;have fin:∀ (jump:Option Code) (W3:World) (O':Nat→Prop),Fr W2 W3 O1→(∀ i,O' i→O1 i∨W2.heap.size≤i)→∃ W4,(Instr.endRound L jump).run P W3=.ok (.bool jump.isNone) W4∧W4.heap[L]?=some (.loop (rec (if jump.isNone then .ready else .done) jump))∧W4.heap[D]?=some (.deferred (some []))∧LpK w.heap.size W3 W4∧Fr W W4 O∧¬ O' L∧¬ O' D∧(∀ i,(O' i∨i=L)→O i∨W.heap.size≤i):=fun jump W3 O' hf3 hO'=>by
     have hl3:=(hf3.block L (z0s hl2) hOL).trans hl2;have hd3:=(hf3.block D (z0s hd2) hOD).trans hd2;have h1:=run_endRound (P:=P) jump hl3;refine ⟨_,h1,?_,(World.putObj_heap_other hDL).trans hd3,LpK.put (by omega) hl3 _,?_,fun h=>(hO' _ h).elim hOL fun h=>by have:=z0s hl2;omega,fun h=>(hO' _ h).elim hOD fun h=>by have:=z0s hd2;omega,fun i h=>?_⟩
     ·rw [World.putObj_heap_same (z0s hl3),hrec]
     ·refine hf2.trans (Fr.trans (Fr.mono hf3 fun i _ h=>(hO i).2 (.inl h)) ?_);have hg:=grownBy_putObj' W3 L (.loop { { rec .ready none with state:=.busy } with state:=if jump.isNone then .ready else .done,pending:=jump });exact ⟨hg.os,hg.tape,hg.output,hg.size,fun i hi hn=>hg.block i hi fun e=>hn ((hO i).2 (.inr (by cases e;rfl)))⟩
     ·rcases h with h|h
      ·exact (hO' i h).elim (fun h=>.inl ((hO i).2 (.inl h))) fun h=>.inr (by omega)
      ·exact .inl ((hO i).2 (.inr h))
    rintro e a3 W3 hp;cases e with
    | normal =>
     obtain ⟨O',hf3,hO',hi3⟩:=hp;obtain ⟨W4,h1,h2,h3,h4,h5,h6,h7,h8⟩:=fin none W3 O' hf3 hO';exact ⟨_,W4,h1,fun i=>O' i∨i=L,h5,h8,.inl ⟨rfl,O',fun i=>Iff.rfl,h6,h7,hIL _ _ _ _ hi3 h4,h2,h3⟩⟩
    | ret =>
     obtain ⟨O',hf3,hO',hi3⟩:=hp;obtain ⟨W4,h1,h2,h3,h4,h5,h6,h7,h8⟩:=fin (some .ret) W3 O' hf3 hO';exact ⟨_,W4,h1,fun i=>O' i∨i=L,h5,h8,.inr ⟨rfl,_,O',fun i=>Iff.rfl,h6,h7,hIxL _ _ _ _ _ hi3 h4,h2,h3⟩⟩
    | exit id =>
     obtain ⟨O',hf3,hO',hi3⟩:=hp;obtain ⟨W4,h1,h2,h3,h4,h5,h6,h7,h8⟩:=fin (some (.exit id)) W3 O' hf3 hO';exact ⟨_,W4,h1,fun i=>O' i∨i=L,h5,h8,.inr ⟨rfl,_,O',fun i=>Iff.rfl,h6,h7,hIxL _ _ _ _ _ hi3 h4,h2,h3⟩⟩
    | goto t =>
     obtain ⟨O',hf3,hO',hi3⟩:=hp;obtain ⟨W4,h1,h2,h3,h4,h5,h6,h7,h8⟩:=fin (some (.goto t)) W3 O' hf3 hO';exact ⟨_,W4,h1,fun i=>O' i∨i=L,h5,h8,.inr ⟨rfl,_,O',fun i=>Iff.rfl,h6,h7,hIxL _ _ _ _ _ hi3 h4,h2,h3⟩⟩
    | panic ch=>exact hp.elim
    | outgrown=>exact hp.elim
   | ret=>exact hE.elim
   | exit id=>exact hE.elim
   | goto t=>exact hE.elim
   | panic ch=>exact hE.elim
   | outgrown=>exact hE.elim
  ·rintro e W2 ⟨⟨v,rfl⟩,(⟨xs,O,hS,O1,hO,hOL,hOD,hi,hl,hd⟩|⟨pre,O,hSp,c,O1,hO,hOL,hOD,hi,hl,hd⟩)⟩
   ·obtain ⟨W3,h1,h2,h3⟩:=hfinal W2 .ready none (by simp) hl hd;exact ⟨none,W3,h1,hdone xs O1 W2 W3 hS h2 (hIL _ _ _ _ hi h2) (by rw [hD];exact h3)⟩
   ·obtain ⟨W3,h1,h2,h3⟩:=hfinal W2 .done (some c) (by simp) hl hd;exact ⟨some c,W3,h1,hstop c pre O1 W2 W3 hSp h2 (hIxL c _ _ _ _ hi h2) (by rw [hD];exact h3)⟩
def LastIn (p:Im):Prop:=rd p.f4 ((p.f4.length:Int) - 1) < p.f5.length
theorem mem_prev {p:Im} {v u:Int}:u ∈ prevL p v↔(0≤u∧u < p.f5.length)∧v ∈ nextL p u:=by
 unfold prevL nextL;rw [List.mem_filter,z2b,z2s,mem_uniq]
theorem prev_in {p:Im} {v:Int}:∀ u ∈ prevL p v,0≤u∧u < p.f5.length:=fun u hu=>(mem_prev.1 hu).1
end Go.Proofs.YtcbnhfnnjkkceaaGreat.X
end
section
namespace Go.Proofs.YtcbnhfnnjkkceaaGreat.X
open Go.RowKit Go.Proofs.YtcbnhfnnjkkceaaGreatW.PrintWords Go.Proofs.YtcbnhfnnjkkceaaGreatW.PrintLast Go.Proofs.YtcbnhfnnjkkceaaGreatW.PrintMore Go.Proofs.YtcbnhfnnjkkceaaGreat.Gr
abbrev Wx:=Wy × Option Addr × Option Addr
def encW (g:Nat) (x:Wx):Array Value:=#[.agg #[.pointer (some ⟨g,0,none⟩),.pointer x.2.1,.pointer x.2.2]]
def fxW (g:Nat) (x:Wx) (W:World):Prop:=WyAt W g x.1 x.2.1 x.2.2
def stepB (p:Im) (n:Nd) (r:List Nd) (ws:List Int) (a:Int):Option Wy:=if a=tgtN (n :: r) then none else if (z1p p n r ws a).2 then some (z1p p n r ws a).1 else none
def z2c (p:Im) (y:Wy):List Wy:=match y.ns with
 | []=>[]
 | n :: r=>(prevL p n.at_).filterMap (stepB p n r y.ws)
theorem fxW.keep {g:Nat} {x:Wx} {A B:World} (h:fxW g x A) (hk:WKeep A B):fxW g x B:=WyAt.keep h hk
theorem WKeep.fr2 {A B:World} {O:Nat→Prop} (hf:Fr A B O) (hO:∀ i,O i→NoWay A i):WKeep A B:=fun b c t h ht=>by
 refine (hf.block b (z0s h) fun e=>?_).trans h;have:=hO b e c t h;exact ht.elim this.1 this.2
def BkMid (w:World) (p:Im) (b3:Nat) (A5:Option Addr) (c5:Nat) (w':World):Prop :=
 Below w.heap.size w w'∧w.heap.size≤b3∧w'.heap[b3]?=some (.cells #[.int .i64 0,.int .i64 0,.int .i64 0,.slice none 0 0,.slice none 0 0,.slice none 0 0] 26 (0,0)) ∧
  Kd.R k79 79 w' w.heap.size (fun _=>True) (.slice A5 p.f5.length c5) p.f5
theorem back_store {w wj:World} {p:Im} {b3:Nat} {A5:Option Addr} {c5:Nat} (h:BkMid w p b3 A5 c5 wj) (v0 v1 v2 v3 v4 v5:Value) :
  Below w.heap.size w ((((((wj.setCell ⟨b3,0,none⟩ v0).setCell ⟨b3,1,none⟩ v1).setCell ⟨b3,2,none⟩ v2).setCell ⟨b3,3,none⟩ v3).setCell ⟨b3,4,none⟩ v4).setCell ⟨b3,5,none⟩ v5)∧w.heap.size≤b3 ∧
  ((((((wj.setCell ⟨b3,0,none⟩ v0).setCell ⟨b3,1,none⟩ v1).setCell ⟨b3,2,none⟩ v2).setCell ⟨b3,3,none⟩ v3).setCell ⟨b3,4,none⟩ v4).setCell ⟨b3,5,none⟩ v5).heap[b3]?=some (.cells #[v0,v1,v2,v3,v4,v5] 26 (0,0)) ∧
  Kd.R k79 79 ((((((wj.setCell ⟨b3,0,none⟩ v0).setCell ⟨b3,1,none⟩ v1).setCell ⟨b3,2,none⟩ v2).setCell ⟨b3,3,none⟩ v3).setCell ⟨b3,4,none⟩ v4).setCell ⟨b3,5,none⟩ v5) w.heap.size (fun _=>True) (.slice A5 p.f5.length c5) p.f5:=by
 obtain ⟨h1,h2,h3,h4⟩:=h;have hne:∀ k,(Value.slice A5 p.f5.length c5).ownBlock=some k→k≠b3:=fun k hk e=>by
  obtain ⟨c,hc⟩:=Kd.R_typed h4 k hk;rw [e,h3] at hc;injection hc with hc
  injection hc with _ hc
  exact absurd hc (by decide)
 refine ⟨z07 (z07 (z07 (z07 (z07 (z07 h1 h2) h2) h2) h2) h2) h2,h2,z1d (z1d (z1d (z1d (z1d (z1d h3 0 v0) 1 v1) 2 v2) 3 v3) 4 v4) 5 v5,?_⟩;have ht:=Kd.R_mono (Kd.R_bound (Kd.R_tight (by rfl) h4)) (ok':=fun k=>k≠b3) fun k hk=>hne k hk.1.symm
 exact Kd.R_mono (Kd.R_far (Kd.R_far (Kd.R_far (Kd.R_far (Kd.R_far (Kd.R_far ht (p:=⟨b3,0,none⟩) (fun k hk=>hk) v0) (p:=⟨b3,1,none⟩) (fun k hk=>hk) v1) (p:=⟨b3,2,none⟩) (fun k hk=>hk) v2) (p:=⟨b3,3,none⟩) (fun k hk=>hk) v3) (p:=⟨b3,4,none⟩) (fun k hk=>hk) v4) (p:=⟨b3,5,none⟩) (fun k hk=>hk) v5) fun _ _=>trivial
theorem GrY.lt' {w:World} {g B:Nat} {p:Im} {Y:Nat→Prop} (h:GrY w g B p Y):GrY w g B p (fun i=>Y i∧i < w.heap.size):=by
 obtain ⟨h0,dv,fv,cv,h1,h2,h3⟩:=h;have hg:∃ c,w.heap[g]?=some (.cells c 97 (0,0)):=by
  rcases h3 with h3|⟨bs,n,V,h3,_⟩
  ·exact ⟨_,h3⟩
  ·exact ⟨_,h3⟩
 obtain ⟨c,hc⟩:=hg;refine ⟨h0,dv,fv,cv,h1,fun k hk=>⟨h2 k hk,(h1.ne hc hk).1⟩,?_⟩
 rcases h3 with h3|⟨bs,n,V,h3,h4,h5,h6⟩
 ·exact .inl h3
 ·exact .inr ⟨bs,n,V,h3,h4,h5,fun i hi=>⟨h6 i hi,(h4.in_lt hi).2.1⟩⟩
theorem row_keep {α:Type} {d:Kd α} {e base:Nat} {ok:Nat→Prop} {w w':World} {v:Value} {xs:List α} (hE:d.E=[]) (h:d.R e w base ok v xs) {O:Nat→Prop} (hf:Fr w w' O) (hO:∀ k,v.ownBlock=some k→¬ O k):d.R e w' base ok v xs :=
 Kd.R_reok hE (Kd.R_step (Kd.R_tight hE h) fun k hk hlt=>hf.block k hlt (hO k hk.symm)) fun k hk=>h.1 k hk
theorem take_step {l:List Int} {i:Nat} (h:i < l.length) (f:Int→Option Wy):(l.take (i+1)).filterMap f=(l.take i).filterMap f ++ (f (rd l (i:Int))).toList:=by
 have e:rd l (i:Int)=l[i]:=by unfold rd;simp [List.getD_eq_getElem?_getD,List.getElem?_eq_getElem h]
 rw [e,List.take_succ_eq_append_getElem h,List.filterMap_append]
 congr 1
theorem z2m {a b c:World} {S T:Nat→Prop} (h:Fr a b S) (k:Fr b c T) (hT:∀ i,T i→S i∨a.heap.size≤i):Fr a c S :=
 ⟨k.os.trans h.os,k.tape.trans h.tape,k.output.trans h.output,Nat.le_trans h.size k.size,fun i hi hn=>(k.block i (Nat.lt_of_lt_of_le hi h.size) fun ht=>(hT i ht).elim hn fun h2=>by omega).trans (h.block i hi hn)⟩
theorem backs1_seq {m g B N b1 bn:Nat} {p:Im} {qw:Option Addr} {n:Nd} {r:List Nd} {ws:List Int} {Y X:Nat→Prop} (hp:Rt p) (hl3:p.f3.length≤100) (hl4:p.f4.length≤40) (hl5:p.f5.length≤300)
  (hYN:∀ i,Y i→i < N∧¬ X i) (hgN:g < N∧¬ X g) (hbN:b1 < N∧¬ X b1) (hat:Gr.wfI n.at_)
  (ho:-1000000≤n.opn∧n.opn≤1000000) (hlo:-1000000≤n.low∧n.low≤1000000) (hhi:-1000000≤n.high∧n.high≤1000000) :
  SeqO m Tryz.prog 97 #[.pointer (some ⟨b1,0,none⟩)] (encW g) (fun _=>True) (fxW g) (fun pre _=>pre.length < 300)
   (fun xs W=>GrY W g B p (fun i=>Y i∨N≤i)∧(∀ x ∈ xs,fxW g x W)∧xs.map (·.1)=z2c p ⟨n :: r,ws⟩)
   (fun pre W=>GrY W g B p (fun i=>Y i∨N≤i)∧(∀ x ∈ pre,fxW g x W)∧pre.map (·.1) <+: z2c p ⟨n :: r,ws⟩) g N X
   (fun W=>W.heap[b1]?=some (.cells #[.pointer (some ⟨g,0,none⟩),.pointer (some ⟨bn,0,none⟩),.pointer qw] 63 (0,0))∧GrY W g B p Y∧NodeL W (some ⟨bn,0,none⟩) (n :: r)∧WaitL W qw ws):=by
 intro la J Jx O0 w hQ0 hNw hO0 hJ hJx hJR hY h0;obtain ⟨hb1,hgy,hn,hws⟩:=hQ0;have HO0:=Aside0.mk hO0;have HJ:=Aside0.mk hJ;have HJX:=Aside0.mk hJx;have HJR:=Aside0.mk hJR;have HY:=Aside0.mk hY;have H0:=Aside0.mk h0;have HP:=Aside0.mk hp;have HAT:=Aside0.mk hat;have HOO:=Aside0.mk (And.intro ho (And.intro hlo hhi));have HL:=Aside0.mk (And.intro hl3 (And.intro hl4 hl5));have HNB:=Aside0.mk (And.intro hYN (And.intro hgN (And.intro hbN hNw)));have BX:=Aside0.mk hb1;have HGY:=Aside0.mk hgy;have HG:=Aside0.mk hgy.gr;have HN:=Aside0.mk hn;have HWS:=Aside0.mk hws;have HB0:=Aside0.mk (z12 (Below.refl w.heap.size w));have B10:=Aside0.mk (z09 hb1);have HNE:Aside0 (b1≠g∧bn≠g):=⟨by
  obtain ⟨c,hc⟩:=hgy.gr.typed;obtain ⟨bn',q',ebn,hbn,hnr⟩:=id hn;obtain rfl:bn=bn':=by cases ebn;rfl
  constructor
  ·intro e;rw [e,hc] at hb1;injection hb1 with hb1
   injection hb1 with _ hb1
   exact absurd hb1 (by decide)
  ·intro e;rw [e,hc] at hbn;injection hbn with hbn
   injection hbn with _ hbn
   exact absurd hbn (by decide)⟩
 clear hp hl3 hl4 hl5 hYN hgN hbN hat ho hlo hhi hb1 hgy hn hws hO0 hJ hJx hJR hY h0 hNw;refine callsIn_wide.2 ?_
 go_enter Tryz.func97,Tryz.ntmps97
 go_upto_region 0 with (fail)
 refine z27 (n:=8) (S:=fun w'=>w'.cell? ⟨b1,0,none⟩=some (.pointer (some ⟨g,0,none⟩))∧w'.cell? ⟨b1,1,none⟩=some (.pointer (some ⟨bn,0,none⟩))∧w'.cell? ⟨b1,2,none⟩=some (.pointer qw)) (ds:=[]) #[zf,zf,zf,zf,zf,zf,zf,zf] (by kernel_rfl) rfl rfl ⟨(z01 B10.out 0).trans rfl,(z01 B10.out 1).trans rfl,(z01 B10.out 2).trans rfl⟩ (fun hHeld=>?_);refine pure_ (i:=0) (N:=some 9) (v:=?_) (a':=?_) #[zt,zf,zf,zf,zf,zf,zf,zf] rfl rfl (by kernel_rfl) (fun _ _ _ h=>h) (Or.inl ⟨by rfl,?_⟩) ?_ ?_;rotate_left
 ·intro w';go_simp;with_reducible rfl
 rotate_left
 ·simp only [Act.put,zq1,zq2,zq3,i64_w,i32_w];rfl
 refine take_ (i:=1) (N:=some 10) (v:=?_) (a':=?_) #[zt,zt,zf,zf,zf,zf,zf,zf] rfl rfl (by kernel_rfl) (fun _ _ _ h=>h) (Or.inl ⟨by rfl,?_⟩) hHeld ?_ ?_;rotate_left
 ·rintro w' ⟨s0,s1,s2⟩;go_simp;with_reducible rfl
 rotate_left
 ·simp only [Act.put,zq1,zq2,zq3,i64_w,i32_w];rfl
 refine take_ (i:=3) (N:=some 12) (v:=?_) (a':=?_) #[zt,zt,zf,zt,zf,zf,zf,zf] rfl rfl (by kernel_rfl) (fun _ _ _ h=>h) (Or.inl ⟨by rfl,?_⟩) hHeld ?_ ?_;rotate_left
 ·rintro w' ⟨s0,s1,s2⟩;go_simp;with_reducible rfl
 rotate_left
 ·simp only [Act.put,zq1,zq2,zq3,i64_w,i32_w];rfl
 refine join_ (σ:=((Option Addr × Nat) × (Option Addr × Nat) × (Option Addr × Nat)) × Nat) 2 #[zt,zt,zt,zt,zt,zt,zf,zf] (fun s_=>[(11,.agg #[.int .i64 p.f0,.int .i64 p.f1,.int .i64 p.f2,.slice s_.1.1.1 p.f3.length s_.1.1.2,.slice s_.1.2.1.1 p.f4.length s_.1.2.1.2,.slice s_.1.2.2.1 p.f5.length s_.1.2.2.2]),(13,.int .i64 (tgtN (n :: r))),(3,.pointer (some ⟨s_.2,0,none⟩))]) (fun s_ w'=>BkMid w p s_.2 s_.1.2.2.1 s_.1.2.2.2 w') ?_ ?_;rotate_left
 ·intro hCont;refine two_ (i:=2) (j:=5) (Ni:=some 11) (Nj:=some 3) #[zt,zt,zt,zt,zf,zf,zf,zf] #[zt,zt,zf,zt,zf,zt,zf,zf] rfl rfl rfl rfl (by kernel_rfl) (by decide) (by decide) (fun K hK=>?_) (fun K hK=>?_)
  ·skip;refine goes_ Tryz.func18 (by kernel_rfl) rfl #[.pointer (some ⟨g,0,none⟩)] (by rfl) rfl rfl (by simp only [List.map_toArray,List.map_cons,List.map_nil];rfl) ?_;refine (z34 (HG.out.below HB0.out) HL.out.1 HL.out.2.1 HL.out.2.2).mono ?_;rintro e w4 ⟨v3,v4,v5,rfl,hR3,hR4,hR5,hb4⟩;obtain ⟨A3,c3,rfl⟩:=Kd.R_slice hR3;obtain ⟨A4,c4,rfl⟩:=Kd.R_slice hR4;obtain ⟨A5,c5,rfl⟩:=Kd.R_slice hR5;refine ⟨_,rfl,?_⟩;have HB1:=Aside0.mk (z0x HB0.out HB0.out.size hb4);have B11:=Aside0.mk (z0h B10.out hb4);have R51:=Aside0.mk (Kd.R_lower hR5 HB0.out.size);clear hR3 hR4 hR5 hb4;refine hK.out _ _ ⟨(z01 B11.out 0).trans rfl,(z01 B11.out 1).trans rfl,(z01 B11.out 2).trans rfl⟩ (fun hHeld=>?_);clear hK K;refine norm_ (a':=?_) ?_ ?_;rotate_left
   ·show Act.put _ (some 11) _=_;simp only [Act.put,zq1,zq2,zq3,i64_w,i32_w];rfl
   refine two_ (i:=4) (j:=5) (Ni:=some 13) (Nj:=some 3) #[zt,zt,zt,zt,zt,zf,zf,zf] #[zt,zt,zt,zt,zf,zt,zf,zf] rfl rfl rfl rfl (by kernel_rfl) (by decide) (by decide) (fun K hK=>?_) (fun K hK=>?_)
   ·skip;refine goes_ Tryz.func98 (by kernel_rfl) rfl #[.agg #[.pointer (some ⟨g,0,none⟩),.pointer (some ⟨bn,0,none⟩),.pointer qw]] (by rfl) rfl rfl (by simp only [List.map_toArray,List.map_cons,List.map_nil];rfl) ?_;refine (target_calls (HN.out.keep (WKeep.below HB1.out))).mono ?_;rintro e wt ⟨rfl,hb4⟩;refine ⟨_,rfl,?_⟩;have HB2:=Aside0.mk (z0x HB1.out HB1.out.size hb4);have B12:=Aside0.mk (z0h B11.out hb4);have R52:=Aside0.mk (Kd.R_below R51.out hb4);clear hb4;refine hK.out _ _ ⟨(z01 B12.out 0).trans rfl,(z01 B12.out 1).trans rfl,(z01 B12.out 2).trans rfl⟩ (fun hHeld=>?_);clear hK K;refine norm_ (a':=?_) ?_ ?_;rotate_left
    ·show Act.put _ (some 13) _=_;simp only [Act.put,zq1,zq2,zq3,i64_w,i32_w];rfl
    refine one_ (i:=5) (N:=some 3) #[zt,zt,zt,zt,zt,zt,zf,zf] rfl rfl (by kernel_rfl) (by decide) (fun K hK=>?_);refine z1c (w1:=?_) (v:=?_) (by rfl) rfl ?_ ?_;rotate_left 2
    ·go_simp;constructor
     ·rfl
     ·rfl
    have HB3:=Aside0.mk (z04 HB2.out (Obj.cells #[.int .i64 0,.int .i64 0,.int .i64 0,.slice none 0 0,.slice none 0 0,.slice none 0 0] 26));have B13:=Aside0.mk (z06 B12.out (Obj.cells #[.int .i64 0,.int .i64 0,.int .i64 0,.slice none 0 0,.slice none 0 0,.slice none 0 0] 26));have B33:=Aside0.mk (z14 wt (Obj.cells #[.int .i64 0,.int .i64 0,.int .i64 0,.slice none 0 0,.slice none 0 0,.slice none 0 0] 26));have H3:Aside0 (w.heap.size≤wt.heap.size):=⟨HB2.out.size⟩;have R53:=Aside0.mk (Kd.R_alloc R52.out (Obj.cells #[.int .i64 0,.int .i64 0,.int .i64 0,.slice none 0 0,.slice none 0 0,.slice none 0 0] 26));refine hK.out _ _ ⟨(z01 B13.out 0).trans rfl,(z01 B13.out 1).trans rfl,(z01 B13.out 2).trans rfl⟩ (fun hHeld=>?_);clear hK K;refine norm_ (a':=?_) ?_ ?_;rotate_left
    ·show Act.put _ (some 3) _=_;simp only [Act.put,zq1,zq2,zq3,i64_w,i32_w];rfl
    exact norm_ (by simp only [z0p,Act.put,zq1,zq2,zq3]) (hCont (((A3,c3),(A4,c4),(A5,c5)),wt.heap.size) _ ⟨HB3.out,H3.out,B33.out,R53.out⟩)
   ·skip;refine z1c (w1:=?_) (v:=?_) (by rfl) rfl ?_ ?_;rotate_left 2
    ·go_simp;constructor
     ·rfl
     ·rfl
    have HB2:=Aside0.mk (z04 HB1.out (Obj.cells #[.int .i64 0,.int .i64 0,.int .i64 0,.slice none 0 0,.slice none 0 0,.slice none 0 0] 26));have B12:=Aside0.mk (z06 B11.out (Obj.cells #[.int .i64 0,.int .i64 0,.int .i64 0,.slice none 0 0,.slice none 0 0,.slice none 0 0] 26));have B32:=Aside0.mk (z14 w4 (Obj.cells #[.int .i64 0,.int .i64 0,.int .i64 0,.slice none 0 0,.slice none 0 0,.slice none 0 0] 26));have H3:Aside0 (w.heap.size≤w4.heap.size):=⟨HB1.out.size⟩;have R52:=Aside0.mk (Kd.R_alloc R51.out (Obj.cells #[.int .i64 0,.int .i64 0,.int .i64 0,.slice none 0 0,.slice none 0 0,.slice none 0 0] 26));refine hK.out _ _ ⟨(z01 B12.out 0).trans rfl,(z01 B12.out 1).trans rfl,(z01 B12.out 2).trans rfl⟩ (fun hHeld=>?_);clear hK K;refine norm_ (a':=?_) ?_ ?_;rotate_left
    ·show Act.put _ (some 3) _=_;simp only [Act.put,zq1,zq2,zq3,i64_w,i32_w];rfl
    refine one_ (i:=4) (N:=some 13) #[zt,zt,zt,zt,zt,zt,zf,zf] rfl rfl (by kernel_rfl) (by decide) (fun K hK=>?_);refine goes_ Tryz.func98 (by kernel_rfl) rfl #[.agg #[.pointer (some ⟨g,0,none⟩),.pointer (some ⟨bn,0,none⟩),.pointer qw]] (by rfl) rfl rfl (by simp only [List.map_toArray,List.map_cons,List.map_nil];rfl) ?_;refine (target_calls (HN.out.keep (WKeep.below HB2.out))).mono ?_;rintro e wt ⟨rfl,hb4⟩;refine ⟨_,rfl,?_⟩;have HB3:=Aside0.mk (z0x HB2.out HB2.out.size hb4);have B13:=Aside0.mk (z0h B12.out hb4);have R53:=Aside0.mk (Kd.R_below R52.out hb4);have B33:=Aside0.mk (z0h B32.out hb4);clear hb4;refine hK.out _ _ ⟨(z01 B13.out 0).trans rfl,(z01 B13.out 1).trans rfl,(z01 B13.out 2).trans rfl⟩ (fun hHeld=>?_);clear hK K;refine norm_ (a':=?_) ?_ ?_;rotate_left
    ·show Act.put _ (some 13) _=_;simp only [Act.put,zq1,zq2,zq3,i64_w,i32_w];rfl
    exact norm_ (by simp only [z0p,Act.put,zq1,zq2,zq3]) (hCont (((A3,c3),(A4,c4),(A5,c5)),w4.heap.size) _ ⟨HB3.out,H3.out,B33.out,R53.out⟩)
  ·skip;refine z1c (w1:=?_) (v:=?_) (by rfl) rfl ?_ ?_;rotate_left 2
   ·go_simp;constructor
    ·rfl
    ·rfl
   have HB1:=Aside0.mk (z04 HB0.out (Obj.cells #[.int .i64 0,.int .i64 0,.int .i64 0,.slice none 0 0,.slice none 0 0,.slice none 0 0] 26));have B11:=Aside0.mk (z06 B10.out (Obj.cells #[.int .i64 0,.int .i64 0,.int .i64 0,.slice none 0 0,.slice none 0 0,.slice none 0 0] 26));have B31:=Aside0.mk (z14 w.drew (Obj.cells #[.int .i64 0,.int .i64 0,.int .i64 0,.slice none 0 0,.slice none 0 0,.slice none 0 0] 26));have H3:Aside0 (w.heap.size≤w.drew.heap.size):=⟨HB0.out.size⟩;refine hK.out _ _ ⟨(z01 B11.out 0).trans rfl,(z01 B11.out 1).trans rfl,(z01 B11.out 2).trans rfl⟩ (fun hHeld=>?_);clear hK K;refine norm_ (a':=?_) ?_ ?_;rotate_left
   ·show Act.put _ (some 3) _=_;simp only [Act.put,zq1,zq2,zq3,i64_w,i32_w];rfl
   refine one_ (i:=2) (N:=some 11) #[zt,zt,zt,zt,zf,zt,zf,zf] rfl rfl (by kernel_rfl) (by decide) (fun K hK=>?_);refine goes_ Tryz.func18 (by kernel_rfl) rfl #[.pointer (some ⟨g,0,none⟩)] (by rfl) rfl rfl (by simp only [List.map_toArray,List.map_cons,List.map_nil];rfl) ?_;refine (z34 (HG.out.below HB1.out) HL.out.1 HL.out.2.1 HL.out.2.2).mono ?_;rintro e w4 ⟨v3,v4,v5,rfl,hR3,hR4,hR5,hb4⟩;obtain ⟨A3,c3,rfl⟩:=Kd.R_slice hR3;obtain ⟨A4,c4,rfl⟩:=Kd.R_slice hR4;obtain ⟨A5,c5,rfl⟩:=Kd.R_slice hR5;refine ⟨_,rfl,?_⟩;have HB2:=Aside0.mk (z0x HB1.out HB1.out.size hb4);have B12:=Aside0.mk (z0h B11.out hb4);have R52:=Aside0.mk (Kd.R_lower hR5 HB1.out.size);have B32:=Aside0.mk (z0h B31.out hb4);clear hR3 hR4 hR5 hb4;refine hK.out _ _ ⟨(z01 B12.out 0).trans rfl,(z01 B12.out 1).trans rfl,(z01 B12.out 2).trans rfl⟩ (fun hHeld=>?_);clear hK K;refine norm_ (a':=?_) ?_ ?_;rotate_left
   ·show Act.put _ (some 11) _=_;simp only [Act.put,zq1,zq2,zq3,i64_w,i32_w];rfl
   refine one_ (i:=4) (N:=some 13) #[zt,zt,zt,zt,zt,zt,zf,zf] rfl rfl (by kernel_rfl) (by decide) (fun K hK=>?_);refine goes_ Tryz.func98 (by kernel_rfl) rfl #[.agg #[.pointer (some ⟨g,0,none⟩),.pointer (some ⟨bn,0,none⟩),.pointer qw]] (by rfl) rfl rfl (by simp only [List.map_toArray,List.map_cons,List.map_nil];rfl) ?_;refine (target_calls (HN.out.keep (WKeep.below HB2.out))).mono ?_;rintro e wt ⟨rfl,hb4⟩;refine ⟨_,rfl,?_⟩;have HB3:=Aside0.mk (z0x HB2.out HB2.out.size hb4);have B13:=Aside0.mk (z0h B12.out hb4);have R53:=Aside0.mk (Kd.R_below R52.out hb4);have B33:=Aside0.mk (z0h B32.out hb4);clear hb4;refine hK.out _ _ ⟨(z01 B13.out 0).trans rfl,(z01 B13.out 1).trans rfl,(z01 B13.out 2).trans rfl⟩ (fun hHeld=>?_);clear hK K;refine norm_ (a':=?_) ?_ ?_;rotate_left
   ·show Act.put _ (some 13) _=_;simp only [Act.put,zq1,zq2,zq3,i64_w,i32_w];rfl
   exact norm_ (by simp only [z0p,Act.put,zq1,zq2,zq3]) (hCont (((A3,c3),(A4,c4),(A5,c5)),w.heap.size) _ ⟨HB3.out,H3.out,B33.out,R53.out⟩)
 rintro s_ wj hst_;have HST:=Aside0.mk hst_;have HB1j:=Aside0.mk (z0h BX.out hst_.1);have hHeld:=And.intro ((z01 HB1j.out 0).trans rfl) (And.intro ((z01 HB1j.out 1).trans rfl) ((z01 HB1j.out 2).trans rfl));clear hst_;refine norm_ (a':=?_) ?_ ?_;rotate_left
 ·simp only [z0p,Act.put,zq1,zq2,zq3];rfl
 refine one_ (i:=6) (N:=none) #[zt,zt,zt,zt,zt,zt,zt,zf] rfl rfl (by kernel_rfl) (by decide) (fun K hK=>?_);have g0:wj.cell? ⟨s_.2,0,none⟩=some (.int .i64 0):=(z01 HST.out.2.2.1 0).trans rfl;have g1:wj.cell? ⟨s_.2,1,none⟩=some (.int .i64 0):=(z01 HST.out.2.2.1 1).trans rfl;have g2:wj.cell? ⟨s_.2,2,none⟩=some (.int .i64 0):=(z01 HST.out.2.2.1 2).trans rfl;have g3:wj.cell? ⟨s_.2,3,none⟩=some (.slice none 0 0):=(z01 HST.out.2.2.1 3).trans rfl;have g4:wj.cell? ⟨s_.2,4,none⟩=some (.slice none 0 0):=(z01 HST.out.2.2.1 4).trans rfl;have g5:wj.cell? ⟨s_.2,5,none⟩=some (.slice none 0 0):=(z01 HST.out.2.2.1 5).trans rfl;have z0:=z02 HST.out.2.2.1 0;have z1:=z02 HST.out.2.2.1 1;have z2:=z02 HST.out.2.2.1 2;have z3:=z02 HST.out.2.2.1 3;have z4:=z02 HST.out.2.2.1 4;have z5:=z02 HST.out.2.2.1 5;refine skip_ (w1:=?_) (by rfl) rfl ?_ ?_;rotate_left
 ·go_simp;rfl
 have HST6:=Aside0.mk (back_store HST.out (.int .i64 p.f0) (.int .i64 p.f1) (.int .i64 p.f2) (.slice s_.1.1.1 p.f3.length s_.1.1.2) (.slice s_.1.2.1.1 p.f4.length s_.1.2.1.2) (.slice s_.1.2.2.1 p.f5.length s_.1.2.2.2));have HB16:=Aside0.mk (z0h BX.out HST6.out.1);refine hK.out _ _ ⟨(z01 HB16.out 0).trans rfl,(z01 HB16.out 1).trans rfl,(z01 HB16.out 2).trans rfl⟩ (fun hHeld=>?_);clear hK K;refine pure_ (i:=7) (N:=some 4) (v:=?_) (a':=?_) #[zt,zt,zt,zt,zt,zt,zt,zt] rfl rfl (by kernel_rfl) (fun _ _ _ h=>h) (Or.inl ⟨by rfl,?_⟩) ?_ ?_;rotate_left
 ·intro w';go_simp;with_reducible rfl
 rotate_left
 ·simp only [Act.put,zq1,zq2,zq3,i64_w,i32_w];rfl
 refine done_ (by kernel_rfl) ?_;obtain ⟨⟨⟨A3,c3⟩,⟨A4,c4⟩,⟨A5,c5⟩⟩,b3⟩:=s_;dsimp only at HST6 HB16 ⊢;generalize ((((((wj.setCell ⟨b3,0,none⟩ (.int .i64 p.f0)).setCell ⟨b3,1,none⟩ (.int .i64 p.f1)).setCell ⟨b3,2,none⟩ (.int .i64 p.f2)).setCell ⟨b3,3,none⟩ (.slice A3 p.f3.length c3)).setCell ⟨b3,4,none⟩ (.slice A4 p.f4.length c4)).setCell ⟨b3,5,none⟩ (.slice A5 p.f5.length c5))=w5 at HST6 HB16 ⊢;clear hHeld HST HB1j g0 g1 g2 g3 g4 g5 z0 z1 z2 z3 z4 z5;have B1D:=Aside0.mk (z09 HB16.out);have HD5:=Aside0.mk (z12 HST6.out.1);have HGD:=Aside0.mk (HGY.out.below HD5.out);have HND:=Aside0.mk (HN.out.keep (WKeep.below HD5.out));obtain ⟨bn',qn',ebn,hbn,hnr⟩:=id HND.out;obtain rfl:bn=bn':=by cases ebn;rfl
 have BND:=Aside0.mk hbn;clear ebn hbn hnr
 go_upto_region 1 with (fail)
 refine z27 (n:=10) (S:=fun w'=>w'.cell? ⟨b1,0,none⟩=some (.pointer (some ⟨g,0,none⟩))∧w'.cell? ⟨b1,1,none⟩=some (.pointer (some ⟨bn,0,none⟩))∧w'.cell? ⟨bn,0,none⟩=some (.int .i64 n.at_)) (ds:=[]) #[zf,zf,zf,zf,zf,zf,zf,zf,zf,zf] (by kernel_rfl) rfl rfl ⟨(z01 B1D.out 0).trans rfl,(z01 B1D.out 1).trans rfl,(z01 BND.out 0).trans rfl⟩ (fun hHeld=>?_);refine pure_ (i:=0) (N:=some 14) (v:=?_) (a':=?_) #[zt,zf,zf,zf,zf,zf,zf,zf,zf,zf] rfl rfl (by kernel_rfl) (fun _ _ _ h=>h) (Or.inl ⟨by rfl,?_⟩) ?_ ?_;rotate_left
 ·intro w';go_simp;with_reducible rfl
 rotate_left
 ·simp only [Act.put,zq1,zq2,zq3,i64_w,i32_w];rfl
 refine pure_ (i:=2) (N:=some 16) (v:=?_) (a':=?_) #[zt,zf,zt,zf,zf,zf,zf,zf,zf,zf] rfl rfl (by kernel_rfl) (fun _ _ _ h=>h) (Or.inl ⟨by rfl,?_⟩) ?_ ?_;rotate_left
 ·intro w';go_simp;with_reducible rfl
 rotate_left
 ·simp only [Act.put,zq1,zq2,zq3,i64_w,i32_w];rfl
 refine pure_ (i:=9) (N:=some 23) (v:=?_) (a':=?_) #[zt,zf,zt,zf,zf,zf,zf,zf,zf,zt] rfl rfl (by kernel_rfl) (fun _ _ _ h=>h) (Or.inl ⟨by rfl,?_⟩) ?_ ?_;rotate_left
 ·intro w';go_simp;with_reducible rfl
 rotate_left
 ·simp only [Act.put,zq1,zq2,zq3,i64_w,i32_w];rfl
 refine take_ (i:=1) (N:=some 15) (v:=?_) (a':=?_) #[zt,zt,zt,zf,zf,zf,zf,zf,zf,zt] rfl rfl (by kernel_rfl) (fun _ _ _ h=>h) (Or.inl ⟨by rfl,?_⟩) hHeld ?_ ?_;rotate_left
 ·rintro w' ⟨s0,s1,s2⟩;go_simp;with_reducible rfl
 rotate_left
 ·simp only [Act.put,zq1,zq2,zq3,i64_w,i32_w];rfl
 refine take_ (i:=3) (N:=some 17) (v:=?_) (a':=?_) #[zt,zt,zt,zt,zf,zf,zf,zf,zf,zt] rfl rfl (by kernel_rfl) (fun _ _ _ h=>h) (Or.inl ⟨by rfl,?_⟩) hHeld ?_ ?_;rotate_left
 ·rintro w' ⟨s0,s1,s2⟩;go_simp;with_reducible rfl
 rotate_left
 ·simp only [Act.put,zq1,zq2,zq3,i64_w,i32_w];rfl
 refine pure_ (i:=4) (N:=some 18) (v:=?_) (a':=?_) #[zt,zt,zt,zt,zt,zf,zf,zf,zf,zt] rfl rfl (by kernel_rfl) (fun _ _ _ h=>h) (Or.inl ⟨by rfl,?_⟩) ?_ ?_;rotate_left
 ·intro w';go_simp;with_reducible rfl
 rotate_left
 ·simp only [Act.put,zq1,zq2,zq3,i64_w,i32_w];rfl
 refine pure_ (i:=5) (N:=some 19) (v:=?_) (a':=?_) #[zt,zt,zt,zt,zt,zt,zf,zf,zf,zt] rfl rfl (by kernel_rfl) (fun _ _ _ h=>h) (Or.inl ⟨by rfl,?_⟩) ?_ ?_;rotate_left
 ·intro w';go_simp;with_reducible rfl
 rotate_left
 ·simp only [Act.put,zq1,zq2,zq3,i64_w,i32_w];rfl
 refine take_ (i:=6) (N:=some 20) (v:=?_) (a':=?_) #[zt,zt,zt,zt,zt,zt,zt,zf,zf,zt] rfl rfl (by kernel_rfl) (fun _ _ _ h=>h) (Or.inl ⟨by rfl,?_⟩) hHeld ?_ ?_;rotate_left
 ·rintro w' ⟨s0,s1,s2⟩;go_simp;with_reducible rfl
 rotate_left
 ·simp only [Act.put,zq1,zq2,zq3,i64_w,i32_w];rfl
 refine one_ (i:=7) (N:=some 21) #[zt,zt,zt,zt,zt,zt,zt,zt,zf,zt] rfl rfl (by kernel_rfl) (by decide) (fun K hK=>?_);refine goes_ Tryz.func22 (by kernel_rfl) rfl #[.pointer (some ⟨g,0,none⟩),.int .i64 n.at_] (by rfl) rfl rfl (by simp only [List.map_toArray,List.map_cons,List.map_nil];rfl) ?_;refine (graphPrev2 HP.out HGD.out.gr HAT.out).mono ?_;rintro e w6 ⟨⟨vr,rfl,hRr,hMr,hFr⟩,hYr⟩;obtain ⟨ar,cr,rfl⟩:=Kd.R_slice hRr;refine ⟨_,rfl,?_⟩;have HRR:=Aside0.mk hRr;have HFR:=Aside0.mk hFr;have HYR:=Aside0.mk (hYr _ HGD.out);have B16:=Aside0.mk ((hFr.block b1 (z0s B1D.out) HNE.out.1).trans B1D.out);have BN6:=Aside0.mk ((hFr.block bn (z0s BND.out) HNE.out.2).trans BND.out);clear hRr hMr hFr hYr;refine hK.out _ _ ⟨(z01 B16.out 0).trans rfl,(z01 B16.out 1).trans rfl,(z01 BN6.out 0).trans rfl⟩ (fun hHeld=>?_);clear hK K;refine norm_ (a':=?_) ?_ ?_;rotate_left
 ·show Act.put _ (some 21) _=_;simp only [Act.put,zq1,zq2,zq3,i64_w,i32_w];rfl
 refine pure_ (i:=8) (N:=some 22) (v:=?_) (a':=?_) #[zt,zt,zt,zt,zt,zt,zt,zt,zt,zt] rfl rfl (by kernel_rfl) (fun _ _ _ h=>h) (Or.inl ⟨by rfl,?_⟩) ?_ ?_;rotate_left
 ·intro w';go_simp;with_reducible rfl
 rotate_left
 ·simp only [Act.put,zq1,zq2,zq3,i64_w,i32_w];rfl
 refine done_ (by kernel_rfl) ?_;clear hHeld;obtain ⟨l,hl⟩:∃ l,prevL p n.at_=l:=⟨_,rfl⟩;rw [hl] at HRR;simp only [hl];have HLE:Aside0 (l.length≤300):=⟨by
  rw [← hl];have h1:(prevL p n.at_).length≤(z1i p.f5.length).length:=List.length_filter_le _ _;have h2:(z1i p.f5.length).length=p.f5.length:=by unfold z1i;simp
  have:=HL.out;omega⟩
 have HLI:Aside0 (∀ a ∈ l,0≤a∧a < p.f5.length):=⟨fun a ha=>prev_in a (by rw [hl];exact ha)⟩;have HBW:Aside0 (z2c p ⟨n :: r,ws⟩=l.filterMap (stepB p n r ws)):=⟨by show (prevL p n.at_).filterMap _=_;rw [hl]⟩;have HF06:Aside0 (Fr w w6 (fun i=>i=g)):=⟨Fr.trans (Fr.mono (Fr.of_below HD5.out) fun i h1 h2=>by omega) HFR.out⟩;have HJ6:Aside0 (J [] O0 w6):=⟨HJ.out _ _ _ _ H0.out (Fr.mono HF06.out fun i _ h=>.inl h)⟩;have HLT6:Aside0 (∀ i,O0 i→i < w.heap.size):=⟨fun i hi=>((HJR.out _ _ _ H0.out).2 i hi).1⟩;have HNX:Aside0 (¬ O0 g∧¬ O0 b1):=⟨fun h=>(HO0.out g h).elim HNB.out.2.1.2 fun h=>by have:=HNB.out.2.1.1;omega,fun h=>(HO0.out b1 h).elim HNB.out.2.2.1.2 fun h=>by have:=HNB.out.2.2.1.1;omega⟩;obtain ⟨Y2,hY2⟩:∃ Y2:Nat→Prop,Y2=fun i=>(Y i∨N≤i)∧¬ O0 i:=⟨_,rfl⟩
 have HGY6:Aside0 (GrY w6 g B p Y2):=⟨HYR.out.mono fun i hi=>by
  rw [hY2]
  rcases hi with h|h
  ·exact ⟨.inl h,fun ho=>(HO0.out i ho).elim (HNB.out.1 i h).2 fun h2=>by have:=(HNB.out.1 i h).1;omega⟩
  ·have h5:=HD5.out.size;refine ⟨.inr (by have:=HNB.out.2.2.2;omega),fun ho=>by have:=HLT6.out i ho;omega⟩⟩
 have HY2:Aside0 (∀ i,Y2 i→(Y i∨N≤i)∧¬ O0 i):=⟨fun i hi=>by rw [hY2] at hi;exact hi⟩;have HB36:Aside0 (w6.heap[b3]?=some (.cells #[.int .i64 p.f0,.int .i64 p.f1,.int .i64 p.f2,.slice A3 p.f3.length c3,.slice A4 p.f4.length c4,.slice A5 p.f5.length c5] 26 (0,0))∧¬ O0 b3):=⟨by
  have h3:=HST6.out.2.1;refine ⟨(HFR.out.block b3 (z0s (z09 HST6.out.2.2.1)) fun e=>?_).trans (z09 HST6.out.2.2.1),fun ho=>by have:=HLT6.out b3 ho;omega⟩;have:=HG.out.lt;omega⟩
 have hr5:=Kd.R_drew HST6.out.2.2.2;have HR56:Aside0 (Kd.R k79 79 w6 w.heap.size (fun _=>True) (.slice A5 p.f5.length c5) p.f5):=⟨row_keep rfl hr5 HFR.out fun k hk e=>by have:=Kd.R_base hr5 k hk;have:=HG.out.lt;omega⟩;clear hr5;have HN6:=Aside0.mk (HND.out.keep (WKeep.fr HFR.out (HGD.out.gr.typed.choose_spec) (by decide) (by decide)));have HWS6:=Aside0.mk ((HWS.out.keep (WKeep.below HD5.out)).keep (WKeep.fr HFR.out (HGD.out.gr.typed.choose_spec) (by decide) (by decide)));have HRLO:Aside0 (∀ k,(Value.slice ar l.length cr).ownBlock=some k→¬ O0 k):=⟨fun k hk ho=>by have:=Kd.R_base HRR.out k hk;have:=HLT6.out k ho;have:=HD5.out.size;omega⟩;have HRL5:Aside0 (∀ k,(Value.slice A5 p.f5.length c5).ownBlock=some k→¬ O0 k):=⟨fun k hk ho=>by have:=Kd.R_base HR56.out k hk;have:=HLT6.out k ho;omega⟩;have HG6:Aside0 (w.heap.size≤w6.heap.size):=⟨HF06.out.size⟩;clear HYR HFR HGD HND BND HST6 HB16 HD5 B1D HJ6 BN6;have HJ6:Aside0 (J [] O0 w6):=⟨HJ.out _ _ _ _ H0.out (Fr.mono HF06.out fun i _ h=>.inl h)⟩;have HNW6:Aside0 (∀ k,O0 k→NoWay w6 k):=⟨fun k hk=>((HJR.out _ _ _ HJ6.out).2 k hk).2⟩;clear hY2 hl;go_wp2
 go_loopw [23] (fun v23 wr=>∃ (i:Nat) (pre:List Wx) (O:Nat→Prop),v23=.int .i64 i∧Aside0 (i≤l.length)∧Aside0 (J pre O wr)∧Aside0 (Fr w6 wr O0)∧Aside0 (∀ j,O j→O0 j∨w6.heap.size≤j)∧Aside0 (∀ x ∈ pre,fxW g x wr) ∧
   Aside0 (pre.map (·.1)=(l.take i).filterMap (stepB p n r ws))) (fun v _=>l.length - (intOf v).toNat)
 case atStart=>exact ⟨0,[],O0,rfl,⟨Nat.zero_le _⟩,HJ6,⟨Fr.refl _ _⟩,⟨fun j h=>.inl h⟩,⟨by simp⟩,⟨by simp⟩⟩
 case round =>
  clear HJ6;obtain ⟨i,pre,O,rfl,hi,hj,hf,ho,hfx,hmap⟩:=hrel;have hi:=hi.out;have hl300:=HLE.out
  by_cases hil:i < l.length
  ·obtain ⟨a,ha⟩:∃ a,rd l (i:Int)=a:=⟨_,rfl⟩;have ham:a ∈ l:=ha ▸ rd_mem hil;have HAI:=Aside0.mk (HLI.out a ham);have HRW:=Aside0.mk (row_keep rfl HRR.out hf.out HRLO.out);have HR5W:=Aside0.mk (row_keep rfl HR56.out hf.out HRL5.out);obtain ⟨as_,ea,hx⟩:=Kd.at_int (Kd.R_reads' HRW.out).2.2 (i:Int) (by omega) (by omega);cases ea;rw [Int.toNat_natCast,ha] at hx;have HTK:Aside0 (∀ f:Int→Option Wy,(l.take (i+1)).filterMap f=(l.take i).filterMap f ++ (f a).toList):=⟨fun f=>by rw [← ha];exact take_step hil f⟩;have B1R:=Aside0.mk ((hf.out.block b1 (z0s B16.out) HNX.out.2).trans B16.out);have B3R:=Aside0.mk ((hf.out.block b3 (z0s HB36.out.1) HB36.out.2).trans HB36.out.1);have HGR:Aside0 (GrY wr g B p Y2):=⟨HGY6.out.keep fun k hk h=>hf.out.block k hk fun ho=>by
    rcases h with h|h
    ·exact HNX.out.1 (h ▸ ho)
    ·exact (HY2.out k h).2 ho⟩
   have HKW:Aside0 (WKeep w6 wr):=⟨WKeep.fr2 hf.out HNW6.out⟩;have HNR:=Aside0.mk (HN6.out.keep HKW.out);have HWR:=Aside0.mk (HWS6.out.keep HKW.out);have y0:wr.cell? ⟨b1,0,none⟩=some (.pointer (some ⟨g,0,none⟩)):=(z01 B1R.out 0).trans rfl;have y1:wr.cell? ⟨b1,1,none⟩=some (.pointer (some ⟨bn,0,none⟩)):=(z01 B1R.out 1).trans rfl;have y2:wr.cell? ⟨b1,2,none⟩=some (.pointer qw):=(z01 B1R.out 2).trans rfl;have i0:wr.cell? ⟨b3,0,none⟩=some (.int .i64 p.f0):=(z01 B3R.out 0).trans rfl;have i1:wr.cell? ⟨b3,1,none⟩=some (.int .i64 p.f1):=(z01 B3R.out 1).trans rfl;have i2:wr.cell? ⟨b3,2,none⟩=some (.int .i64 p.f2):=(z01 B3R.out 2).trans rfl;have i3:wr.cell? ⟨b3,3,none⟩=some (.slice A3 p.f3.length c3):=(z01 B3R.out 3).trans rfl;have i4:wr.cell? ⟨b3,4,none⟩=some (.slice A4 p.f4.length c4):=(z01 B3R.out 4).trans rfl;have i5:wr.cell? ⟨b3,5,none⟩=some (.slice A5 p.f5.length c5):=(z01 B3R.out 5).trans rfl;have hp0:(0≤(i:Int))=True:=eq_true (by omega);have hp1:((i:Int) < (l.length:Int))=True:=eq_true (by omega);have hid:decide ((i:Int) < (l.length:Int))=true:=decide_eq_true (by omega);have hwi:IntKind.i64.wrap ((i:Int)+1)=(i:Int)+1:=IntWalk.i64_in _ (by omega);have HIL:=Aside0.mk hil;have HI3:=Aside0.mk hl300;clear ha ham hil hi hl300
   by_cases et:a=tgtN (n :: r)
   ·have HST:Aside0 (stepB p n r ws a=none):=⟨by unfold stepB;rw [if_pos et]⟩;have ett:(a == tgtN (n :: r))=true:=(by simpa using et);clear et;go_wp2
    go_roundw
    case rel=>exact ⟨i+1,pre,O,by go_num,⟨HIL.out⟩,hj,hf,ho,hfx,⟨by rw [HTK.out,HST.out,hmap.out];simp⟩⟩
    case measure=>have:=HIL.out;simp [intOf];omega
   have HET:=Aside0.mk et;have ett:(a == tgtN (n :: r))=false:=by simpa using et
   clear et;have hc:=ahead_calls HGR.out.gr HL.out.1 HL.out.2.1 HL.out.2.2 HNR.out HWR.out (A3:=A3) (A4:=A4) (n3:=p.f3.length) (n4:=p.f4.length) (c3:=c3) (c4:=c4) (c5:=c5) (Kd.R_reads' HR5W.out).2.2 a HAI.out.1 HAI.out.2 HOO.out.1 HOO.out.2.1 HOO.out.2.2;unfold AheadPost at hc;obtain ⟨ob,hob⟩:∃ b,(z1p p n r ws a).2=b:=⟨_,rfl⟩;rw [hob] at hc;have HOB:=Aside0.mk hob;have HC:=Aside0.mk hc;clear hc hob
   go_upto_region 6 with (go_at_call 99;refine HC.out.mono ?_;rintro e wa ⟨q0,q1,q2,rfl,hBa,hok⟩;have HOK:=Aside0.mk hok;have HBA:=Aside0.mk hBa;have B7:=Aside0.mk (z14 wa (.cells #[.pointer q0,.pointer q1,.pointer q2] 63));have HB7:=Aside0.mk (z04 HBA.out (.cells #[.pointer q0,.pointer q1,.pointer q2] 63));have HK7:=Aside0.mk (WKeep.below (z04 (Below.refl wa.heap.size wa) (.cells #[.pointer q0,.pointer q1,.pointer q2] 63)));clear hBa hok)
   generalize wa.alloc (.cells #[.pointer q0,.pointer q1,.pointer q2] 63)=w7 at B7 HB7 HK7 ⊢;generalize wa.heap.size=b7 at B7 ⊢;clear y0 y1 y2 i0 i1 i2 i3 i4 i5 hx ett hid hp0 hp1;have HJ7:Aside0 (J pre O w7):=⟨HJ.out _ _ _ _ hj.out (StG.below HB7.out)⟩;have HF7:Aside0 (Fr w6 w7 O0):=⟨Fr.trans hf.out (Fr.mono (Fr.of_below HB7.out) fun k h1 h2=>by omega)⟩;have HX7:Aside0 (∀ x ∈ pre,fxW g x w7):=⟨fun x hx=>(hfx.out x hx).keep (WKeep.below HB7.out)⟩;have e0:w7.cell? ⟨b7,0,none⟩=some (.pointer q0):=(z01 B7.out 0).trans rfl;have e1:w7.cell? ⟨b7,1,none⟩=some (.pointer q1):=(z01 B7.out 1).trans rfl;have e2:w7.cell? ⟨b7,2,none⟩=some (.pointer q2):=(z01 B7.out 2).trans rfl;cases ob with
   | false =>
    have HST:Aside0 (stepB p n r ws a=none):=⟨by unfold stepB;rw [if_neg HET.out,if_neg (by rw [HOB.out];decide)]⟩;go_wp2
    go_roundw
    case rel=>exact ⟨i+1,pre,O,by go_num,⟨HIL.out⟩,HJ7,HF7,ho,HX7,⟨by rw [HTK.out,HST.out,hmap.out];simp⟩⟩
    case measure=>have:=HIL.out;simp [intOf];omega
   | true =>
    have HST:Aside0 (stepB p n r ws a=some (z1p p n r ws a).1):=⟨by unfold stepB;rw [if_neg HET.out,if_pos HOB.out]⟩;obtain ⟨rfl,hwy⟩:=HOK.out rfl;have HPL:Aside0 (pre.length < 300):=⟨by
     have h1:=congrArg List.length hmap.out;have h2:((l.take i).filterMap (stepB p n r ws)).length≤(l.take i).length:=List.length_filterMap_le _ _;have h3:=HIL.out;have h4:=HI3.out;simp at h1 h2;omega⟩
    have HWY:Aside0 (fxW g ((z1p p n r ws a).1,q1,q2) w7):=⟨hwy.keep HK7.out⟩;clear hwy;obtain ⟨fn,tmps,assign,body,hy,hR⟩:=HY.out pre ((z1p p n r ws a).1,q1,q2) O w7 HJ7.out HWY.out HPL.out;dsimp only [encW] at hy;have HR:=Aside0.mk hR;clear hR;refine (wpIn_wide (n:=m+1)).1 ?_
    gi_wp2
    refine HR.out.mono ?_;rintro e w8 ⟨O',hF8,hO8,(⟨rfl,hJ8⟩|⟨rfl,hJ8⟩)⟩
    ·have HR8:=Aside0.mk (And.intro hF8 (And.intro hO8 hJ8));clear hF8 hO8 hJ8 hy e0 e1 e2
     gi_wp2
     go_wp2
     go_roundw
     case rel=>exact ⟨i+1,pre ++ [((z1p p n r ws a).1,q1,q2)],O',by go_num,⟨HIL.out⟩,⟨HR8.out.2.2⟩,⟨z2m HF7.out HR8.out.1 ho.out⟩,⟨fun k hk=>(HR8.out.2.1 k hk).elim (ho.out k) fun h=>.inr (Nat.le_trans HF7.out.size h)⟩,
      ⟨fun x hx=>by
       have hk:=WKeep.fr2 HR8.out.1 fun k hk=>((HJR.out _ _ _ HJ7.out).2 k hk).2
       rcases List.mem_append.1 hx with h|h
       ·exact (HX7.out x h).keep hk
       ·rw [List.mem_singleton.1 h];exact HWY.out.keep hk⟩,⟨by rw [HTK.out,HST.out,List.map_append,hmap.out];rfl⟩⟩
     case measure=>have:=HIL.out;simp [intOf];omega
    ·have HR8:=Aside0.mk (And.intro hF8 (And.intro hO8 hJ8));clear hF8 hO8 hJ8 hy e0 e1 e2
     gi_wp2
     go_wp2;refine bodyPost_ret (results_none rfl _ _ _) rfl ?_;refine ⟨⟨_,rfl⟩,.inr ⟨pre ++ [((z1p p n r ws a).1,q1,q2)],O',⟨?_,fun x hx=>?_,?_⟩,HR8.out.2.2⟩⟩
     ·exact (HGY6.out.keep fun k hk h=>(z2m HF7.out HR8.out.1 ho.out).block k hk fun ho=>by
       rcases h with h|h
       ·exact HNX.out.1 (h ▸ ho)
       ·exact (HY2.out k h).2 ho).mono fun k hk=>(HY2.out k hk).1
     ·have hk:=WKeep.fr2 HR8.out.1 fun k hk=>((HJR.out _ _ _ HJ7.out).2 k hk).2
      rcases List.mem_append.1 hx with h|h
      ·exact (HX7.out x h).keep hk
      ·rw [List.mem_singleton.1 h];exact HWY.out.keep hk
     ·rw [HBW.out,List.map_append,hmap.out];refine ⟨(l.drop (i+1)).filterMap (stepB p n r ws),?_⟩;rw [show List.map (fun x:Wx=>x.1) [((z1p p n r ws a).1,q1,q2)]=(stepB p n r ws a).toList by rw [HST.out];rfl,← HTK.out,← List.filterMap_append,List.take_append_drop]
  ·have hid:decide ((i:Int) < (l.length:Int))=false:=decide_eq_false (by omega);have hil2:i=l.length:=by omega
   have HG':Aside0 (GrY wr g B p (fun i=>Y i∨N≤i)):=⟨(HGY6.out.keep fun k hk h=>hf.out.block k hk fun ho=>by
    rcases h with h|h
    ·exact HNX.out.1 (h ▸ ho)
    ·exact (HY2.out k h).2 ho).mono fun k hk=>(HY2.out k hk).1⟩
   have HMM:Aside0 (pre.map (·.1)=z2c p ⟨n :: r,ws⟩):=⟨by rw [HBW.out,hmap.out,hil2,List.take_length]⟩;clear hil hi hl300 hid;subst hil2;go_wp2;go_end0
   exact ⟨⟨_,rfl⟩,.inl ⟨pre,O,⟨HG'.out,hfx.out,HMM.out⟩,hj.out⟩⟩
attribute [local go_sem] Oper.semAt_some
def z2q (g:Nat) (x:Wx):List Value:=[.pointer (some ⟨g,0,none⟩),.pointer x.2.1,.pointer x.2.2]
def RowW (w:World) (g base:Nat) (v:Value) (xs:List Wx):Prop:=w.ownsRow base 63 3 v xs.length (xs.flatMap (z2q g))
theorem infoC_way:(Tryz.prog.info? 63).map (fun i=>(i.zero,i.size,i.bytes))=some (some (.agg #[.pointer none,.pointer none,.pointer none]),3,24):=by kernel_rfl
theorem undC_ways:Tryz.prog.underlying 66=some (.slice 63):=by kernel_rfl
theorem RowW.keep {w w':World} {g base:Nat} {v:Value} {xs:List Wx} (h:RowW w g base v xs) (hk:∀ k c,v.ownBlock=some k→w.heap[k]?=some (.cells c 63 (0,0))→w'.heap[k]?=some (.cells c 63 (0,0))):RowW w' g base v xs:=by
 refine ⟨h.1,?_⟩
 rcases h.2 with h|⟨b,cap,cur,rfl,hb,hc,r⟩
 ·exact .inl h
 ·exact .inr ⟨b,cap,cur,rfl,hb,hk b cur rfl hc,r⟩
theorem RowW.own {w:World} {g base:Nat} {v:Value} {xs:List Wx} (h:RowW w g base v xs):∀ k,v.ownBlock=some k→base≤k∧∃ c,w.heap[k]?=some (.cells c 63 (0,0)):=by
 rcases h.2 with ⟨rfl,_⟩|⟨b,cap,cur,rfl,hb,hc,r⟩
 ·intro k hk;cases hk
 ·intro k hk;cases hk;exact ⟨hb,_,hc⟩
theorem RowW.form {w:World} {g base:Nat} {v:Value} {xs:List Wx} (h:RowW w g base v xs):∃ a c,v=.slice a xs.length c:=by
 rcases h.2 with ⟨rfl,hn⟩|⟨b,cap,cur,rfl,_⟩
 ·exact ⟨none,0,by rw [hn]⟩
 ·exact ⟨_,_,rfl⟩
theorem fold1 (t:Array Value) (p:Tmp) (v:Value):((#[p]:Array Tmp).zip #[v]).foldl (fun t (x:Tmp × Value)=>match x with|(p,v)=>t.setIfInBounds p v) t=t.setIfInBounds p v:=by simp
theorem RowW.push {w:World} {g base:Nat} {v:Value} {xs:List Wx} {x:Wx} (h:w.ownsRow base 63 3 v (xs.length+1) (xs.flatMap (z2q g) ++ z2q g x)):RowW w g base v (xs ++ [x]):=by
 unfold RowW;rw [List.length_append,List.flatMap_append]
 simpa using h
def AppI (w:World) (g bx:Nat) (pre:List Wx) (O:Nat→Prop) (W:World):Prop :=
 ∃ v,W.heap[bx]?=some (.cells #[v] 66 (0,0))∧RowW W g (bx+1) v pre∧(∀ i,O i↔i=bx∨v.ownBlock=some i)∧Fr w W (fun i=>i=g)
theorem append_calls {w:World} {g gf:Nat} {lb:Array Value} {S Sp:List Wx→World→Prop} {Q0:World→Prop} (eg:∀ args w,(callFunc gf args).run Tryz.prog w=.ok (.enter gf args) w)
  (hseq:∀ m,SeqO m Tryz.prog gf lb (encW g) (fun _=>True) (fxW g) (fun pre _=>pre.length < 300) S Sp g (w.heap.size+1) (fun i=>i=w.heap.size) Q0) (hg:g < w.heap.size) (hQ0:∀ W1,Below (w.heap.size+1) (w.alloc (.cells #[.slice none 0 0] 66)) W1→Q0 W1)
  (hSL:∀ xs W W',S xs W→LpK (w.heap.size+1) W W'→S xs W') :
  Calls Tryz.prog 96 #[.slice none 0 0,.func (.func gf) #[] lb] w fun e w'=>∃ v xs,e=.returned v∧S xs w'∧RowW w' g (w.heap.size+1) v xs∧Fr w w' (fun i=>i=g):=by
 refine (callsIn_wide (n:=3)).1 ?_;refine callsIn_of_wp_marks Tryz.func96 rfl trivial ?_;simp only [Tryz.ntmps96,List.size_toArray,List.length_cons,List.length_nil,Nat.reduceAdd,Nat.reduceSub,Array.replicate_succ,Array.replicate_zero,List.push_toArray,List.append_toArray,List.nil_append,List.cons_append];have HSQ:=Aside0.mk hseq;have HQ0:=Aside0.mk hQ0;have HSL:=Aside0.mk hSL;have HGL:=Aside0.mk hg;have BX:=Aside0.mk (z14 w (.cells #[.slice none 0 0] 66));have HF1:Aside0 (Fr w (w.alloc (.cells #[.slice none 0 0] 66)) (fun i=>i=g)):=⟨z32 w _ _⟩;have hsz:(w.alloc (.cells #[.slice none 0 0] 66)).heap.size=w.heap.size+1:=by show (w.heap.push _).size=_;simp
 have HSZ:=Aside0.mk hsz;clear hseq hQ0 hSL hg hsz
 gi_wp2
 generalize w.alloc (.cells #[.slice none 0 0] 66)=w1 at BX HF1 HSZ HQ0 ⊢;obtain ⟨bx,hbx⟩:∃ bx,w.heap.size=bx:=⟨_,rfl⟩;rw [hbx] at BX;simp only [hbx];have HBX:=Aside0.mk hbx;have HS:Aside0 (SeqO 2 Tryz.prog gf lb (encW g) (fun _=>True) (fxW g) (fun pre _=>pre.length < 300) S Sp g w1.heap.size (fun i=>i=bx) Q0):=⟨by
  have hs:=HSQ.out 2;rw [← HSZ.out] at hs;rw [hbx] at hs;exact hs⟩
 have hgb:g≠bx:=by have:=HGL.out;omega
 have hgb2:g < bx:=by have:=HGL.out;omega
 have hN:w.heap.size≤w1.heap.size:=by have:=HSZ.out;omega
 clear hbx;refine rangeO (m:=2) (gf:=gf) (lb:=lb) rfl eg HS.out (fun _=>rfl) (by have:=HSZ.out;have:=HGL.out;omega) (fun W1 hb=>HQ0.out W1 (by rw [← HSZ.out];exact hb)) (fun x A B h hb=>h.keep (WKeep.below hb)) (fun x A B h hl=>h.keep hl.wk)
  (AppI w g bx) (fun _ _ _ _=>False) ?_ ?_ (fun _ _ _ _ _ h _=>h) (fun _ _ _ _ _ h _=>h) ?_ ?_ ?_ ?_ (fun _ _ _ _ _ _ _ h _=>h.elim)
 ·rintro s O A B ⟨v,hb,hrow,hO,hf⟩ st;exact ⟨v,st.keep hb (fun e=>hgb e.symm) (fun es c e=>by cases e),hrow.keep fun k c hk hc=>st.keep hc (fun e=>by have:=(hrow.own k hk).1;omega) (fun es c e=>by cases e),hO,st.old hf hN⟩
 ·rintro s O A B ⟨v,hb,hrow,hO,hf⟩ st;exact ⟨v,st.keep hb (fun r e=>by cases e) (fun es e=>by cases e),hrow.keep fun k c hk hc=>st.keep hc (fun r e=>by cases e) (fun es e=>by cases e),hO,st.old hf hN⟩
 ·rintro s O A ⟨v,hb,hrow,hO,hf⟩;refine ⟨trivial,fun i hi=>?_⟩
  rcases (hO i).1 hi with rfl|h
  ·exact ⟨z0s hb,fun c t hc=>by rw [hb] at hc;cases hc;exact ⟨by decide,by decide⟩⟩
  ·obtain ⟨_,c0,hc0⟩:=hrow.own i h;exact ⟨z0s hc0,fun c t hc=>by rw [hc0] at hc;cases hc;exact ⟨by decide,by decide⟩⟩
 ·exact ⟨.slice none 0 0,BX.out,⟨rfl,.inl ⟨rfl,rfl⟩⟩,fun i=>⟨.inl,fun h=>h.elim id fun h=>by cases h⟩,HF1.out⟩
 ·rintro l pre x O W hW _ hFx hT;rw [show encW g x=#[.agg #[.pointer (some ⟨g,0,none⟩),.pointer x.2.1,.pointer x.2.2]] from rfl,fold1];simp only [zq1,zq2,zq3]
  gi_wp2
  refine ⟨z04 (Below.refl _ _) _,?_⟩;rintro W2 hl ⟨v,hb,hrow,hO,hf⟩ hFx2;have B5:=hl.keep (z14 W (.cells #[.pointer (some ⟨g,0,none⟩),.pointer x.2.1,.pointer x.2.2] 63)) (fun r e=>by cases e) (fun es e=>by cases e);obtain ⟨A,cA,rfl⟩:=hrow.form;have c0:=cell_of_one hb;have y0:W2.cell? ⟨W.heap.size,0,none⟩=some (.pointer (some ⟨g,0,none⟩)):=(z01 B5 0).trans rfl;have y1:W2.cell? ⟨W.heap.size,1,none⟩=some (.pointer x.2.1):=(z01 B5 1).trans rfl;have y2:W2.cell? ⟨W.heap.size,2,none⟩=some (.pointer x.2.2):=(z01 B5 2).trans rfl;have HROW:=Aside0.mk hrow;have HB:=Aside0.mk hb;have HO:=Aside0.mk hO;have HF:=Aside0.mk hf;have HT:=Aside0.mk hT;have HL2:=Aside0.mk hl.size;obtain ⟨i0,hi,hz0,hz1,hz2⟩:=info_parts infoC_way;clear hl hb hrow hO hf hFx hFx2 hT B5;have HR3:=Aside0.mk (HROW.out.keep (w':=W2.alloc (.cells #[.pointer (some ⟨g,0,none⟩),.pointer x.2.1,.pointer x.2.2] 63)) fun k c _ hc=>z06 hc (.cells #[.pointer (some ⟨g,0,none⟩),.pointer x.2.1,.pointer x.2.2] 63));have HB3:=Aside0.mk (z06 HB.out (.cells #[.pointer (some ⟨g,0,none⟩),.pointer x.2.1,.pointer x.2.2] 63));have HC3:Aside0 (∀ j u,(z2q g x)[j]?=some u→(W2.alloc (.cells #[.pointer (some ⟨g,0,none⟩),.pointer x.2.1,.pointer x.2.2] 63)).cell? ((⟨W2.heap.size,0,none⟩:Addr).add j)=some u):=⟨fun j u hu=>by
   have h1:=z14 W2 (.cells #[.pointer (some ⟨g,0,none⟩),.pointer x.2.1,.pointer x.2.2] 63)
   rcases j with _|_|_|j
   ·cases hu;exact (z01 h1 0).trans rfl
   ·cases hu;exact (z01 h1 1).trans rfl
   ·cases hu;exact (z01 h1 2).trans rfl
   ·simp [z2q] at hu⟩
  have HS3:Aside0 ((W2.alloc (.cells #[.pointer (some ⟨g,0,none⟩),.pointer x.2.1,.pointer x.2.2] 63)).heap.size=W2.heap.size+1):=⟨by show (W2.heap.push _).size=_;simp⟩;have HBS:Aside0 (bx+1≤W2.heap.size):=⟨z0s HB.out⟩
  gi_wp2_with (gi_at_builtin;refine wpListIn_append_own_at _ rfl _ _ _ rfl (bx+1) 63 i0 _ 3 24 undC_ways hi hz0 hz1 hz2 rfl (by decide) _ pre.length _ rfl HR3.out ⟨W2.heap.size,0,none⟩ 1 1 (z2q g x) rfl rfl HC3.out (by simp [z2q,Value.oneCell']) (Nat.le_trans (show _≤300 by have:=HT.out;omega) (by decide)) (by have:=HT.out;omega) (by have:=HS3.out;have:=HBS.out;omega) ?_;intro v' w3 hown' hgrow hnl hor;have HRN:=Aside0.mk (RowW.push hown');have HGROW:=Aside0.mk hgrow;have HOR:=Aside0.mk hor;have HB4:=Aside0.mk ((hgrow.block bx (by have:=HS3.out;have:=HBS.out;omega) (fun e=>by have:=(HROW.out.own bx e.symm).1;omega)).trans HB3.out);clear hown' hgrow hnl hor;obtain ⟨a',c',rfl⟩:=HRN.out.form;have c4:=cell_of_one HB4.out;have f4:=z02 HB4.out 0)
  simp only [List.length_append,List.length_singleton] at HRN HOR;have HFA:Aside0 (Fr W2 w3 O):=⟨Fr.trans (z32 W2 (.cells #[.pointer (some ⟨g,0,none⟩),.pointer x.2.1,.pointer x.2.2] 63) O) (Fr.of_grown HGROW.out fun j hj _=>(HO.out j).2 (.inr hj))⟩;refine ⟨fun i=>i=bx∨(Value.slice a' (pre.length+1) c').ownBlock=some i,Fr.trans HFA.out (Fr.mono (z2l w3 ⟨bx,0,none⟩ _) fun i _ (e:i=bx)=>(HO.out i).2 (.inl e)),fun i hi=>?_,_,z1d HB4.out 0 _,?_,fun i=>Iff.rfl,?_⟩
  ·rcases hi with h|h
   ·exact .inl ((HO.out i).2 (.inl h))
   ·rcases HOR.out with e|e
    ·exact .inl ((HO.out i).2 (.inr (e ▸ h)))
    ·rw [e] at h;cases h;exact .inr (by have:=HS3.out;omega)
  ·exact HRN.out.keep fun k c hk hc=>(Below.heap_setCell w3 ⟨bx,0,none⟩ _ k (fun e=>by have:=(HRN.out.own k hk).1;have e:k=bx:=e;omega)).trans hc
  ·refine z2m (z2m HF.out HFA.out fun i hi=>?_) (z2l w3 ⟨bx,0,none⟩ _) fun i (e:i=bx)=>.inr (by have:=HBX.out;omega)
   rcases (HO.out i).1 hi with h|h
   ·exact .inr (by have:=HBX.out;omega)
   ·exact .inr (by have:=(HROW.out.own i h).1;have:=HBX.out;omega)
 ·rintro xs O W W' hS hl ⟨v,hb,hrow,hO,hf⟩ hD;obtain ⟨A,cA,rfl⟩:=hrow.form;have c0:=cell_of_one hb
  gi_wp2
  refine ⟨by simp,.inl ⟨_,_,rfl,run_takeDeferred hD,?_⟩⟩;have hlp:LpK w1.heap.size W' (W'.putObj w1.heap.size (.deferred none)):=LpK.putD (Nat.le_refl _) hD _;refine ⟨_,results_tmp rfl _ _ _,_,xs,rfl,HSL.out xs _ _ (HSL.out xs _ _ hS (by rw [← HSZ.out];exact hl)) (by rw [← HSZ.out];exact hlp),?_,hlp.old hf hN⟩;rw [HBX.out];exact hrow.keep fun k c hk hc=>hlp.keep hc (fun r e=>by cases e) (fun es e=>by cases e)
end Go.Proofs.YtcbnhfnnjkkceaaGreat.X
end
section
namespace Go.Proofs.YtcbnhfnnjkkceaaGreat.X
open Go.RowKit Go.Proofs.YtcbnhfnnjkkceaaGreatW.PrintWords Go.Proofs.YtcbnhfnnjkkceaaGreat.Gr
def NdIn (p:Im) (k:Nat) (n:Nd):Prop:=(0≤n.at_∧n.at_ < p.f5.length)∧(-(k:Int)≤n.opn∧n.opn≤k)∧(-(k:Int)≤n.low∧n.low≤k)∧(-(k:Int)≤n.high∧n.high≤k)
def WyOk (p:Im) (t:Int) (y:Wy):Prop:=∃ n r,y.ns=n :: r∧NdIn p y.ns.length n∧tgtN y.ns=t
theorem NdIn.mono {p:Im} {k m:Nat} {n:Nd} (h:NdIn p k n) (hk:k≤m):NdIn p m n:=by
 obtain ⟨h1,h2,h3,h4⟩:=h;exact ⟨h1,by omega,by omega,by omega⟩
def way0 (t:Int):Wy:=⟨[⟨t,0,0,0⟩],[]⟩
theorem way0_ok {p:Im} {t:Int} (h:0≤t∧t < p.f5.length):WyOk p t (way0 t):=⟨_,_,rfl,⟨h,by simp [way0],by simp [way0],by simp [way0]⟩,rfl⟩
theorem stepB_some {p:Im} {n:Nd} {r:List Nd} {ws:List Int} {a:Int} {y:Wy} (h:stepB p n r ws a=some y) :
  a≠tgtN (n :: r)∧∃ d:Int,-1≤d∧d≤1∧y.ns=⟨a,n.opn+d,min n.low (n.opn+d),max n.high (n.opn+d)⟩ :: n :: r:=by
 unfold stepB at h
 by_cases ha:a=tgtN (n :: r)
 ·rw [if_pos ha] at h;cases h
 rw [if_neg ha] at h;refine ⟨ha,?_⟩
 by_cases hk:(z1p p n r ws a).2
 ·rw [if_pos hk] at h;obtain rfl:=Option.some.inj h;clear h;unfold z1p at hk ⊢;simp only at hk ⊢
  split at hk
  ·rename_i h23
   rw [if_pos h23] at *;cases ws with
   | nil=>exact ⟨-1,by omega,by omega,rfl⟩
   | cons x vs =>
    simp only at hk ⊢
    by_cases hx:x=a+1
    ·rw [if_pos hx];exact ⟨-1,by omega,by omega,rfl⟩
    ·rw [if_neg hx] at hk;cases hk
  ·rename_i h23
   rw [if_neg h23]
   split at hk
   ·rename_i h24
    rw [if_pos h24];exact ⟨1,by omega,by omega,rfl⟩
   ·rename_i h24
    rw [if_neg h24];exact ⟨0,by omega,by omega,rfl⟩
 ·rw [if_neg hk] at h;cases h
theorem backs_ok {p:Im} {t:Int} {y z:Wy} (hy:WyOk p t y) (hz:z ∈ z2c p y):WyOk p t z∧z.ns.length=y.ns.length+1:=by
 obtain ⟨n,r,e,hn,ht⟩:=hy;unfold z2c at hz;rw [e] at hz;obtain ⟨a,ha,hs⟩:=List.mem_filterMap.1 hz;obtain ⟨_,d,h1,h2,h3⟩:=stepB_some hs;have hl:z.ns.length=y.ns.length+1:=by rw [h3,e];rfl
 refine ⟨⟨_,_,h3,?_,?_⟩,hl⟩
 ·rw [hl];obtain ⟨q1,q2,q3,q4⟩:=hn;exact ⟨prev_in a ha,by push_cast;constructor <;> (show _≤_;omega),by push_cast;constructor <;> (show _≤_;omega),by push_cast;constructor <;> (show _≤_;omega)⟩
 ·rw [h3,← ht,e];rfl
theorem backsW_len {p:Im} (hp:p.f5.length≤256) (y:Wy):(z2c p y).length≤256:=by
 unfold z2c
 split
 ·simp
 ·exact Nat.le_trans (List.length_filterMap_le _ _) (prev_len p hp _)
def queW (p:Im) (t steps:Int):Nat→List Wy
 | 0=>if (0≤t∧t < p.f5.length)∧0≤steps then [way0 t] else []
 | k+1=>queW p t steps k ++ (match (queW p t steps k)[k]? with
  | none=>[]
  | some y=>if (y.ns.length:Int) > steps then [] else z2c p y)
section
variable {p:Im} {t steps:Int}
theorem que_prefix {i k:Nat} (h:i≤k):queW p t steps i <+: queW p t steps k:=by
 induction h with
 | refl=>exact List.prefix_refl _
 | step _ ih=>exact ih.trans ⟨_,rfl⟩
theorem que_get {i k j:Nat} {y:Wy} (h:i≤k) (hy:(queW p t steps i)[j]?=some y):(queW p t steps k)[j]?=some y:=by
 obtain ⟨s,hs⟩:=que_prefix (p:=p) (t:=t) (steps:=steps) h;rw [← hs,List.getElem?_append_left (List.getElem?_eq_some_iff.1 hy).1];exact hy
theorem que_ok (k:Nat):∀ y ∈ queW p t steps k,WyOk p t y∧y.ns.length≤k+1:=by
 induction k with
 | zero =>
  intro y hy;unfold queW at hy
  by_cases h:(0≤t∧t < p.f5.length)∧0≤steps
  ·rw [if_pos h] at hy;obtain rfl:=List.mem_singleton.1 hy;exact ⟨way0_ok h.1,Nat.le_refl _⟩
  ·rw [if_neg h] at hy;cases hy
 | succ k ih =>
  intro y hy;unfold queW at hy
  rcases List.mem_append.1 hy with h|h
  ·exact ⟨(ih y h).1,by have:=(ih y h).2;omega⟩
  ·split at h
   ·cases h
   ·rename_i z hz
    have hm:=List.mem_of_getElem? hz
    split at h
    ·cases h
    ·obtain ⟨h1,h2⟩:=backs_ok (ih z hm).1 h;exact ⟨h1,by have:=(ih z hm).2;omega⟩
theorem que_len (hp:p.f5.length≤256) (k:Nat):(queW p t steps k).length≤1+256 * k:=by
 induction k with
 | zero=>unfold queW;split <;> simp
 | succ k ih =>
  unfold queW;rw [List.length_append];have:(match (queW p t steps k)[k]? with
   | none=>[]
   | some y=>if (y.ns.length:Int) > steps then [] else z2c p y:List Wy).length≤256:=by
   split
   ·simp
   ·split
    ·simp
    ·exact backsW_len hp _
  omega
theorem que_succ {k:Nat} {y:Wy} (h:(queW p t steps k)[k]?=some y):queW p t steps (k+1)=queW p t steps k ++ (if (y.ns.length:Int) > steps then [] else z2c p y):=by
 conv=>lhs;unfold queW
 rw [h]
theorem que_done {k m:Nat} (h:(queW p t steps k).length≤k) (hm:k≤m):queW p t steps m=queW p t steps k:=by
 induction hm with
 | refl=>rfl
 | step hm ih =>
  conv=>lhs;unfold queW
  rw [ih,List.getElem?_eq_none (Nat.le_trans h hm)];simp
def Gone (p:Im) (t steps:Int) (ys:List Wy):Prop:=∀ i y,ys[i]?=some y→(queW p t steps i)[i]?=some y
theorem Gone.nil:Gone p t steps []:=fun i y h=>by simp at h
theorem Gone.snoc {ys:List Wy} {y:Wy} (h:Gone p t steps ys) (hy:(queW p t steps ys.length)[ys.length]?=some y):Gone p t steps (ys ++ [y]):=fun i z hz=>by
 rcases Nat.lt_or_ge i ys.length with hi|hi
 ·rw [List.getElem?_append_left hi] at hz;exact h i z hz
 ·rw [List.getElem?_append_right hi] at hz;have:i=ys.length:=by
   have:=(List.getElem?_eq_some_iff.1 hz).1;simp at this;omega
  subst this;simp at hz;rw [← hz];exact hy
theorem Gone.all {ys:List Wy} (h:Gone p t steps ys) (hd:(queW p t steps ys.length).length≤ys.length):ys=queW p t steps ys.length:=by
 refine List.ext_getElem? fun i=>?_
 rcases Nat.lt_or_ge i ys.length with hi|hi
 ·have:=h i _ (List.getElem?_eq_getElem hi);rw [List.getElem?_eq_getElem hi,que_get (Nat.le_of_lt hi) this]
 ·rw [List.getElem?_eq_none hi,List.getElem?_eq_none (by omega)]
end
end Go.Proofs.YtcbnhfnnjkkceaaGreat.X
end
