/- For the statement of the row : what its proof needs of the text S9. -/
import Derived.Deep.Slices
import Derived.ChangeArms
import Derived.WideShapes
import Derived.DataReads
import Derived.Test.YtcbnhfnnjkkceaaGreatQS1
import Derived.Test.YtcbnhfnnjkkceaaGreatQS2
import Derived.Test.YtcbnhfnnjkkceaaGreatQS3
import Derived.Test.YtcbnhfnnjkkceaaGreatQS4
import Derived.Test.YtcbnhfnnjkkceaaGreatQS5
import Derived.Test.YtcbnhfnnjkkceaaGreatQS7
import Derived.Test.YtcbnhfnnjkkceaaGreatQS8
set_option maxHeartbeats 8000000
set_option maxRecDepth 100000
set_option linter.constructorNameAsVariable false
set_option linter.unusedSimpArgs false
set_option linter.unusedVariables false

section
namespace Go.Proofs.YtcbnhfnnjkkceaaGreat.X
open Go.RowKit Go.Proofs.YtcbnhfnnjkkceaaGreatW.PrintWords Go.Proofs.YtcbnhfnnjkkceaaGreatW.PrintLast Go.Proofs.YtcbnhfnnjkkceaaGreatW.PrintMore Go.Proofs.YtcbnhfnnjkkceaaGreat.Gr
theorem GrM.below {w w1:World} {g B:Nat} {p:Im} (h:GrM w g B p) (hb:Below w.heap.size w w1):GrM w1 g B p:=by
 obtain ⟨h0,dv,fv,cv,bs,n,V,h1,h2,h3,h4⟩:=h;exact ⟨h0,dv,fv,cv,bs,n,V,h1.keep fun k hk=>hb.block k (h1.ne h2 hk).1,(hb.block g (z0v h2)).trans h2,h3.keep fun i hi=>hb.block i (h3.in_lt hi).2.1,h4⟩
theorem GrM.lt {w:World} {g B:Nat} {p:Im} (h:GrM w g B p):g < w.heap.size:=by
 obtain ⟨h0,dv,fv,cv,bs,n,V,h1,h2,h3,h4⟩:=h;exact z0v h2
def RowPost (w:World) (g B:Nat) (p:Im) (l:List Int) (e:Ending) (w':World):Prop:=∃ v,e=.returned v∧Kd.R (Kd.int .i64) 3 w' w.heap.size (fun _=>True) v l∧GrM w' g B p∧Fr w w' (fun i=>i=g)
def RowPost2 (w:World) (g B:Nat) (p:Im) (l:List Int) (e:Ending) (w':World):Prop:=RowPost w g B p l e w'∧∀ Y,GrY w g B p Y→GrY w' g B p (fun i=>Y i∨w.heap.size≤i)
set_option maxHeartbeats 4000000 in
theorem rowNext2 {w:World} {g B b:Nat} {p:Im} (hp:Rt p) (hg:Gr w g B p) (hb:w.heap[b]?=some (.cells #[.pointer (some ⟨g,0,none⟩)] 29 (0,0))) {x:Int} (hx:Gr.wfI x) :
  Calls Tryz.prog 59 #[.pointer (some ⟨g,0,none⟩),.func (.func 60) #[] #[.pointer (some ⟨b,0,none⟩)],.int .i64 x] w (RowPost2 w g B p (nextL p x)):=by
 have HDO:=Aside0.mk (do_calls2 hp hg);have HLT:=Aside0.mk hg.lt;have hbg:b≠g:=fun e=>by
  obtain ⟨c,hc⟩:=hg.typed;rw [e,hc] at hb;injection hb with hb
  injection hb with _ hb
  exact absurd hb (by decide)
 have HB:=Aside0.mk hb;have hmf:∀ (fn:Fn) (first cap:Array Value) (w:World),(Instr.makeFunc fn first cap).run Tryz.prog w=.ok (.func fn first cap) w:=fun _ _ _ _=>rfl
 clear hg hb
 go_enter Tryz.func59,Tryz.ntmps59
 go_wp2_with fail
 refine HDO.out.mono ?_;rintro e w1 ⟨rfl,hM,hF,hY⟩;have HY:=Aside0.mk hY;clear hY;have HM:=Aside0.mk hM;have HF:=Aside0.mk hF;obtain ⟨_,dv,fv,cv,bs,n,V,hgp,hh,ht,hn⟩:=hM;have c0:=cell_of_one ((hF.block b (z0v HB.out) hbg).trans HB.out);have c1:w1.cell? ⟨g,9+0,none⟩=some (.map (some (bs 0))):=(z01 hh (9+0)).trans rfl;have hlk:=(ht.maps 0 (by omega)).look mt hx;have hrow:=ints_R (ht.rows 0 x (by omega) hx);have hlen:=ht.len 0 x (by omega) hx;obtain ⟨A,c,ev⟩:=Kd.R_slice hrow;rw [ev] at hlk hrow;have HCL:=Aside0.mk (clone_int A c (rowsG p 0 x) w1 (Kd.R_reads' hrow).2.2 (Kd.R_reads' hrow).2.1 (by omega));have HSZ:=Aside0.mk hF.size;clear hF hgp hh ht hrow hlen ev
 go_wp2_with (first|(go_at_call 83;refine HCL.out.mono ?_;rintro e w2 ⟨v,rfl,hR,hB2⟩)|go_in)
 go_ret
 exact ⟨⟨_,rfl,Kd.R_lower hR HSZ.out,HM.out.below hB2,HF.out.trans (Fr.mono (Fr.of_below hB2) fun i h1 h2=>by omega)⟩,fun Y h=>(HY.out Y h).below hB2⟩
set_option maxHeartbeats 4000000 in
theorem graphNext2 {w:World} {g B:Nat} {p:Im} (hp:Rt p) (hg:Gr w g B p) {x:Int} (hx:Gr.wfI x) :
  Calls Tryz.prog 20 #[.pointer (some ⟨g,0,none⟩),.int .i64 x] w (RowPost2 w g B p (nextL p x)):=by
 have hbl:=z04 (Below.refl w.heap.size w) (.cells #[.pointer (some ⟨g,0,none⟩)] 29);have HR:=Aside0.mk (rowNext2 hp (hg.below hbl) (z0z w (.cells #[.pointer (some ⟨g,0,none⟩)] 29)) hx);have HF:=Aside0.mk (Fr.mono (Fr.of_below hbl) (S':=fun i=>i=g) fun i h1 h2=>by omega);have HSZ:=Aside0.mk hbl.size;have HBL:=Aside0.mk hbl;have hmf:∀ (fn:Fn) (first cap:Array Value) (w:World),(Instr.makeFunc fn first cap).run Tryz.prog w=.ok (.func fn first cap) w:=fun _ _ _ _=>rfl
 clear hg hbl
 go_enter Tryz.func20,Tryz.ntmps20
 go_wp2_with fail
 refine HR.out.mono ?_;rintro e w2 ⟨⟨v,rfl,hR,hM,hF⟩,hY⟩;have HY:=Aside0.mk hY;clear hY;have HRR:=Aside0.mk hR;have HM:=Aside0.mk hM;have HF2:=Aside0.mk hF;clear hR hM hF;go_wp2;go_ret
 exact ⟨⟨_,rfl,Kd.R_lower HRR.out HSZ.out,HM.out,HF.out.trans HF2.out⟩,fun Y h=>(HY.out Y (h.below HBL.out)).mono fun i hi=>hi.elim .inl fun h2=>.inr (Nat.le_trans HSZ.out h2)⟩
set_option maxHeartbeats 4000000 in
theorem rowPrev2 {w:World} {g B b:Nat} {p:Im} (hp:Rt p) (hg:Gr w g B p) (hb:w.heap[b]?=some (.cells #[.pointer (some ⟨g,0,none⟩)] 29 (0,0))) {x:Int} (hx:Gr.wfI x) :
  Calls Tryz.prog 59 #[.pointer (some ⟨g,0,none⟩),.func (.func 62) #[] #[.pointer (some ⟨b,0,none⟩)],.int .i64 x] w (RowPost2 w g B p (prevL p x)):=by
 have HDO:=Aside0.mk (do_calls2 hp hg);have HLT:=Aside0.mk hg.lt;have hbg:b≠g:=fun e=>by
  obtain ⟨c,hc⟩:=hg.typed;rw [e,hc] at hb;injection hb with hb
  injection hb with _ hb
  exact absurd hb (by decide)
 have HB:=Aside0.mk hb;have hmf:∀ (fn:Fn) (first cap:Array Value) (w:World),(Instr.makeFunc fn first cap).run Tryz.prog w=.ok (.func fn first cap) w:=fun _ _ _ _=>rfl
 clear hg hb
 go_enter Tryz.func59,Tryz.ntmps59
 go_wp2_with fail
 refine HDO.out.mono ?_;rintro e w1 ⟨rfl,hM,hF,hY⟩;have HY:=Aside0.mk hY;clear hY;have HM:=Aside0.mk hM;have HF:=Aside0.mk hF;obtain ⟨_,dv,fv,cv,bs,n,V,hgp,hh,ht,hn⟩:=hM;have c0:=cell_of_one ((hF.block b (z0v HB.out) hbg).trans HB.out);have c1:w1.cell? ⟨g,9+1,none⟩=some (.map (some (bs 1))):=(z01 hh (9+1)).trans rfl;have hlk:=(ht.maps 1 (by omega)).look mt hx;have hrow:=ints_R (ht.rows 1 x (by omega) hx);have hlen:=ht.len 1 x (by omega) hx;obtain ⟨A,c,ev⟩:=Kd.R_slice hrow;rw [ev] at hlk hrow;have HCL:=Aside0.mk (clone_int A c (rowsG p 1 x) w1 (Kd.R_reads' hrow).2.2 (Kd.R_reads' hrow).2.1 (by omega));have HSZ:=Aside0.mk hF.size;clear hF hgp hh ht hrow hlen ev
 go_wp2_with (first|(go_at_call 83;refine HCL.out.mono ?_;rintro e w2 ⟨v,rfl,hR,hB2⟩)|go_in)
 go_ret
 exact ⟨⟨_,rfl,Kd.R_lower hR HSZ.out,HM.out.below hB2,HF.out.trans (Fr.mono (Fr.of_below hB2) fun i h1 h2=>by omega)⟩,fun Y h=>(HY.out Y h).below hB2⟩
set_option maxHeartbeats 4000000 in
theorem graphPrev2 {w:World} {g B:Nat} {p:Im} (hp:Rt p) (hg:Gr w g B p) {x:Int} (hx:Gr.wfI x) :
  Calls Tryz.prog 22 #[.pointer (some ⟨g,0,none⟩),.int .i64 x] w (RowPost2 w g B p (prevL p x)):=by
 have hbl:=z04 (Below.refl w.heap.size w) (.cells #[.pointer (some ⟨g,0,none⟩)] 29);have HR:=Aside0.mk (rowPrev2 hp (hg.below hbl) (z0z w (.cells #[.pointer (some ⟨g,0,none⟩)] 29)) hx);have HF:=Aside0.mk (Fr.mono (Fr.of_below hbl) (S':=fun i=>i=g) fun i h1 h2=>by omega);have HSZ:=Aside0.mk hbl.size;have HBL:=Aside0.mk hbl;have hmf:∀ (fn:Fn) (first cap:Array Value) (w:World),(Instr.makeFunc fn first cap).run Tryz.prog w=.ok (.func fn first cap) w:=fun _ _ _ _=>rfl
 clear hg hbl
 go_enter Tryz.func22,Tryz.ntmps22
 go_wp2_with fail
 refine HR.out.mono ?_;rintro e w2 ⟨⟨v,rfl,hR,hM,hF⟩,hY⟩;have HY:=Aside0.mk hY;clear hY;have HRR:=Aside0.mk hR;have HM:=Aside0.mk hM;have HF2:=Aside0.mk hF;clear hR hM hF;go_wp2;go_ret
 exact ⟨⟨_,rfl,Kd.R_lower HRR.out HSZ.out,HM.out,HF.out.trans HF2.out⟩,fun Y h=>(HY.out Y (h.below HBL.out)).mono fun i hi=>hi.elim .inl fun h2=>.inr (Nat.le_trans HSZ.out h2)⟩
set_option maxHeartbeats 4000000 in
theorem graphImage {w:World} {g B:Nat} {p:Im} (hg:Gr w g B p) (hl3:p.f3.length≤100) (hl4:p.f4.length≤40) (hl5:p.f5.length≤300) :
  Calls Tryz.prog 18 #[.pointer (some ⟨g,0,none⟩)] w fun e w'=>∃ v3 v4 v5,e=.returned (.agg #[.int .i64 p.f0,.int .i64 p.f1,.int .i64 p.f2,v3,v4,v5]) ∧
   Kd.R (Kd.int .u8) 5 w' w.heap.size (fun _=>True) v3 p.f3∧Kd.R (Kd.int .i64) 3 w' w.heap.size (fun _=>True) v4 p.f4∧Kd.R k79 79 w' w.heap.size (fun _=>True) v5 p.f5∧Below w.heap.size w w':=by
 obtain ⟨hB,dv,fv,cv,hgp,hh⟩:=hg;have hcs:∃ d st m,w.heap[g]?=some (.cells (z1p p dv fv cv d st m) 97 (0,0)):=by
  rcases hh with hh|⟨bs,n,V,hh,_⟩
  ·exact ⟨_,_,_,hh⟩
  ·exact ⟨_,_,_,hh⟩
 obtain ⟨d,st,m,hc⟩:=hcs;clear hh;obtain ⟨A3,n3,c3,e3⟩:∃ A n c,dv=.slice A n c:=by obtain ⟨A,c,h⟩:=Kd.R_slice hgp.d;exact ⟨_,_,_,h⟩
 obtain ⟨A4,n4,c4,e4⟩:∃ A n c,fv=.slice A n c:=by obtain ⟨A,c,h⟩:=Kd.R_slice hgp.f;exact ⟨_,_,_,h⟩
 obtain ⟨A5,n5,c5,e5⟩:∃ A n c,cv=.slice A n c:=by obtain ⟨A,c,h⟩:=Kd.R_slice hgp.c;exact ⟨_,_,_,h⟩
 subst e3;subst e4;subst e5;obtain rfl:=(Kd.R_reads' hgp.d).1;obtain rfl:=(Kd.R_reads' hgp.f).1;obtain rfl:=(Kd.R_reads' hgp.c).1;have hbl:=z04 (Below.refl w.heap.size w) (Obj.cells #[.int .i64 0,.int .i64 0,.int .i64 0,.slice none 0 0,.slice none 0 0,.slice none 0 0] 26);have HC:=Aside0.mk (copied_calls p.f0 p.f1 p.f2 A3 c3 p.f3 A4 c4 p.f4 A5 c5 p.f5 (w.alloc (Obj.cells #[.int .i64 0,.int .i64 0,.int .i64 0,.slice none 0 0,.slice none 0 0,.slice none 0 0] 26))
  (Kd.C_below (Kd.R_reads' hgp.d).2.2 hbl) (Kd.R_reads' hgp.d).2.1 (Kd.C_below (Kd.R_reads' hgp.f).2.2 hbl) (Kd.R_reads' hgp.f).2.1 (Kd.C_below (Kd.R_reads' hgp.c).2.2 hbl) (Kd.R_reads' hgp.c).2.1 hl3 hl4 hl5)
 have hc1:=z06 hc (Obj.cells #[.int .i64 0,.int .i64 0,.int .i64 0,.slice none 0 0,.slice none 0 0,.slice none 0 0] 26);have k0:(w.alloc (Obj.cells #[.int .i64 0,.int .i64 0,.int .i64 0,.slice none 0 0,.slice none 0 0,.slice none 0 0] 26)).cell? ⟨g,0,none⟩=some (.int .i64 p.f0):=(z01 hc1 0).trans rfl;have k1:(w.alloc (Obj.cells #[.int .i64 0,.int .i64 0,.int .i64 0,.slice none 0 0,.slice none 0 0,.slice none 0 0] 26)).cell? ⟨g,1,none⟩=some (.int .i64 p.f1):=(z01 hc1 1).trans rfl;have k2:(w.alloc (Obj.cells #[.int .i64 0,.int .i64 0,.int .i64 0,.slice none 0 0,.slice none 0 0,.slice none 0 0] 26)).cell? ⟨g,2,none⟩=some (.int .i64 p.f2):=(z01 hc1 2).trans rfl;have k3:(w.alloc (Obj.cells #[.int .i64 0,.int .i64 0,.int .i64 0,.slice none 0 0,.slice none 0 0,.slice none 0 0] 26)).cell? ⟨g,3,none⟩=some (.slice A3 p.f3.length c3):=(z01 hc1 3).trans rfl;have k4:(w.alloc (Obj.cells #[.int .i64 0,.int .i64 0,.int .i64 0,.slice none 0 0,.slice none 0 0,.slice none 0 0] 26)).cell? ⟨g,4,none⟩=some (.slice A4 p.f4.length c4):=(z01 hc1 4).trans rfl;have k5:(w.alloc (Obj.cells #[.int .i64 0,.int .i64 0,.int .i64 0,.slice none 0 0,.slice none 0 0,.slice none 0 0] 26)).cell? ⟨g,5,none⟩=some (.slice A5 p.f5.length c5):=(z01 hc1 5).trans rfl;have BZ1:=Aside0.mk (z0z w (Obj.cells #[.int .i64 0,.int .i64 0,.int .i64 0,.slice none 0 0,.slice none 0 0,.slice none 0 0] 26));have HB1:=Aside0.mk hbl;clear hc1 hgp hc hbl
 go_enter Tryz.func18,Tryz.ntmps18
 go_wp2_with fail
 refine HC.out.mono ?_;rintro e w5 ⟨v3,v4,v5,rfl,h3,h4,h5,hB⟩;obtain ⟨A3',n3',c3',e3⟩:∃ A n c,v3=.slice A n c:=by obtain ⟨A,c,h⟩:=Kd.R_slice h3;exact ⟨_,_,_,h⟩
 obtain ⟨A4',n4',c4',e4⟩:∃ A n c,v4=.slice A n c:=by obtain ⟨A,c,h⟩:=Kd.R_slice h4;exact ⟨_,_,_,h⟩
 obtain ⟨A5',n5',c5',e5⟩:∃ A n c,v5=.slice A n c:=by obtain ⟨A,c,h⟩:=Kd.R_slice h5;exact ⟨_,_,_,h⟩
 subst e3;subst e4;subst e5;have BZ5:=Aside0.mk ((hB.block _ (z0v BZ1.out)).trans BZ1.out);have HB5:=Aside0.mk (z0y HB1.out HB1.out.size hB);have HR3d:=Aside0.mk (Kd.R_lower h3 HB1.out.size);have HR4d:=Aside0.mk (Kd.R_lower h4 HB1.out.size);have HR5d:=Aside0.mk (Kd.R_lower h5 HB1.out.size);clear h3 h4 h5 hB k0 k1 k2 k3 k4 k5 HC;have z0:=z01 BZ5.out 0;have z1:=z01 BZ5.out 1;have z2:=z01 BZ5.out 2;have z3:=z01 BZ5.out 3;have z4:=z01 BZ5.out 4;have z5:=z01 BZ5.out 5;have f0:=z02 BZ5.out 0;have f1:=z02 BZ5.out 1;have f2:=z02 BZ5.out 2;have f3:=z02 BZ5.out 3;have f4:=z02 BZ5.out 4;have f5:=z02 BZ5.out 5;go_wp2;have y0:=BZ5.out;have y1:=z0w y0 0 (.int .i64 p.f0) (cs':=#[.int .i64 p.f0,.int .i64 0,.int .i64 0,.slice none 0 0,.slice none 0 0,.slice none 0 0]) rfl;have y2:=z0w y1 1 (.int .i64 p.f1) (cs':=#[.int .i64 p.f0,.int .i64 p.f1,.int .i64 0,.slice none 0 0,.slice none 0 0,.slice none 0 0]) rfl;have y3:=z0w y2 2 (.int .i64 p.f2) (cs':=#[.int .i64 p.f0,.int .i64 p.f1,.int .i64 p.f2,.slice none 0 0,.slice none 0 0,.slice none 0 0]) rfl;have y4:=z0w y3 3 (.slice A3' n3' c3') (cs':=#[.int .i64 p.f0,.int .i64 p.f1,.int .i64 p.f2,.slice A3' n3' c3',.slice none 0 0,.slice none 0 0]) rfl;have y5:=z0w y4 4 (.slice A4' n4' c4') (cs':=#[.int .i64 p.f0,.int .i64 p.f1,.int .i64 p.f2,.slice A3' n3' c3',.slice A4' n4' c4',.slice none 0 0]) rfl;have y6:=z0w y5 5 (.slice A5' n5' c5') (cs':=#[.int .i64 p.f0,.int .i64 p.f1,.int .i64 p.f2,.slice A3' n3' c3',.slice A4' n4' c4',.slice A5' n5' c5']) rfl;have HR3df:=Aside0.mk (R_set rfl (R_set rfl (R_set rfl (R_set rfl (R_set rfl (R_set rfl (HR3d.out) y0 (by decide) 0 (.int .i64 p.f0)) y1 (by decide) 1 (.int .i64 p.f1)) y2 (by decide) 2 (.int .i64 p.f2)) y3 (by decide) 3 (.slice A3' n3' c3')) y4 (by decide) 4 (.slice A4' n4' c4')) y5 (by decide) 5 (.slice A5' n5' c5'));have HR4df:=Aside0.mk (R_set rfl (R_set rfl (R_set rfl (R_set rfl (R_set rfl (R_set rfl (HR4d.out) y0 (by decide) 0 (.int .i64 p.f0)) y1 (by decide) 1 (.int .i64 p.f1)) y2 (by decide) 2 (.int .i64 p.f2)) y3 (by decide) 3 (.slice A3' n3' c3')) y4 (by decide) 4 (.slice A4' n4' c4')) y5 (by decide) 5 (.slice A5' n5' c5'));have HR5df:=Aside0.mk (R_set rfl (R_set rfl (R_set rfl (R_set rfl (R_set rfl (R_set rfl (HR5d.out) y0 (by decide) 0 (.int .i64 p.f0)) y1 (by decide) 1 (.int .i64 p.f1)) y2 (by decide) 2 (.int .i64 p.f2)) y3 (by decide) 3 (.slice A3' n3' c3')) y4 (by decide) 4 (.slice A4' n4' c4')) y5 (by decide) 5 (.slice A5' n5' c5'));have HB6:=Aside0.mk (z07 (z07 (z07 (z07 (z07 (z07 (HB5.out) (Nat.le_refl w.heap.size) (j:=0) (v:=.int .i64 p.f0)) (Nat.le_refl w.heap.size) (j:=1) (v:=.int .i64 p.f1)) (Nat.le_refl w.heap.size) (j:=2) (v:=.int .i64 p.f2)) (Nat.le_refl w.heap.size) (j:=3) (v:=.slice A3' n3' c3')) (Nat.le_refl w.heap.size) (j:=4) (v:=.slice A4' n4' c4')) (Nat.le_refl w.heap.size) (j:=5) (v:=.slice A5' n5' c5'));have BZ6:=Aside0.mk y6;generalize ((((((w5.setCell ⟨w.heap.size,0,none⟩ (.int .i64 p.f0)).setCell ⟨w.heap.size,1,none⟩ (.int .i64 p.f1)).setCell ⟨w.heap.size,2,none⟩ (.int .i64 p.f2)).setCell ⟨w.heap.size,3,none⟩ (.slice A3' n3' c3')).setCell ⟨w.heap.size,4,none⟩ (.slice A4' n4' c4')).setCell ⟨w.heap.size,5,none⟩ (.slice A5' n5' c5'))=w6 at HR3df HR4df HR5df HB6 BZ6 ⊢;have x0:=z01 BZ6.out 0;have x1:=z01 BZ6.out 1;have x2:=z01 BZ6.out 2;have x3:=z01 BZ6.out 3;have x4:=z01 BZ6.out 4;have x5:=z01 BZ6.out 5;simp only [List.getElem?_toArray,List.getElem?_cons_zero,List.getElem?_cons_succ] at x0 x1 x2 x3 x4 x5;exact bodyPost_ret (v:=.agg #[.int .i64 p.f0,.int .i64 p.f1,.int .i64 p.f2,.slice A3' n3' c3',.slice A4' n4' c4',.slice A5' n5' c5']) (by simp [results,Tryz.results18,go_sem,x0,x1,x2,x3,x4,x5]) rfl ⟨_,_,_,rfl,HR3df.out,HR4df.out,HR5df.out,HB6.out⟩
theorem ints_l0 (a b:List Int) (hl:a.length=b.length) (hs:a.length < 4611686018427387904):∀ (d k j:Nat),j+d=a.length→d < k→z0x.l0 k a b j=some (a.drop j == b.drop j)
 | 0,k,j,hj,hk=>by
  obtain ⟨k,rfl⟩:∃ n,k=n+1:=⟨k - 1,by omega⟩;rw [z0x.l0,if_neg (by omega),List.drop_eq_nil_of_le (by omega),List.drop_eq_nil_of_le (by omega)];rfl
 | d+1,k,j,hj,hk=>by
  obtain ⟨k,rfl⟩:∃ n,k=n+1:=⟨k - 1,by omega⟩;have hlt:j < a.length:=by omega
  have hlb:j < b.length:=by omega
  have e:rd a (j:Int)=a[j]:=by unfold rd;simp [List.getD_eq_getElem?_getD,List.getElem?_eq_getElem hlt]
  have e':rd b (j:Int)=b[j]:=by unfold rd;simp [List.getD_eq_getElem?_getD,List.getElem?_eq_getElem hlb]
  rw [z0x.l0,if_pos (by omega),if_pos (by omega),if_pos (by omega),List.drop_eq_getElem_cons hlt,List.drop_eq_getElem_cons hlb,e,e',show (a[j] :: a.drop (j+1) == b[j] :: b.drop (j+1))=(a[j] == b[j] && a.drop (j+1) == b.drop (j+1)) from rfl]
  by_cases h:a[j]=b[j]
  ·rw [if_pos h,beq_iff_eq.2 h,Bool.true_and,show wrap64 ((j:Int)+1)=((j+1:Nat):Int) by unfold wrap64;omega,ints_l0 a b hl hs d k (j+1) (by omega) (by omega)]
  ·rw [if_neg h,beq_eq_false_iff_ne.2 h,Bool.false_and]
theorem ints_f (a b:List Int) (hs:a.length < 4611686018427387904):z0x.f (a.length+1) a b=some (a == b):=by
 unfold z0x.f
 by_cases hl:a.length=b.length
 ·rw [if_pos (by omega)];have:=ints_l0 a b hl hs a.length (a.length+1) 0 (by omega) (by omega)
  simpa using this
 ·rw [if_neg (by omega)]
  congr 1
  symm
  rw [beq_eq_false_iff_ne];exact fun e=>hl (by rw [e])
theorem new_no' (p:Im) (A3:Option Addr) (c3:Nat) (A4:Option Addr) (c4:Nat) (A5:Option Addr) (c5:Nat) (w:World)
  (hr3:Kd.C (Kd.int .u8) w A3 p.f3.length p.f3) (hc3:p.f3.length≤c3) (hr4:Kd.C (Kd.int .i64) w A4 p.f4.length p.f4) (hc4:p.f4.length≤c4) (hr5:Kd.C k79 w A5 p.f5.length p.f5) (hc5:p.f5.length≤c5)
  (hw:wfP p) (h0:encV p≠0) :
  Calls Tryz.prog 15 #[.agg #[.int .i64 p.f0,.int .i64 p.f1,.int .i64 p.f2,.slice A3 p.f3.length c3,.slice A4 p.f4.length c4,.slice A5 p.f5.length c5]] w fun e w'=>e=.returned (.tuple #[.pointer none,.int .i64 (encV p)])∧Below w.heap.size w w':=by
 obtain ⟨r,hr⟩:=enc_f p hw.1;exact new_no p A3 c3 A4 c4 A5 c5 w 700 r (encV p) hr3 hc3 hr4 hc4 hr5 hc5 hr h0
theorem new_yes' (p:Im) (A3:Option Addr) (c3:Nat) (A4:Option Addr) (c4:Nat) (A5:Option Addr) (c5:Nat) (w:World)
  (hr3:Kd.C (Kd.int .u8) w A3 p.f3.length p.f3) (hc3:p.f3.length≤c3) (hr4:Kd.C (Kd.int .i64) w A4 p.f4.length p.f4) (hc4:p.f4.length≤c4) (hr5:Kd.C k79 w A5 p.f5.length p.f5) (hc5:p.f5.length≤c5)
  (hw:wfP p) (h0:encV p=0) :
  Calls Tryz.prog 15 #[.agg #[.int .i64 p.f0,.int .i64 p.f1,.int .i64 p.f2,.slice A3 p.f3.length c3,.slice A4 p.f4.length c4,.slice A5 p.f5.length c5]] w fun e w'=>∃ g,e=.returned (.tuple #[.pointer (some ⟨g,0,none⟩),.int .i64 0])∧Gr w' g w.heap.size p∧Below w.heap.size w w':=by
 obtain ⟨r,hr⟩:=enc_f p hw.1;rw [h0] at hr;have hs:=(z2p.1 h0).1;exact new_yes p A3 c3 A4 c4 A5 c5 w 700 r hr3 hc3 hr4 hc4 hr5 hc5 (by have:=hs.1;have:=hs.2.2.2.1;omega) (by have:=hs.2.2.2.2.1;omega) (by have:=hs.2.2.2.2.2.2.2.2;omega) hr
def p20:Im:=⟨0,1,0,[],[0,2],[⟨23,0,0,0,1⟩,⟨0,0,0,0,0⟩,⟨24,0,0,0,0⟩]⟩
theorem p20_wf:wfP p20:=⟨by unfold wfF p20;decide,by unfold p20;decide⟩
theorem p20_enc:encV p20=0:=z2p.2 ⟨by unfold z2m p20;decide +kernel,by unfold p20;decide +kernel,by unfold p20;decide +kernel⟩
theorem p20_next:nextL p20 0=[2]∧nextL p20 2=[1]∧nextL p20 1=[]∧prevL p20 2=[0]:=by decide +kernel
theorem cell_add (w:World) (b n:Nat):w.cell? ((⟨b,0,none⟩:Addr).add n)=w.cell? ⟨b,n,none⟩:=by
 unfold Addr.add
 split
 ·rename_i h
  rw [h]
 ·simp
theorem C_lit {α:Type} (d:Kd α) {w:World} {b:Nat} {cs:Array Value} {t:TypeId} (hb:w.heap[b]?=some (.cells cs t (0,0))) (xs:List α) (hl:xs.length≤1000)
  (h:∀ j p,xs[j]?=some p→∃ c,c.length=d.sz∧d.K w p c∧∀ i u,c[i]?=some u→cs[j * d.sz+i]?=some u):d.C w (some ⟨b,0,none⟩) xs.length xs :=
 ⟨rfl,by omega,fun _=>⟨_,rfl,fun j p hj=>by
  obtain ⟨c,h1,h2,h3⟩:=h j p hj;exact ⟨c,h1,h2,fun i u hu=>by rw [cell_add];exact (z01 hb _).trans (h3 i u hu)⟩⟩⟩
theorem ints_lit {w:World} {b:Nat} {t:TypeId} (xs:List Int) (hl:xs.length≤1000) (hb:w.heap[b]?=some (.cells (xs.map (Value.int .i64)).toArray t (0,0))):Kd.C (Kd.int .i64) w (some ⟨b,0,none⟩) xs.length xs :=
 C_lit _ hb xs hl fun j p hj=>⟨[.int .i64 p],rfl,rfl,fun i u hu=>by
  rcases i with _|i
  ·show (xs.map (Value.int .i64)).toArray[j * 1+0]?=_;rw [Nat.mul_one,Nat.add_zero,List.getElem?_toArray,List.getElem?_map,hj];exact hu
  ·simp at hu⟩
theorem code20_lit {w:World} {b:Nat} (hb:w.heap[b]?=some (.cells #[.int .i64 23,.int .i64 0,.int .i64 0,.int .i64 0,.int .u64 1,.int .i64 0,.int .i64 0,.int .i64 0,.int .i64 0,.int .u64 0,.int .i64 24,.int .i64 0,.int .i64 0,.int .i64 0,.int .u64 0] 79 (0,0))) :
  Kd.C k79 w (some ⟨b,0,none⟩) p20.f5.length p20.f5 :=
 C_lit _ hb p20.f5 (by decide) fun j p hj=>by
  rcases j with _|_|_|j
  ·obtain rfl:(⟨23,0,0,0,1⟩:In)=p:=by simpa [p20] using hj
   exact ⟨_,rfl,k79_mk w _,fun i u hu=>by rcases i with _|_|_|_|_|i <;> first|exact hu|simp at hu⟩
  ·obtain rfl:(⟨0,0,0,0,0⟩:In)=p:=by simpa [p20] using hj
   exact ⟨_,rfl,k79_mk w _,fun i u hu=>by rcases i with _|_|_|_|_|i <;> first|exact hu|simp at hu⟩
  ·obtain rfl:(⟨24,0,0,0,0⟩:In)=p:=by simpa [p20] using hj
   exact ⟨_,rfl,k79_mk w _,fun i u hu=>by rcases i with _|_|_|_|_|i <;> first|exact hu|simp at hu⟩
  ·simp [p20] at hj
theorem p20_rt:Rt p20:=encV_rt p20_wf p20_enc
theorem ints_calls {a b:List Int} {A B:Option Addr} {cA cB:Nat} {w:World} (r:Bool) (hA:Kd.C (Kd.int .i64) w A a.length a) (hcA:a.length≤cA) (hB:Kd.C (Kd.int .i64) w B b.length b) (hcB:b.length≤cB) (hs:a.length≤1000000) (hr:(a == b)=r) :
  Calls Tryz.prog 19 #[.slice A a.length cA,.slice B b.length cB] w fun e w'=>e=.returned (.bool r)∧Drawn0 w w' :=
 z0x.calls (a.length+1) A cA a B cB b r w hA hcA hB hcB (by rw [ints_f a b (by omega),hr])
theorem fr_below {w0 w w':World} {g B:Nat} (h:Fr w w' (fun i=>i=g)) (hb:Below B w0 w) (hB:B≤w.heap.size) (hg:B≤g):Below B w0 w':=h.below hb hB fun i hi=>by omega
theorem outL_len (p:Im) (hn:p.f5.length≤256) (x:Int):(outL p x).length≤256:=by
 unfold outL
 split
 ·dsimp only
  repeat' split
  all_goals first
   | (simp;done)
   | (rw [List.length_map];exact Nat.le_trans (List.length_filter_le _ _) (by rw [z2z];exact hn))
 ·simp
theorem ins1_len (y:Int):∀ l:List Int,(ins1 y l).length≤l.length+1
 | []=>by simp [ins1]
 | a :: r=>by
  unfold ins1
  split
  ·simp
  ·split
   ·simp
   ·have:=ins1_len y r;simp;omega
theorem uniq_len:∀ l:List Int,(uniq l).length≤l.length
 | []=>by simp [uniq]
 | a :: r=>by
  have h1:=uniq_len r;have h2:=ins1_len a (uniq r);show (ins1 a (uniq r)).length≤_;simp;omega
theorem next_len (p:Im) (hn:p.f5.length≤256) (x:Int):(nextL p x).length≤256:=Nat.le_trans (uniq_len _) (outL_len p hn x)
theorem prev_len (p:Im) (hn:p.f5.length≤256) (x:Int):(prevL p x).length≤256:=Nat.le_trans (List.length_filter_le _ _) (by rw [z2z];exact hn)
theorem r_gr {w w':World} {g B base:Nat} {p:Im} {v:Value} {l:List Int} (h:Kd.R (Kd.int .i64) 3 w base (fun _=>True) v l) (hg:Gr w g B p) (hf:Fr w w' (fun i=>i=g)):Kd.R (Kd.int .i64) 3 w' base (fun _=>True) v l :=
 z38 rfl h fun k hk=>by
  obtain ⟨c,hc⟩:=Kd.R_typed h k hk;obtain ⟨c',hc'⟩:=hg.typed;exact hf.block k (z0v hc) fun e=>by
   rw [e,hc'] at hc;injection hc with hc
   injection hc with _ hc
   exact absurd hc (by decide)
structure Cs (n1:Nat) (W1:World) (g BB:Nat) (p:Im) (v1 v2:Value) (l1 l2:List Int) (W:World):Prop where
 sz:n1≤W.heap.size
 gr:Gr W g BB p
 bel:Below n1 W1 W
 r1:Kd.R (Kd.int .i64) 3 W 0 (fun _=>True) v1 l1
 r2:Kd.R (Kd.int .i64) 3 W 0 (fun _=>True) v2 l2
theorem r_below {w w':World} {base:Nat} {v:Value} {l:List Int} (h:Kd.R (Kd.int .i64) 3 w base (fun _=>True) v l) (hb:Below w.heap.size w w'):Kd.R (Kd.int .i64) 3 w' base (fun _=>True) v l :=
 z38 rfl h fun k hk=>by
  obtain ⟨c,hc⟩:=Kd.R_typed h k hk;exact hb.block k (z0v hc)
section
variable {n1 g BB:Nat} {W1 W W':World} {p:Im} {v1 v2:Value} {l1 l2:List Int}
theorem Cs.below (h:Cs n1 W1 g BB p v1 v2 l1 l2 W) (hb:Below W.heap.size W W'):Cs n1 W1 g BB p v1 v2 l1 l2 W':=⟨Nat.le_trans h.sz hb.size,h.gr.below hb,z0y h.bel h.sz hb,r_below h.r1 hb,r_below h.r2 hb⟩
theorem Cs.fr (h:Cs n1 W1 g BB p v1 v2 l1 l2 W) (hm:GrM W' g BB p) (hf:Fr W W' (fun i=>i=g)) (hg:n1≤g):Cs n1 W1 g BB p v1 v2 l1 l2 W' :=
 ⟨Nat.le_trans h.sz hf.size,hm.gr,fr_below hf h.bel h.sz hg,r_gr h.r1 h.gr hf,r_gr h.r2 h.gr hf⟩
end
theorem rd_mem {l:List Int} {i:Nat} (hi:i < l.length):rd l (i:Int) ∈ l:=by
 unfold rd;rw [Int.toNat_natCast,List.getD_eq_getElem?_getD,List.getElem?_eq_getElem hi];exact List.getElem_mem hi
end Go.Proofs.YtcbnhfnnjkkceaaGreat.X
end
section
namespace Go.Proofs.YtcbnhfnnjkkceaaGreat.X
open Go.RowKit Go.Proofs.YtcbnhfnnjkkceaaGreatW.PrintWords Go.Proofs.YtcbnhfnnjkkceaaGreat.Gr
theorem add_add (a:Addr) (i j:Nat):(a.add i).add j=a.add (i+j):=by
 unfold Addr.add
 by_cases hi:i=0
 ·subst hi;simp
 ·rw [if_neg hi]
  by_cases hj:j=0
  ·subst hj;simp [hi]
  ·rw [if_neg hj,if_neg (by omega)];simp [Nat.add_assoc]
theorem open_K {α H:Type} (dk:Kd α) {enc:TypeId × Value→H} {P:Program} {W:World} {t e:TypeId} {fuel:Nat} {cs:List Value} {y:DataW H × List MemPlace} (Q:α→Prop) (ht:P.underlying t=some (.slice e)) (hc:P.cellsOf e=dk.sz)
  (hel:∀ n cs' y,DataW.trod enc P W 0 (fun _=>true) true n e cs'=some y→∃ x,dk.K W x cs'∧Q x)
  (h:DataW.trod enc P W 0 (fun _=>true) true fuel t cs=some y) :
  ∃ (A:Option Addr) (cap:Nat) (xs:List α),cs=[.slice A xs.length cap]∧dk.C W A xs.length xs∧xs.length≤cap∧∀ x ∈ xs,Q x:=by
 rcases Deep.open_slice ht h with ⟨h1,_⟩|⟨a,len,cap,m,n,D,Pl,h1,_,hl,hm,hmm,_,hx⟩
 ·exact ⟨none,0,[],h1,Kd.C_nil dk W,Nat.le_refl _,by simp⟩
 ·have hM:maxLen≤9223372036854775807:=by decide
  have hmm:m=cap:=hmm;have hex:∀ i,i < len→∃ x,(∃ cs',W.cells? 0 (a.add (i * dk.sz)) dk.sz=some cs'∧dk.K W x cs')∧Q x:=fun i hi=>by
   obtain ⟨cs',hcs,htr⟩:=hx i (by omega);rw [hc] at hcs;obtain ⟨x,hk,hq⟩:=hel n cs' _ htr;exact ⟨x,⟨cs',hcs,hk⟩,hq⟩
  have hlist:∀ k,k≤len→∃ xs:List α,xs.length=k∧∀ i x,xs[i]?=some x→(∃ cs',W.cells? 0 (a.add (i * dk.sz)) dk.sz=some cs'∧dk.K W x cs')∧Q x:=by
   intro k
   induction k with
   | zero=>exact fun _=>⟨[],rfl,fun i x hi=>by simp at hi⟩
   | succ k ih =>
    intro hk;obtain ⟨xs,hxl,hxs⟩:=ih (by omega);obtain ⟨x,hx'⟩:=hex k (by omega);refine ⟨xs ++ [x],by simp [hxl],fun i z hi=>?_⟩
    by_cases e:i < k
    ·rw [List.getElem?_append_left (by omega)] at hi;exact hxs i z hi
    ·rw [List.getElem?_append_right (by omega)] at hi;have hik:i - xs.length=0:=by
      have:=(List.getElem?_eq_some_iff.1 hi).1;simp at this;omega
     rw [hik] at hi;obtain rfl:x=z:=by simpa using hi
     obtain rfl:i=k:=by omega
     exact hx'
  obtain ⟨xs,hxl,hxs⟩:=hlist len (Nat.le_refl _);refine ⟨some a,cap,xs,by rw [hxl];exact h1,⟨rfl,by omega,fun _=>⟨a,rfl,fun j p hj=>?_⟩⟩,by omega,fun x hx1=>?_⟩
  ·obtain ⟨⟨cs',hcs,hk⟩,_⟩:=hxs j p hj;obtain ⟨_,hcl,hce⟩:=World.cells?_some hcs;refine ⟨cs',hcl,hk,fun i u hu=>?_⟩;have hi:i < dk.sz:=by have:=(List.getElem?_eq_some_iff.1 hu).1;omega
   rw [← add_add];exact (hce i hi).trans hu
  ·obtain ⟨i,hi⟩:=List.getElem?_of_mem hx1;exact (hxs i x hi).2
theorem lit_i64 {n:Int} (h:(Lit.int .i64 n).wf=true):-9223372036854775808≤n∧n≤9223372036854775807:=by
 simpa [Lit.wf,IntKind.min,IntKind.max,IntKind.bits,IntKind.signed] using h
theorem lit_u64 {n:Int} (h:(Lit.int .u64 n).wf=true):0≤n:=by
 have:0≤n∧n≤18446744073709551615:=by simpa [Lit.wf,IntKind.min,IntKind.max,IntKind.bits,IntKind.signed] using h
 exact this.1
theorem array6 {α:Type} {cs:Array α} (h:cs.size=6):∃ c0 c1 c2 c3 c4 c5,cs=#[c0,c1,c2,c3,c4,c5]:=by
 obtain ⟨l⟩:=cs
 match l,h with
 | [c0,c1,c2,c3,c4,c5],_=>exact ⟨c0,c1,c2,c3,c4,c5,rfl⟩
theorem list5 {α:Type} {cs:List α} (h:cs.length=5):∃ c0 c1 c2 c3 c4,cs=[c0,c1,c2,c3,c4]:=by
 match cs,h with
 | [c0,c1,c2,c3,c4],_=>exact ⟨c0,c1,c2,c3,c4,rfl⟩
theorem ci_int:Tryz.prog.cellsOf 3=1:=by kernel_rfl
theorem ci_u8:Tryz.prog.cellsOf 5=1:=by kernel_rfl
theorem ci_u64:Tryz.prog.cellsOf 43=1:=by kernel_rfl
theorem ci_bs:Tryz.prog.cellsOf 22=1:=by kernel_rfl
theorem ci_is:Tryz.prog.cellsOf 23=1:=by kernel_rfl
theorem ci_cs:Tryz.prog.cellsOf 24=1:=by kernel_rfl
theorem ci_ins:Tryz.prog.cellsOf 79=5:=by kernel_rfl
theorem ci_im:Tryz.prog.cellsOf 26=6:=by kernel_rfl
section
variable {H:Type} {enc:TypeId × Value→H} {W:World}
theorem el_ins (n:Nat) (cs:List Value) (y:DataW H × List MemPlace) (h:DataW.trod enc Tryz.prog W 0 (fun _=>true) true n 79 cs=some y):∃ x,k79.K W x cs∧0≤x.f4:=by
 obtain ⟨xs,m,_,_,hl,hn,hf⟩:=DataW.trod_struct Tryz.underlying79 h;rw [ci_ins] at hl;obtain ⟨c0,c1,c2,c3,c4,rfl⟩:=list5 hl
 match xs,hn with
 | [y0,y1,y2,y3,y4],_ =>
  have h0:=hf 0 _ rfl;have h1:=hf 1 _ rfl;have h2:=hf 2 _ rfl;have h3:=hf 3 _ rfl;have h4:=hf 4 _ rfl;simp only [ci_int,ci_u64,List.drop_zero,List.drop_succ_cons,List.take_succ_cons,List.take_zero,List.getElem?_cons_zero,List.getElem?_cons_succ] at h0 h1 h2 h3 h4;obtain ⟨a0,e0,_,_⟩:=DataW.trod_int Tryz.underlying3 h0;obtain ⟨a1,e1,_,_⟩:=DataW.trod_int Tryz.underlying3 h1;obtain ⟨a2,e2,_,_⟩:=DataW.trod_int Tryz.underlying3 h2;obtain ⟨a3,e3,_,_⟩:=DataW.trod_int Tryz.underlying3 h3;obtain ⟨a4,e4,_,w4⟩:=DataW.trod_int Tryz.underlying43 h4;cases e0;cases e1;cases e2;cases e3;cases e4;exact ⟨⟨a0,a1,a2,a3,a4⟩,k79_mk W _,lit_u64 w4⟩
theorem el_int (n:Nat) (cs:List Value) (y:DataW H × List MemPlace) (h:DataW.trod enc Tryz.prog W 0 (fun _=>true) true n 3 cs=some y):∃ x,(Kd.int .i64).K W x cs∧(-9223372036854775808≤x∧x≤9223372036854775807):=by
 obtain ⟨a,e,_,w⟩:=DataW.trod_int Tryz.underlying3 h;exact ⟨a,e,lit_i64 w⟩
theorem el_u8 (n:Nat) (cs:List Value) (y:DataW H × List MemPlace) (h:DataW.trod enc Tryz.prog W 0 (fun _=>true) true n 5 cs=some y):∃ x,(Kd.int .u8).K W x cs∧True:=by
 obtain ⟨a,e,_,w⟩:=DataW.trod_int Tryz.underlying5 h;exact ⟨a,e,trivial⟩
theorem open_image {r:Reach} {base:Nat} {v:Value} {d:DataW H} {ps:List MemPlace} (hv:Value.okWide Tryz.prog W r base 26 v) (h:DataW.Trod enc Tryz.prog W 0 (fun _=>true) true 26 v d ps) :
  ∃ (p:Im) (A3:Option Addr) (c3:Nat) (A4:Option Addr) (c4:Nat) (A5:Option Addr) (c5:Nat),v=.agg #[.int .i64 p.f0,.int .i64 p.f1,.int .i64 p.f2,.slice A3 p.f3.length c3,.slice A4 p.f4.length c4,.slice A5 p.f5.length c5] ∧
   Kd.C (Kd.int .u8) W A3 p.f3.length p.f3∧p.f3.length≤c3∧Kd.C (Kd.int .i64) W A4 p.f4.length p.f4∧p.f4.length≤c4∧Kd.C k79 W A5 p.f5.length p.f5∧p.f5.length≤c5∧wfP p:=by
 obtain ⟨cs,rfl,hsz⟩:=Go.WideShapes.okWide_struct Tryz.underlying26 hv;rw [ci_im] at hsz;obtain ⟨x0,x1,x2,x3,x4,x5,rfl⟩:=array6 hsz;obtain ⟨fuel,hfu⟩:=h;obtain ⟨xs,m,_,_,hl,hn,hf⟩:=DataW.trod_struct Tryz.underlying26 hfu
 match xs,hn with
 | [y0,y1,y2,y3,y4,y5],_ =>
  have h0:=hf 0 _ rfl;have h1:=hf 1 _ rfl;have h2:=hf 2 _ rfl;have h3:=hf 3 _ rfl;have h4:=hf 4 _ rfl;have h5:=hf 5 _ rfl;simp only [Value.cells,ci_int,ci_bs,ci_is,ci_cs,List.drop_zero,List.drop_succ_cons,List.take_succ_cons,List.take_zero,List.getElem?_cons_zero,List.getElem?_cons_succ] at h0 h1 h2 h3 h4 h5;obtain ⟨a0,e0,_,_⟩:=DataW.trod_int Tryz.underlying3 h0;obtain ⟨a1,e1,_,_⟩:=DataW.trod_int Tryz.underlying3 h1;obtain ⟨a2,e2,_,_⟩:=DataW.trod_int Tryz.underlying3 h2;obtain ⟨A3,c3,l3,e3,hC3,hc3,_⟩:=open_K (Kd.int .u8) _ Tryz.underlying22 ci_u8 el_u8 h3;obtain ⟨A4,c4,l4,e4,hC4,hc4,hw4⟩:=open_K (Kd.int .i64) _ Tryz.underlying23 ci_int el_int h4;obtain ⟨A5,c5,l5,e5,hC5,hc5,hw5⟩:=open_K k79 _ Tryz.underlying24 ci_ins el_ins h5;cases e0;cases e1;cases e2;cases e3;cases e4;cases e5;exact ⟨⟨a0,a1,a2,l3,l4,l5⟩,A3,c3,A4,c4,A5,c5,rfl,hC3,hc3,hC4,hc4,hC5,hc5,hw4,hw5⟩
end
end Go.Proofs.YtcbnhfnnjkkceaaGreat.X
end
section
namespace Go.Proofs.YtcbnhfnnjkkceaaGreat.X
open Go.RowKit Go.Proofs.YtcbnhfnnjkkceaaGreatW.PrintWords Go.Proofs.YtcbnhfnnjkkceaaGreatW.PrintLast Go.Proofs.YtcbnhfnnjkkceaaGreatW.PrintMore Go.Proofs.YtcbnhfnnjkkceaaGreat.Gr
section
open Go.WideShapes Go.ChangeShapes
theorem open_bytes {H:Type} {enc:TypeId × Value→H} {W:World} {r:Reach} {base:Nat} {v:Value} {d:DataW H} {ps:List MemPlace} (hv:Value.okWide Tryz.prog W r base 22 v) (h:DataW.Trod enc Tryz.prog W 0 (fun _=>true) true 22 v d ps) :
  ∃ (l:List Int) (A:Option Addr) (c:Nat),v=.slice A l.length c∧Kd.C (Kd.int .u8) W A l.length l∧l.length≤c:=by
 obtain ⟨a,len,cap,rfl⟩:=okWide_slice Tryz.underlying22 hv;obtain ⟨fuel,hfu⟩:=h;obtain ⟨A3,c3,l3,e3,hC3,hc3,_⟩:=open_K (Kd.int .u8) _ Tryz.underlying22 ci_u8 el_u8 hfu;have e3:[Value.slice a len cap]=[Value.slice A3 l3.length c3]:=e3;cases e3;exact ⟨l3,_,_,rfl,hC3,hc3⟩
end
structure GI (n1:Nat) (W1:World) (g BB:Nat) (p:Im) (bt pb po:Nat) (l:List Int) (tc:Array Value) (W:World):Prop where
 sz:n1≤W.heap.size
 gr:Gr W g BB p
 bel:Below n1 W1 W
 tr:W.heap[bt]?=some (.cells tc 46 (0,0))
 pth:∀ j:Nat,j < l.length→W.cell? ⟨pb,po+j,none⟩=some (.int .i64 (rd l (j:Int)))
 ne:n1≤g∧bt≠g∧pb≠g∧pb < W.heap.size
section
variable {n1:Nat} {W1 W W':World} {g BB bt pb po:Nat} {p:Im} {l:List Int} {tc:Array Value}
theorem GI.below (h:GI n1 W1 g BB p bt pb po l tc W) (hb:Below W.heap.size W W'):GI n1 W1 g BB p bt pb po l tc W' :=
 ⟨Nat.le_trans h.sz hb.size,h.gr.below hb,z0y h.bel h.sz hb,z0t h.tr hb,fun j hj=>(World.cell?_of_block (a:=⟨pb,po+j,none⟩) (hb.block pb h.ne.2.2.2)).trans (h.pth j hj),h.ne.1,h.ne.2.1,h.ne.2.2.1,Nat.lt_of_lt_of_le h.ne.2.2.2 hb.size⟩
theorem GI.fr (h:GI n1 W1 g BB p bt pb po l tc W) (hg:Gr W' g BB p) (hf:Fr W W' (fun i=>i=g)):GI n1 W1 g BB p bt pb po l tc W' :=
 ⟨Nat.le_trans h.sz hf.size,hg,hf.below h.bel h.sz fun i (hi:i=g)=>by rw [hi];exact h.ne.1,(hf.block bt (z0v h.tr) h.ne.2.1).trans h.tr,fun j hj=>(World.cell?_of_block (a:=⟨pb,po+j,none⟩) (hf.block pb h.ne.2.2.2 h.ne.2.2.1)).trans (h.pth j hj),h.ne.1,h.ne.2.1,h.ne.2.2.1,Nat.lt_of_lt_of_le h.ne.2.2.2 hf.size⟩
end
theorem bel_alloc {B:Nat} {w0 w:World} (h:Below B w0 w) (hB:B≤w.heap.size) (o:Obj):Below B w0 (w.alloc o):=z0y h hB (z04 (Below.refl _ _) o)
theorem HSZ5 {n:Nat} {W1 w5:World} (h:Below n W1 w5) (hs:W1.heap.size=n):n≤w5.heap.size:=by rw [← hs];exact h.size
theorem rd_get {l:List Int} {j:Nat} (hj:j < l.length):rd l (j:Int)=l[j]:=by
 unfold rd;rw [Int.toNat_natCast,List.getD_eq_getElem?_getD,List.getElem?_eq_getElem hj];rfl
theorem rd_map {tr:List (Int × List Int)} {i:Nat} {s:Int × List Int} (h:tr[i]?=some s):rd (tr.map (·.1)) (i:Int)=s.1:=by
 have hi:=(List.getElem?_eq_some_iff.1 h).1;rw [rd_get (by simpa using hi),List.getElem_map];rw [(List.getElem?_eq_some_iff.1 h).2]
theorem tr_next {p:Im} (hw:wfP p) (hE:encV p=0) {tr:List (Int × List Int)} (h:Tr p tr) {j:Nat} (hj:j+1 < tr.length) :
  0≤rd (tr.map (·.1)) (j:Int)∧rd (tr.map (·.1)) (j:Int) < p.f5.length∧rd (tr.map (·.1)) ((j+1:Nat):Int) ∈ nextL p (rd (tr.map (·.1)) (j:Int)):=by
 obtain ⟨a,ha⟩:∃ a,tr[j]?=some a:=⟨_,List.getElem?_eq_getElem (by omega)⟩;obtain ⟨b,hb⟩:∃ b,tr[j+1]?=some b:=⟨_,List.getElem?_eq_getElem hj⟩;rw [rd_map ha,rd_map hb];exact h.next hw hE j a b ha hb
theorem que_path {w:World} {ok:Nat→Prop} {v:Value} {l:List Int} (h:Que w ok v l) (hl:1≤l.length):∃ pb po cp,v=.slice (some ⟨pb,po,none⟩) l.length cp∧ok pb∧pb < w.heap.size∧∀ j:Nat,j < l.length→w.cell? ⟨pb,po+j,none⟩=some (.int .i64 (rd l (j:Int))):=by
 obtain ⟨ao,cap,e,hle,hmax,hq⟩:=h;obtain ⟨b,off,rfl,hk,hlt,h1,h2⟩:=hq (by omega);exact ⟨b,off,cap,e,hk,hlt,fun j hj=>by rw [rd_get hj];exact h1 j hj⟩
end Go.Proofs.YtcbnhfnnjkkceaaGreat.X
end
section
namespace Go.Proofs.YtcbnhfnnjkkceaaGreat.X
open Go.RowKit Go.Proofs.YtcbnhfnnjkkceaaGreatW.PrintWords Go.Proofs.YtcbnhfnnjkkceaaGreatW.PrintLast Go.Proofs.YtcbnhfnnjkkceaaGreatW.PrintMore
attribute [local go_sem] z1y z1z z2c z2d z1t z1s z21 z20
mutual
def z0e.j0:Nat→Int→Bool→Option (ByteArray)
 | 0,_,_=>none
 | k+1,x3,x4=>if x4=true then (some (⟨#[]⟩:ByteArray)) else (if x3=1 then (z0e.j1 k x3 (x3 == 1)) else (z0e.j1 k x3 (x3 == 22)))
def z0e.j1:Nat→Int→Bool→Option (ByteArray)
 | 0,_,_=>none
 | k+1,x3,x8=>if x8=true then (some (⟨#[97,105]⟩:ByteArray)) else (if x3=2 then (some (⟨#[97,98]⟩:ByteArray)) else (if x3=17 then (z0e.j2 k x3 (x3 == 17)) else (z0e.j2 k x3 (x3 == 18))))
def z0e.j2:Nat→Int→Bool→Option (ByteArray)
 | 0,_,_=>none
 | k+1,x3,x13=>if x13=true then (some (⟨#[97,98,119,105]⟩:ByteArray)) else (if x3=19 then (some (⟨#[97,98,105]⟩:ByteArray)) else (if x3=20 then (some (⟨#[97]⟩:ByteArray)) else (if x3=21 then (some (⟨#[105]⟩:ByteArray)) else (if x3=23 then (some (⟨#[105]⟩:ByteArray)) else (some (⟨#[97,98,99]⟩:ByteArray))))))
end
def z0e.f (k:Nat) (a0:Int):Option (ByteArray):=if a0=0 then (z0e.j0 k a0 (a0 == 0)) else (if a0=24 then (z0e.j0 k a0 (a0 == 24)) else (z0e.j0 k a0 (a0 == 25)))
theorem z0e.mono_l:∀ k,(∀ y0 y1,LeO (z0e.j0 k y0 y1) (z0e.j0 (k+1) y0 y1))∧(∀ y0 y1,LeO (z0e.j1 k y0 y1) (z0e.j1 (k+1) y0 y1))∧(∀ y0 y1,LeO (z0e.j2 k y0 y1) (z0e.j2 (k+1) y0 y1))
 | 0=>⟨fun _ _ r h=>by simp [z0e.j0] at h,fun _ _ r h=>by simp [z0e.j1] at h,fun _ _ r h=>by simp [z0e.j2] at h⟩
 | k+1=>by
  obtain ⟨ih0,ih1,ih2⟩:=z0e.mono_l k;refine ⟨?_,?_,?_⟩
  ·intro y0 y1;unfold z0e.j0
   repeat' first|exact ih0 _ _|exact ih1 _ _|exact ih2 _ _|exact LeO.none _|refine LeO.ite ?_ ?_|refine LeO.bind ?_ (fun _=>?_)|exact LeO.refl _
  ·intro y0 y1;unfold z0e.j1
   repeat' first|exact ih0 _ _|exact ih1 _ _|exact ih2 _ _|exact LeO.none _|refine LeO.ite ?_ ?_|refine LeO.bind ?_ (fun _=>?_)|exact LeO.refl _
  ·intro y0 y1;unfold z0e.j2
   repeat' first|exact ih0 _ _|exact ih1 _ _|exact ih2 _ _|exact LeO.none _|refine LeO.ite ?_ ?_|refine LeO.bind ?_ (fun _=>?_)|exact LeO.refl _
theorem z0e.mono:∀ a0 k,LeO (z0e.f k a0) (z0e.f (k+1) a0):=by
 intro a0 k;obtain ⟨ih0,ih1,ih2⟩:=z0e.mono_l k;unfold z0e.f
 repeat' first|exact ih0 _ _|exact ih1 _ _|exact ih2 _ _|exact LeO.none _|refine LeO.ite ?_ ?_|refine LeO.bind ?_ (fun _=>?_)|exact LeO.refl _
theorem z0e.calls (k:Nat) (a0:Int) (r:ByteArray) (w:World) (h:z0e.f k a0=some r) :
  Calls Tryz.prog 108 #[.int .i64 a0] w fun e w'=>e=.returned (.string r)∧Drawn0 w w':=by
 have H:(if a0=0 then (z0e.j0 k a0 (a0 == 0)) else (if a0=24 then (z0e.j0 k a0 (a0 == 24)) else (z0e.j0 k a0 (a0 == 25))))=some r:=h;clear h;have HC2:=Aside0.mk H;clear H
 go_enter Tryz.func108,Tryz.ntmps108
 go_upto_if 4 with (fail)
 go_cut [4] (fun v4 wc=>∃ (kq:Nat) (x4_1:Bool),v4=.bool x4_1∧Aside0 (z0e.j0 kq a0 x4_1=some r)∧Aside0 (kq≤k)∧Drawn0 w wc)
 case first =>
  have H:=HC2.out;clear HC2
  by_cases c3:a0=0
  ·rw [if_pos c3] at H;have c3b0:(a0 == 0)=true:=beq_iff_eq.mpr c3;have c3b1:(a0 != 0)=false:=bne_eq_false_iff_eq.mpr c3;clear c3
   (first|rw [c3b0]|(simp only [i64_w,i32_w];rw [c3b0])|skip)
   have H':=Aside0.mk H;clear H;go_wp2
   go_meet
   case rel=>exact ⟨_,((a0 == 0)),(by first|rfl|(simp;done)|(simp [*];done)),H',⟨by first|omega|exact Nat.le_refl _⟩,by repeat (first|exact Drawn0.refl _|apply Drawn0.step)⟩
  ·rw [if_neg c3] at H;have c3b0:(a0 == 0)=false:=beq_eq_false_iff_ne.mpr c3;have c3b1:(a0 != 0)=true:=bne_iff_ne.mpr c3
   (first|rw [c3b0]|(simp only [i64_w,i32_w];rw [c3b0])|skip)
   by_cases c4:a0=24
   ·rw [if_pos c4] at H;have c4b0:(a0 == 24)=true:=beq_iff_eq.mpr c4;have c4b1:(a0 != 24)=false:=bne_eq_false_iff_eq.mpr c4;clear c4;have H':=Aside0.mk H;clear H;go_wp2
    go_meet
    case rel=>exact ⟨_,((a0 == 24)),(by first|rfl|(simp;done)|(simp [*];done)),H',⟨by first|omega|exact Nat.le_refl _⟩,by repeat (first|exact Drawn0.refl _|apply Drawn0.step)⟩
   ·rw [if_neg c4] at H;have c4b0:(a0 == 24)=false:=beq_eq_false_iff_ne.mpr c4;have c4b1:(a0 != 24)=true:=bne_iff_ne.mpr c4;have H':=Aside0.mk H;clear H;go_wp2
    go_meet
    case rel=>exact ⟨_,((a0 == 25)),(by first|rfl|(simp;done)|(simp [*];done)),H',⟨by first|omega|exact Nat.le_refl _⟩,by repeat (first|exact Drawn0.refl _|apply Drawn0.step)⟩
 case rest =>
  clear HC2;obtain ⟨kq,x4_1,rfl,HA,HJ1,⟨mc1,rfl⟩⟩:=hcut;cases kq with
  | zero=>exact absurd HA.out (by simp [z0e.j0])
  | succ kj1 =>
   have H:=HA.out;clear HA;simp only [z0e.j0] at H
   by_cases c5:x4_1=true
   ·subst c5;have H1:(some (⟨#[]⟩:ByteArray))=some r:=(by rw [if_pos rfl] at H;exact H);clear H;have H:=H1;clear H1;obtain rfl:=Option.some.inj H;go_wp2;go_ret
    exact ⟨by first|rfl|(simp;done)|(simp [*];done),by repeat (first|exact Drawn0.refl _|apply Drawn0.step)⟩
   ·replace c5:=Bool.eq_false_iff.mpr c5;subst c5;have H1:(if a0=1 then (z0e.j1 kj1 a0 (a0 == 1)) else (z0e.j1 kj1 a0 (a0 == 22)))=some r:=(by rw [if_neg (show ¬ (false=true) by decide)] at H;exact H);clear H;have H:=H1;clear H1;have HC6:=Aside0.mk H;clear H
    go_upto_if 8 with (fail)
    go_cut [8] (fun v8 wc=>∃ (kq:Nat) (x8_5:Bool),v8=.bool x8_5∧Aside0 (z0e.j1 kq a0 x8_5=some r)∧Aside0 (kq≤kj1)∧Drawn0 w wc)
    case first =>
     have H:=HC6.out;clear HC6
     by_cases c7:a0=1
     ·rw [if_pos c7] at H;have c7b0:(a0 == 1)=true:=beq_iff_eq.mpr c7;have c7b1:(a0 != 1)=false:=bne_eq_false_iff_eq.mpr c7;clear c7
      (first|rw [c7b0]|(simp only [i64_w,i32_w];rw [c7b0])|skip)
      have H':=Aside0.mk H;clear H;go_wp2
      go_meet
      case rel=>exact ⟨_,((a0 == 1)),(by first|rfl|(simp;done)|(simp [*];done)),H',⟨by have:=HJ1.out;first|omega|exact Nat.le_refl _⟩,by repeat (first|exact Drawn0.refl _|apply Drawn0.step)⟩
     ·rw [if_neg c7] at H;have c7b0:(a0 == 1)=false:=beq_eq_false_iff_ne.mpr c7;have c7b1:(a0 != 1)=true:=bne_iff_ne.mpr c7
      (first|rw [c7b0]|(simp only [i64_w,i32_w];rw [c7b0])|skip)
      have H':=Aside0.mk H;clear H;go_wp2
      go_meet
      case rel=>exact ⟨_,((a0 == 22)),(by first|rfl|(simp;done)|(simp [*];done)),H',⟨by have:=HJ1.out;first|omega|exact Nat.le_refl _⟩,by repeat (first|exact Drawn0.refl _|apply Drawn0.step)⟩
    case rest =>
     clear HC6;obtain ⟨kq,x8_5,rfl,HA,HJ5,⟨mc5,rfl⟩⟩:=hcut;cases kq with
     | zero=>exact absurd HA.out (by simp [z0e.j1])
     | succ kj5 =>
      have H:=HA.out;clear HA;simp only [z0e.j1] at H
      by_cases c8:x8_5=true
      ·subst c8;have H1:(some (⟨#[97,105]⟩:ByteArray))=some r:=(by rw [if_pos rfl] at H;exact H);clear H;have H:=H1;clear H1;obtain rfl:=Option.some.inj H;go_wp2;go_ret
       exact ⟨by first|rfl|(simp;done)|(simp [*];done),by repeat (first|exact Drawn0.refl _|apply Drawn0.step)⟩
      ·replace c8:=Bool.eq_false_iff.mpr c8;subst c8;have H1:(if a0=2 then (some (⟨#[97,98]⟩:ByteArray)) else (if a0=17 then (z0e.j2 kj5 a0 (a0 == 17)) else (z0e.j2 kj5 a0 (a0 == 18))))=some r:=(by rw [if_neg (show ¬ (false=true) by decide)] at H;exact H);clear H;have H:=H1;clear H1
       by_cases c9:a0=2
       ·rw [if_pos c9] at H;have c9b0:(a0 == 2)=true:=beq_iff_eq.mpr c9;have c9b1:(a0 != 2)=false:=bne_eq_false_iff_eq.mpr c9;clear c9;obtain rfl:=Option.some.inj H;go_wp2;go_ret
        exact ⟨by first|rfl|(simp;done)|(simp [*];done),by repeat (first|exact Drawn0.refl _|apply Drawn0.step)⟩
       ·rw [if_neg c9] at H;have c9b0:(a0 == 2)=false:=beq_eq_false_iff_ne.mpr c9;have c9b1:(a0 != 2)=true:=bne_iff_ne.mpr c9;have HC10:=Aside0.mk H;clear H
        go_upto_if 13 with (fail)
        go_cut [13] (fun v13 wc=>∃ (kq:Nat) (x13_9:Bool),v13=.bool x13_9∧Aside0 (z0e.j2 kq a0 x13_9=some r)∧Aside0 (kq≤kj5)∧Drawn0 w wc)
        case first =>
         have H:=HC10.out;clear HC10
         by_cases c11:a0=17
         ·rw [if_pos c11] at H;have c11b0:(a0 == 17)=true:=beq_iff_eq.mpr c11;have c11b1:(a0 != 17)=false:=bne_eq_false_iff_eq.mpr c11;clear c11
          (first|rw [c11b0]|(simp only [i64_w,i32_w];rw [c11b0])|skip)
          have H':=Aside0.mk H;clear H;go_wp2
          go_meet
          case rel=>exact ⟨_,((a0 == 17)),(by first|rfl|(simp;done)|(simp [*];done)),H',⟨by have:=HJ1.out;have:=HJ5.out;first|omega|exact Nat.le_refl _⟩,by repeat (first|exact Drawn0.refl _|apply Drawn0.step)⟩
         ·rw [if_neg c11] at H;have c11b0:(a0 == 17)=false:=beq_eq_false_iff_ne.mpr c11;have c11b1:(a0 != 17)=true:=bne_iff_ne.mpr c11
          (first|rw [c11b0]|(simp only [i64_w,i32_w];rw [c11b0])|skip)
          have H':=Aside0.mk H;clear H;go_wp2
          go_meet
          case rel=>exact ⟨_,((a0 == 18)),(by first|rfl|(simp;done)|(simp [*];done)),H',⟨by have:=HJ1.out;have:=HJ5.out;first|omega|exact Nat.le_refl _⟩,by repeat (first|exact Drawn0.refl _|apply Drawn0.step)⟩
        case rest =>
         clear HC10;obtain ⟨kq,x13_9,rfl,HA,HJ9,⟨mc9,rfl⟩⟩:=hcut;cases kq with
         | zero=>exact absurd HA.out (by simp [z0e.j2])
         | succ kj9 =>
          have H:=HA.out;clear HA;simp only [z0e.j2] at H
          by_cases c12:x13_9=true
          ·subst c12;have H1:(some (⟨#[97,98,119,105]⟩:ByteArray))=some r:=(by rw [if_pos rfl] at H;exact H);clear H;have H:=H1;clear H1;obtain rfl:=Option.some.inj H;go_wp2;go_ret
           exact ⟨by first|rfl|(simp;done)|(simp [*];done),by repeat (first|exact Drawn0.refl _|apply Drawn0.step)⟩
          ·replace c12:=Bool.eq_false_iff.mpr c12;subst c12;have H1:(if a0=19 then (some (⟨#[97,98,105]⟩:ByteArray)) else (if a0=20 then (some (⟨#[97]⟩:ByteArray)) else (if a0=21 then (some (⟨#[105]⟩:ByteArray)) else (if a0=23 then (some (⟨#[105]⟩:ByteArray)) else (some (⟨#[97,98,99]⟩:ByteArray))))))=some r:=(by rw [if_neg (show ¬ (false=true) by decide)] at H;exact H);clear H;have H:=H1;clear H1
           by_cases c13:a0=19
           ·rw [if_pos c13] at H;have c13b0:(a0 == 19)=true:=beq_iff_eq.mpr c13;have c13b1:(a0 != 19)=false:=bne_eq_false_iff_eq.mpr c13;clear c13;obtain rfl:=Option.some.inj H;go_wp2;go_ret
            exact ⟨by first|rfl|(simp;done)|(simp [*];done),by repeat (first|exact Drawn0.refl _|apply Drawn0.step)⟩
           ·rw [if_neg c13] at H;have c13b0:(a0 == 19)=false:=beq_eq_false_iff_ne.mpr c13;have c13b1:(a0 != 19)=true:=bne_iff_ne.mpr c13
            by_cases c14:a0=20
            ·rw [if_pos c14] at H;have c14b0:(a0 == 20)=true:=beq_iff_eq.mpr c14;have c14b1:(a0 != 20)=false:=bne_eq_false_iff_eq.mpr c14;clear c14;obtain rfl:=Option.some.inj H;go_wp2;go_ret
             exact ⟨by first|rfl|(simp;done)|(simp [*];done),by repeat (first|exact Drawn0.refl _|apply Drawn0.step)⟩
            ·rw [if_neg c14] at H;have c14b0:(a0 == 20)=false:=beq_eq_false_iff_ne.mpr c14;have c14b1:(a0 != 20)=true:=bne_iff_ne.mpr c14
             by_cases c15:a0=21
             ·rw [if_pos c15] at H;have c15b0:(a0 == 21)=true:=beq_iff_eq.mpr c15;have c15b1:(a0 != 21)=false:=bne_eq_false_iff_eq.mpr c15;clear c15;obtain rfl:=Option.some.inj H;go_wp2;go_ret
              exact ⟨by first|rfl|(simp;done)|(simp [*];done),by repeat (first|exact Drawn0.refl _|apply Drawn0.step)⟩
             ·rw [if_neg c15] at H;have c15b0:(a0 == 21)=false:=beq_eq_false_iff_ne.mpr c15;have c15b1:(a0 != 21)=true:=bne_iff_ne.mpr c15
              by_cases c16:a0=23
              ·rw [if_pos c16] at H;have c16b0:(a0 == 23)=true:=beq_iff_eq.mpr c16;have c16b1:(a0 != 23)=false:=bne_eq_false_iff_eq.mpr c16;clear c16;obtain rfl:=Option.some.inj H;go_wp2;go_ret
               exact ⟨by first|rfl|(simp;done)|(simp [*];done),by repeat (first|exact Drawn0.refl _|apply Drawn0.step)⟩
              ·rw [if_neg c16] at H;have c16b0:(a0 == 23)=false:=beq_eq_false_iff_ne.mpr c16;have c16b1:(a0 != 23)=true:=bne_iff_ne.mpr c16;obtain rfl:=Option.some.inj H;go_wp2;go_ret
               exact ⟨by first|rfl|(simp;done)|(simp [*];done),by repeat (first|exact Drawn0.refl _|apply Drawn0.step)⟩
def z0f.l0:Nat→ByteArray→Int→Int→Option (Bool)
 | 0,_,_,_=>none
 | k+1,x0,x1,x5=>if x5 < (x0.size:Int) then (if 0≤x5 then (if (bt x0 x5)=x1 then (some true) else (z0f.l0 k x0 x1 (wrap64 (x5+1)))) else (none)) else (some false)
def z0f.f (k:Nat) (a0:ByteArray) (a1:Int):Option (Bool):=z0f.l0 k a0 a1 0
theorem z0f.mono_l:∀ k,(∀ y0 y1 y2,LeO (z0f.l0 k y0 y1 y2) (z0f.l0 (k+1) y0 y1 y2))
 | 0=>fun _ _ _ r h=>by simp [z0f.l0] at h
 | k+1=>by
  have ih0:=z0f.mono_l k
  ·intro y0 y1 y2;unfold z0f.l0
   repeat' first|exact ih0 _ _ _|exact LeO.none _|refine LeO.ite ?_ ?_|refine LeO.bind ?_ (fun _=>?_)|exact LeO.refl _
theorem z0f.mono:∀ a0 a1 k,LeO (z0f.f k a0 a1) (z0f.f (k+1) a0 a1):=by
 intro a0 a1 k;have ih0:=z0f.mono_l k;unfold z0f.f
 repeat' first|exact ih0 _ _ _|exact LeO.none _|refine LeO.ite ?_ ?_|refine LeO.bind ?_ (fun _=>?_)|exact LeO.refl _
theorem z0f.calls (k:Nat) (a0:ByteArray) (a1:Int) (r:Bool) (w:World) (h:z0f.f k a0 a1=some r) :
  Calls Tryz.prog 110 #[.string a0,.int .u8 a1] w fun e w'=>e=.returned (.bool r)∧Drawn0 w w':=by
 have H:(z0f.l0 k a0 a1 0)=some r:=h;clear h;have H':=Aside0.mk H;clear H
 go_enter Tryz.func110,Tryz.ntmps110
 go_wp2
 go_loopg [5] k (fun kq v5 w'=>∃ (x5_1:Int),v5=.int .i64 x5_1∧Aside0 (z0f.l0 kq a0 a1 x5_1=some r)∧Aside0 (kq≤k)∧Drawn0 w w')
 case atStart=>exact ⟨(0),(by first|rfl|(simp;done)|(simp [*];done)),H',⟨Nat.le_refl _⟩,by repeat (first|exact Drawn0.refl _|apply Drawn0.step)⟩
 case round =>
  clear H';obtain ⟨x5_1,rfl,HA,HK1,⟨m1,rfl⟩⟩:=hrel;cases gk with
  | zero=>exact absurd HA.out (by simp [z0f.l0])
  | succ k1 =>
   have H:=HA.out;clear HA;simp only [z0f.l0] at H
   by_cases c3:x5_1 < (a0.size:Int)
   ·rw [if_pos c3] at H;have c3b0:decide (x5_1 < (a0.size:Int))=true:=decide_eq_true c3;clear c3
    by_cases c4:0≤x5_1
    ·rw [if_pos c4] at H;have c4b0:decide (0≤x5_1)=true:=decide_eq_true c4;clear c4
     by_cases c6:(bt a0 x5_1)=a1
     ·rw [if_pos c6] at H;have c6b0:((bt a0 x5_1) == a1)=true:=beq_iff_eq.mpr c6;have c6b1:((bt a0 x5_1) != a1)=false:=bne_eq_false_iff_eq.mpr c6;clear c6;obtain rfl:=Option.some.inj H;have p5:0≤(x5_1:Int):=of_decide_eq_true (by assumption);have q5:x5_1 < (a0.size:Int):=of_decide_eq_true (by assumption);have hx5:=bt_at a0 x5_1;replace p5:=eq_true p5;replace q5:=eq_true q5;go_wp2;go_ret
      exact ⟨by first|rfl|(simp;done)|(simp [*];done),by repeat (first|exact Drawn0.refl _|apply Drawn0.step)⟩
     ·rw [if_neg c6] at H;have c6b0:((bt a0 x5_1) == a1)=false:=beq_eq_false_iff_ne.mpr c6;have c6b1:((bt a0 x5_1) != a1)=true:=bne_iff_ne.mpr c6;have H':=Aside0.mk H;clear H;have p5:0≤(x5_1:Int):=of_decide_eq_true (by assumption);have q5:x5_1 < (a0.size:Int):=of_decide_eq_true (by assumption);have hx5:=bt_at a0 x5_1;replace p5:=eq_true p5;replace q5:=eq_true q5;go_wp2
      go_roundg k1
      case measure=>have:=HK1.out;omega
      case rel=>exact ⟨(wrap64 (x5_1+1)),(by first|rfl|(simp;done)|(simp [*];done)),H',⟨by have:=HK1.out;omega⟩,by repeat (first|exact Drawn0.refl _|apply Drawn0.step)⟩
    ·rw [if_neg c4] at H;exact absurd H (by simp)
   ·rw [if_neg c3] at H;have c3b0:decide (x5_1 < (a0.size:Int))=false:=decide_eq_false c3;clear c3;obtain rfl:=Option.some.inj H;go_wp2;go_ret
    exact ⟨by first|rfl|(simp;done)|(simp [*];done),by repeat (first|exact Drawn0.refl _|apply Drawn0.step)⟩
def z0h.f (k:Nat) (a0:ByteArray) (a1:Int) (a2:Int):Option (Bool):=(z0f.f k a0 a1).bind fun t195=>(if t195=true then (if a2 ≥ 0 then (some (decide (a2≤7))) else (some false)) else (some (a2 == 0)))
theorem z0h.mono:∀ a0 a1 a2 k,LeO (z0h.f k a0 a1 a2) (z0h.f (k+1) a0 a1 a2):=by
 intro a0 a1 a2 k;unfold z0h.f
 repeat' first|exact z0f.mono _ _ _|exact LeO.none _|refine LeO.ite ?_ ?_|refine LeO.bind ?_ (fun _=>?_)|exact LeO.refl _
theorem z0h.calls (k:Nat) (a0:ByteArray) (a1:Int) (a2:Int) (r:Bool) (w:World) (h:z0h.f k a0 a1 a2=some r) :
  Calls Tryz.prog 109 #[.string a0,.int .u8 a1,.int .i64 a2] w fun e w'=>e=.returned (.bool r)∧Drawn0 w w':=by
 have H:((z0f.f k a0 a1).bind fun t195=>(if t195=true then (if a2 ≥ 0 then (some (decide (a2≤7))) else (some false)) else (some (a2 == 0))))=some r:=h;clear h;replace H:=Option.bind_eq_some_iff.mp H;obtain ⟨t195,A40,H⟩:=H;skip;have A4:=Aside0.mk A40;clear A40
 by_cases c5:t195=true
 ·subst c5;rw [if_pos rfl] at H
  by_cases c6:a2 ≥ 0
  ·rw [if_pos c6] at H;have c6b0:decide (0≤a2)=true:=decide_eq_true c6;clear c6;obtain rfl:=Option.some.inj H
   go_enter Tryz.func109,Tryz.ntmps109
   go_wp2_with (first|((with_reducible refine z0u (f:=110) rfl ?_);refine z16 (some 9) rfl rfl Tryz.func110 (by kernel_rfl) rfl #[.string a0,.int .u8 a1] rfl (by (try simp only [List.map_toArray,List.map_cons,List.map_nil]);first|done|rfl) ?_;(with_reducible refine (z0f.calls k a0 a1 true _ A4.out).mono ?_);rintro e w' ⟨rfl,⟨nd,rfl⟩⟩;refine ⟨_,rfl,?_⟩))
   go_ret
   exact ⟨by first|rfl|(simp;done)|(simp [*];done),by repeat (first|exact Drawn0.refl _|apply Drawn0.step)⟩
  ·rw [if_neg c6] at H;have c6b0:decide (0≤a2)=false:=decide_eq_false c6;clear c6;obtain rfl:=Option.some.inj H
   go_enter Tryz.func109,Tryz.ntmps109
   go_wp2_with (first|((with_reducible refine z0u (f:=110) rfl ?_);refine z16 (some 9) rfl rfl Tryz.func110 (by kernel_rfl) rfl #[.string a0,.int .u8 a1] rfl (by (try simp only [List.map_toArray,List.map_cons,List.map_nil]);first|done|rfl) ?_;(with_reducible refine (z0f.calls k a0 a1 true _ A4.out).mono ?_);rintro e w' ⟨rfl,⟨nd,rfl⟩⟩;refine ⟨_,rfl,?_⟩))
   go_ret
   exact ⟨by first|rfl|(simp;done)|(simp [*];done),by repeat (first|exact Drawn0.refl _|apply Drawn0.step)⟩
 ·replace c5:=Bool.eq_false_iff.mpr c5;subst c5;rw [if_neg (show ¬ (false=true) by decide)] at H;obtain rfl:=Option.some.inj H
  go_enter Tryz.func109,Tryz.ntmps109
  go_wp2_with (first|((with_reducible refine z0u (f:=110) rfl ?_);refine z16 (some 9) rfl rfl Tryz.func110 (by kernel_rfl) rfl #[.string a0,.int .u8 a1] rfl (by (try simp only [List.map_toArray,List.map_cons,List.map_nil]);first|done|rfl) ?_;(with_reducible refine (z0f.calls k a0 a1 false _ A4.out).mono ?_);rintro e w' ⟨rfl,⟨nd,rfl⟩⟩;refine ⟨_,rfl,?_⟩))
  go_ret
  exact ⟨by first|rfl|(simp;done)|(simp [*];done),by repeat (first|exact Drawn0.refl _|apply Drawn0.step)⟩
attribute [local go_sem] z1y z1z z2c z2d z1t z1s z21 z20
mutual
def z0d.j0:Nat→Bool→Int→Int→Int→Int→Int→Option (Int)
 | 0,_,_,_,_,_,_=>none
 | k+1,x11,xaa,xab,xac,xad,xae=>if x11=true then (some 0) else ((z0e.f k xaa).bind fun t197=>((z0h.f k t197 97 xab).bind fun t198=>(if t198=true then ((z0h.f k t197 98 xac).bind fun t199=>(if t199=true then ((z0f.f k t197 119).bind fun t200=>(if t200=true then (if xad=1 then (z0d.j1 k t197 false xaa xab xac xad xae) else (if xad=2 then (z0d.j1 k t197 false xaa xab xac xad xae) else (if xad=4 then (z0d.j1 k t197 false xaa xab xac xad xae) else (z0d.j1 k t197 (xad != 8) xaa xab xac xad xae)))) else ((z0h.f k t197 99 xad).bind fun t202=>(if t202=true then ((z0f.f k t197 105).bind fun t203=>(if t203=true then (some (-1)) else (if xae=0 then (some (-1)) else (some 4)))) else (some 3))))) else (some 2))) else (some 1))))
def z0d.j1:Nat→ByteArray→Bool→Int→Int→Int→Int→Int→Option (Int)
 | 0,_,_,_,_,_,_,_=>none
 | k+1,x3,x44,xaa,xab,xac,xad,xae=>if x44=true then (some 3) else ((z0f.f k x3 105).bind fun t201=>(if t201=true then (some (-1)) else (if xae=0 then (some (-1)) else (some 4))))
end
def z0d.f (k:Nat) (a0_0:Int) (a0_1:Int) (a0_2:Int) (a0_3:Int) (a0_4:Int):Option (Int):=if a0_0 < 0 then (z0d.j0 k true a0_0 a0_1 a0_2 a0_3 a0_4) else (z0d.j0 k (decide (a0_0 > 25)) a0_0 a0_1 a0_2 a0_3 a0_4)
theorem z0d.mono_l:∀ k,(∀ y0 y1 y2 y3 y4 y5,LeO (z0d.j0 k y0 y1 y2 y3 y4 y5) (z0d.j0 (k+1) y0 y1 y2 y3 y4 y5))∧(∀ y0 y1 y2 y3 y4 y5 y6,LeO (z0d.j1 k y0 y1 y2 y3 y4 y5 y6) (z0d.j1 (k+1) y0 y1 y2 y3 y4 y5 y6))
 | 0=>⟨fun _ _ _ _ _ _ r h=>by simp [z0d.j0] at h,fun _ _ _ _ _ _ _ r h=>by simp [z0d.j1] at h⟩
 | k+1=>by
  obtain ⟨ih0,ih1⟩:=z0d.mono_l k;refine ⟨?_,?_⟩
  ·intro y0 y1 y2 y3 y4 y5;unfold z0d.j0
   repeat' first|exact ih0 _ _ _ _ _ _|exact ih1 _ _ _ _ _ _ _|exact z0e.mono _ _|exact z0f.mono _ _ _|exact z0h.mono _ _ _ _|exact LeO.none _|refine LeO.ite ?_ ?_|refine LeO.bind ?_ (fun _=>?_)|exact LeO.refl _
  ·intro y0 y1 y2 y3 y4 y5 y6;unfold z0d.j1
   repeat' first|exact ih0 _ _ _ _ _ _|exact ih1 _ _ _ _ _ _ _|exact z0e.mono _ _|exact z0f.mono _ _ _|exact z0h.mono _ _ _ _|exact LeO.none _|refine LeO.ite ?_ ?_|refine LeO.bind ?_ (fun _=>?_)|exact LeO.refl _
theorem z0d.mono:∀ a0 a1 a2 a3 a4 k,LeO (z0d.f k a0 a1 a2 a3 a4) (z0d.f (k+1) a0 a1 a2 a3 a4):=by
 intro a0 a1 a2 a3 a4 k;obtain ⟨ih0,ih1⟩:=z0d.mono_l k;unfold z0d.f
 repeat' first|exact ih0 _ _ _ _ _ _|exact ih1 _ _ _ _ _ _ _|exact z0e.mono _ _|exact z0f.mono _ _ _|exact z0h.mono _ _ _ _|exact LeO.none _|refine LeO.ite ?_ ?_|refine LeO.bind ?_ (fun _=>?_)|exact LeO.refl _
theorem z0d.calls (k:Nat) (a0_0:Int) (a0_1:Int) (a0_2:Int) (a0_3:Int) (a0_4:Int) (r:Int) (w:World) (h:z0d.f k a0_0 a0_1 a0_2 a0_3 a0_4=some r) :
  Calls Tryz.prog 85 #[.agg #[.int .i64 a0_0,.int .i64 a0_1,.int .i64 a0_2,.int .i64 a0_3,.int .u64 a0_4]] w fun e w'=>e=.returned (.int .i64 r)∧Below w.heap.size w w':=by
 have hu79:=Tryz.underlying79;have HB:=Aside0.mk (Below.refl w.heap.size w);have H:(if a0_0 < 0 then (z0d.j0 k true a0_0 a0_1 a0_2 a0_3 a0_4) else (z0d.j0 k (decide (a0_0 > 25)) a0_0 a0_1 a0_2 a0_3 a0_4))=some r:=h;clear h;have HC2:=Aside0.mk H;clear H
 go_enter Tryz.func85,Tryz.ntmps85
 go_upto_region 1 with (first|((with_reducible refine z14 (N:=1) rfl ?_);refine z1b ?hg (N:=1) ?hd (cs:=#[.int .i64 a0_0,.int .i64 a0_1,.int .i64 a0_2,.int .i64 a0_3,.int .u64 a0_4]) (t:=79) ?hr ?_;(case hd=>rfl);(case hg=>rfl);(case hr=>first|(go_simp;done)|(go_simp;rfl));intro gb196 hg w3 hbox hb;have n0_:=Aside0.mk (z0s (by repeat (first|exact HB.out|apply z04|apply z03|apply z05)) hb);have n1_:=Aside0.mk (hbox);have n2_:=Aside0.mk ((by rw [hg];exact (z0m (by repeat (first|exact HB.out|apply z04|apply z03|apply z05))):w.heap.size≤gb196));have n3_:=Aside0.mk ((by rw [hg];exact (z0m (by repeat (first|exact HB.out|apply z04|apply z03|apply z05))):w.heap.size≤gb196));clear HB;have HB:=n0_;have BK196:=n1_;have GW196:=n2_;have GE196:=n3_;clear n0_ n1_ n2_ n3_;clear hb hbox hg))
 (try simp only [Act.put,zq1,zq2,zq3])
 go_cut [11] (fun v11 wc=>∃ (kq:Nat) (x11_1:Bool),v11=.bool x11_1∧Aside0 (z0d.j0 kq x11_1 a0_0 a0_1 a0_2 a0_3 a0_4=some r)∧Aside0 (kq≤k)∧Aside0 (wc.heap[gb196]?=some (.cells #[.int .i64 a0_0,.int .i64 a0_1,.int .i64 a0_2,.int .i64 a0_3,.int .u64 a0_4] 79 (0,0)))∧Aside0 (Below w.heap.size w wc))
 case first =>
  have H:=HC2.out;clear HC2
  by_cases c4:a0_0 < 0
  ·rw [if_pos c4] at H;have c4b0:decide (a0_0 < 0)=true:=decide_eq_true c4;clear c4
   (first|rw [c4b0]|(simp only [i64_w,i32_w];rw [c4b0])|skip)
   have H':=Aside0.mk H;clear H;have hcz5_0:w3.cell? ⟨gb196,0,none⟩=some (.int .i64 a0_0):=(z01 BK196.out 0).trans rfl;have hcz5_1:w3.cell? ⟨gb196,1,none⟩=some (.int .i64 a0_1):=(z01 BK196.out 1).trans rfl;have hcz5_2:w3.cell? ⟨gb196,2,none⟩=some (.int .i64 a0_2):=(z01 BK196.out 2).trans rfl;have hcz5_3:w3.cell? ⟨gb196,3,none⟩=some (.int .i64 a0_3):=(z01 BK196.out 3).trans rfl;have hcz5_4:w3.cell? ⟨gb196,4,none⟩=some (.int .u64 a0_4):=(z01 BK196.out 4).trans rfl;have hfz5_0:=z02 BK196.out 0;have hfz5_1:=z02 BK196.out 1;have hfz5_2:=z02 BK196.out 2;have hfz5_3:=z02 BK196.out 3;have hfz5_4:=z02 BK196.out 4;go_wp2
   go_meet
   case rel=>exact ⟨_,(true),(by first|rfl|(simp;done)|(simp [*];done)),H',⟨by first|omega|exact Nat.le_refl _⟩,⟨by (with_reducible repeat (first|refine z08 ?_ _|refine z09 ?_|refine z06 ?_ _));exact BK196.out⟩,⟨by repeat (first|(with_reducible first|exact HB.out|apply z04|apply z03|apply z05|refine z07 ?_ GE196.out)|exact HB.out)⟩⟩
  ·rw [if_neg c4] at H;have c4b0:decide (a0_0 < 0)=false:=decide_eq_false c4;clear c4
   (first|rw [c4b0]|(simp only [i64_w,i32_w];rw [c4b0])|skip)
   have H':=Aside0.mk H;clear H;have hcz6_0:w3.cell? ⟨gb196,0,none⟩=some (.int .i64 a0_0):=(z01 BK196.out 0).trans rfl;have hcz6_1:w3.cell? ⟨gb196,1,none⟩=some (.int .i64 a0_1):=(z01 BK196.out 1).trans rfl;have hcz6_2:w3.cell? ⟨gb196,2,none⟩=some (.int .i64 a0_2):=(z01 BK196.out 2).trans rfl;have hcz6_3:w3.cell? ⟨gb196,3,none⟩=some (.int .i64 a0_3):=(z01 BK196.out 3).trans rfl;have hcz6_4:w3.cell? ⟨gb196,4,none⟩=some (.int .u64 a0_4):=(z01 BK196.out 4).trans rfl;have hfz6_0:=z02 BK196.out 0;have hfz6_1:=z02 BK196.out 1;have hfz6_2:=z02 BK196.out 2;have hfz6_3:=z02 BK196.out 3;have hfz6_4:=z02 BK196.out 4;go_wp2
   go_meet
   case rel=>exact ⟨_,(decide (a0_0 > 25)),(by first|rfl|(simp;done)|(simp [*];done)),H',⟨by first|omega|exact Nat.le_refl _⟩,⟨by (with_reducible repeat (first|refine z08 ?_ _|refine z09 ?_|refine z06 ?_ _));exact BK196.out⟩,⟨by repeat (first|(with_reducible first|exact HB.out|apply z04|apply z03|apply z05|refine z07 ?_ GE196.out)|exact HB.out)⟩⟩
 case rest =>
  clear HC2;obtain ⟨kq,x11_1,rfl,HA,HJ1,BK196,HB⟩:=hcut;cases kq with
  | zero=>exact absurd HA.out (by simp [z0d.j0])
  | succ kj1 =>
   have H:=HA.out;clear HA;simp only [z0d.j0] at H
   by_cases c7:x11_1=true
   ·subst c7;have H1:(some 0)=some r:=(by rw [if_pos rfl] at H;exact H);clear H;have H:=H1;clear H1;obtain rfl:=Option.some.inj H;go_wp2;go_ret
    exact ⟨by first|rfl|(simp [z0j,z0i] <;> rfl)|(simp [*,z0j,z0i] <;> rfl),by repeat (first|(with_reducible first|exact HB.out|apply z04|apply z03|apply z05|refine z07 ?_ GE196.out)|exact HB.out)⟩
   ·replace c7:=Bool.eq_false_iff.mpr c7;subst c7;have H1:((z0e.f kj1 a0_0).bind fun t197=>((z0h.f kj1 t197 97 a0_1).bind fun t198=>(if t198=true then ((z0h.f kj1 t197 98 a0_2).bind fun t199=>(if t199=true then ((z0f.f kj1 t197 119).bind fun t200=>(if t200=true then (if a0_3=1 then (z0d.j1 kj1 t197 false a0_0 a0_1 a0_2 a0_3 a0_4) else (if a0_3=2 then (z0d.j1 kj1 t197 false a0_0 a0_1 a0_2 a0_3 a0_4) else (if a0_3=4 then (z0d.j1 kj1 t197 false a0_0 a0_1 a0_2 a0_3 a0_4) else (z0d.j1 kj1 t197 (a0_3 != 8) a0_0 a0_1 a0_2 a0_3 a0_4)))) else ((z0h.f kj1 t197 99 a0_3).bind fun t202=>(if t202=true then ((z0f.f kj1 t197 105).bind fun t203=>(if t203=true then (some (-1)) else (if a0_4=0 then (some (-1)) else (some 4)))) else (some 3))))) else (some 2))) else (some 1))))=some r:=(by rw [if_neg (show ¬ (false=true) by decide)] at H;exact H);clear H;have H:=H1;clear H1;replace H:=Option.bind_eq_some_iff.mp H;obtain ⟨t197,A80,H⟩:=H;skip;have A8:=Aside0.mk A80;clear A80;replace H:=Option.bind_eq_some_iff.mp H;obtain ⟨t198,A90,H⟩:=H;skip;have A9:=Aside0.mk A90;clear A90
    by_cases c10:t198=true
    ·subst c10;have H1:((z0h.f kj1 t197 98 a0_2).bind fun t199=>(if t199=true then ((z0f.f kj1 t197 119).bind fun t200=>(if t200=true then (if a0_3=1 then (z0d.j1 kj1 t197 false a0_0 a0_1 a0_2 a0_3 a0_4) else (if a0_3=2 then (z0d.j1 kj1 t197 false a0_0 a0_1 a0_2 a0_3 a0_4) else (if a0_3=4 then (z0d.j1 kj1 t197 false a0_0 a0_1 a0_2 a0_3 a0_4) else (z0d.j1 kj1 t197 (a0_3 != 8) a0_0 a0_1 a0_2 a0_3 a0_4)))) else ((z0h.f kj1 t197 99 a0_3).bind fun t202=>(if t202=true then ((z0f.f kj1 t197 105).bind fun t203=>(if t203=true then (some (-1)) else (if a0_4=0 then (some (-1)) else (some 4)))) else (some 3))))) else (some 2)))=some r:=(by rw [if_pos rfl] at H;exact H);clear H;have H:=H1;clear H1;replace H:=Option.bind_eq_some_iff.mp H;obtain ⟨t199,A110,H⟩:=H;skip;have A11:=Aside0.mk A110;clear A110
     by_cases c12:t199=true
     ·subst c12;have H1:((z0f.f kj1 t197 119).bind fun t200=>(if t200=true then (if a0_3=1 then (z0d.j1 kj1 t197 false a0_0 a0_1 a0_2 a0_3 a0_4) else (if a0_3=2 then (z0d.j1 kj1 t197 false a0_0 a0_1 a0_2 a0_3 a0_4) else (if a0_3=4 then (z0d.j1 kj1 t197 false a0_0 a0_1 a0_2 a0_3 a0_4) else (z0d.j1 kj1 t197 (a0_3 != 8) a0_0 a0_1 a0_2 a0_3 a0_4)))) else ((z0h.f kj1 t197 99 a0_3).bind fun t202=>(if t202=true then ((z0f.f kj1 t197 105).bind fun t203=>(if t203=true then (some (-1)) else (if a0_4=0 then (some (-1)) else (some 4)))) else (some 3)))))=some r:=(by rw [if_pos rfl] at H;exact H);clear H;have H:=H1;clear H1;replace H:=Option.bind_eq_some_iff.mp H;obtain ⟨t200,A130,H⟩:=H;skip;have A13:=Aside0.mk A130;clear A130
      by_cases c14:t200=true
      ·subst c14;have H1:(if a0_3=1 then (z0d.j1 kj1 t197 false a0_0 a0_1 a0_2 a0_3 a0_4) else (if a0_3=2 then (z0d.j1 kj1 t197 false a0_0 a0_1 a0_2 a0_3 a0_4) else (if a0_3=4 then (z0d.j1 kj1 t197 false a0_0 a0_1 a0_2 a0_3 a0_4) else (z0d.j1 kj1 t197 (a0_3 != 8) a0_0 a0_1 a0_2 a0_3 a0_4))))=some r:=(by rw [if_pos rfl] at H;exact H);clear H;have H:=H1;clear H1;have HC15:=Aside0.mk H;clear H;have hcz16_0:wc.cell? ⟨gb196,0,none⟩=some (.int .i64 a0_0):=(z01 BK196.out 0).trans rfl;have hcz16_1:wc.cell? ⟨gb196,1,none⟩=some (.int .i64 a0_1):=(z01 BK196.out 1).trans rfl;have hcz16_2:wc.cell? ⟨gb196,2,none⟩=some (.int .i64 a0_2):=(z01 BK196.out 2).trans rfl;have hcz16_3:wc.cell? ⟨gb196,3,none⟩=some (.int .i64 a0_3):=(z01 BK196.out 3).trans rfl;have hcz16_4:wc.cell? ⟨gb196,4,none⟩=some (.int .u64 a0_4):=(z01 BK196.out 4).trans rfl;have hfz16_0:=z02 BK196.out 0;have hfz16_1:=z02 BK196.out 1;have hfz16_2:=z02 BK196.out 2;have hfz16_3:=z02 BK196.out 3;have hfz16_4:=z02 BK196.out 4
       go_upto_region 9 with (first|((with_reducible refine z0u (f:=108) rfl ?_);refine z16 (some 14) rfl rfl Tryz.func108 (by kernel_rfl) rfl #[.int .i64 a0_0] rfl (by (try simp only [List.map_toArray,List.map_cons,List.map_nil]);first|done|rfl) ?_;(with_reducible refine (z0e.calls kj1 a0_0 t197 _ A8.out).mono ?_);rintro e w' ⟨rfl,⟨nd,rfl⟩⟩;refine ⟨_,rfl,?_⟩)|((with_reducible refine z0u (f:=109) rfl ?_);refine z16 (some 18) rfl rfl Tryz.func109 (by kernel_rfl) rfl #[.string t197,.int .u8 97,.int .i64 a0_1] rfl (by (try simp only [List.map_toArray,List.map_cons,List.map_nil]);first|done|rfl) ?_;(with_reducible refine (z0h.calls kj1 t197 97 a0_1 true _ A9.out).mono ?_);rintro e w' ⟨rfl,⟨nd,rfl⟩⟩;refine ⟨_,rfl,?_⟩)|((with_reducible refine z0u (f:=109) rfl ?_);refine z16 (some 23) rfl rfl Tryz.func109 (by kernel_rfl) rfl #[.string t197,.int .u8 98,.int .i64 a0_2] rfl (by (try simp only [List.map_toArray,List.map_cons,List.map_nil]);first|done|rfl) ?_;(with_reducible refine (z0h.calls kj1 t197 98 a0_2 true _ A11.out).mono ?_);rintro e w' ⟨rfl,⟨nd,rfl⟩⟩;refine ⟨_,rfl,?_⟩)|((with_reducible refine z0u (f:=110) rfl ?_);refine z16 (some 26) rfl rfl Tryz.func110 (by kernel_rfl) rfl #[.string t197,.int .u8 119] rfl (by (try simp only [List.map_toArray,List.map_cons,List.map_nil]);first|done|rfl) ?_;(with_reducible refine (z0f.calls kj1 t197 119 true _ A13.out).mono ?_);rintro e w' ⟨rfl,⟨nd,rfl⟩⟩;refine ⟨_,rfl,?_⟩))
       (try simp only [Act.put,zq1,zq2,zq3])
       go_cut [44] (fun v44 wc=>∃ (kq:Nat) (x44_14:Bool),v44=.bool x44_14∧Aside0 (z0d.j1 kq t197 x44_14 a0_0 a0_1 a0_2 a0_3 a0_4=some r)∧Aside0 (kq≤kj1)∧Aside0 (wc.heap[gb196]?=some (.cells #[.int .i64 a0_0,.int .i64 a0_1,.int .i64 a0_2,.int .i64 a0_3,.int .u64 a0_4] 79 (0,0)))∧Aside0 (Below w.heap.size w wc))
       case first =>
        have H:=HC15.out;clear HC15
        by_cases c17:a0_3=1
        ·rw [if_pos c17] at H;have c17b0:(a0_3 == 1)=true:=beq_iff_eq.mpr c17;have c17b1:(a0_3 != 1)=false:=bne_eq_false_iff_eq.mpr c17;clear c17
         (first|rw [c17b0]|(simp only [i64_w,i32_w];rw [c17b0])|skip)
         have H':=Aside0.mk H;clear H;have hcz18_0:wc.cell? ⟨gb196,0,none⟩=some (.int .i64 a0_0):=(z01 BK196.out 0).trans rfl;have hcz18_1:wc.cell? ⟨gb196,1,none⟩=some (.int .i64 a0_1):=(z01 BK196.out 1).trans rfl;have hcz18_2:wc.cell? ⟨gb196,2,none⟩=some (.int .i64 a0_2):=(z01 BK196.out 2).trans rfl;have hcz18_3:wc.cell? ⟨gb196,3,none⟩=some (.int .i64 a0_3):=(z01 BK196.out 3).trans rfl;have hcz18_4:wc.cell? ⟨gb196,4,none⟩=some (.int .u64 a0_4):=(z01 BK196.out 4).trans rfl;have hfz18_0:=z02 BK196.out 0;have hfz18_1:=z02 BK196.out 1;have hfz18_2:=z02 BK196.out 2;have hfz18_3:=z02 BK196.out 3;have hfz18_4:=z02 BK196.out 4;go_wp2
         go_meet
         case rel=>exact ⟨_,(false),(by first|rfl|(simp;done)|(simp [*];done)),H',⟨by have:=HJ1.out;first|omega|exact Nat.le_refl _⟩,⟨by (with_reducible repeat (first|refine z08 ?_ _|refine z09 ?_|refine z06 ?_ _));exact BK196.out⟩,⟨by repeat (first|(with_reducible first|exact HB.out|apply z04|apply z03|apply z05|refine z07 ?_ GE196.out)|exact HB.out)⟩⟩
        ·rw [if_neg c17] at H;have c17b0:(a0_3 == 1)=false:=beq_eq_false_iff_ne.mpr c17;have c17b1:(a0_3 != 1)=true:=bne_iff_ne.mpr c17
         (first|rw [c17b0]|(simp only [i64_w,i32_w];rw [c17b0])|skip)
         by_cases c19:a0_3=2
         ·rw [if_pos c19] at H;have c19b0:(a0_3 == 2)=true:=beq_iff_eq.mpr c19;have c19b1:(a0_3 != 2)=false:=bne_eq_false_iff_eq.mpr c19;clear c19;have H':=Aside0.mk H;clear H;have hcz20_0:wc.cell? ⟨gb196,0,none⟩=some (.int .i64 a0_0):=(z01 BK196.out 0).trans rfl;have hcz20_1:wc.cell? ⟨gb196,1,none⟩=some (.int .i64 a0_1):=(z01 BK196.out 1).trans rfl;have hcz20_2:wc.cell? ⟨gb196,2,none⟩=some (.int .i64 a0_2):=(z01 BK196.out 2).trans rfl;have hcz20_3:wc.cell? ⟨gb196,3,none⟩=some (.int .i64 a0_3):=(z01 BK196.out 3).trans rfl;have hcz20_4:wc.cell? ⟨gb196,4,none⟩=some (.int .u64 a0_4):=(z01 BK196.out 4).trans rfl;have hfz20_0:=z02 BK196.out 0;have hfz20_1:=z02 BK196.out 1;have hfz20_2:=z02 BK196.out 2;have hfz20_3:=z02 BK196.out 3;have hfz20_4:=z02 BK196.out 4;go_wp2
          go_meet
          case rel=>exact ⟨_,(false),(by first|rfl|(simp;done)|(simp [*];done)),H',⟨by have:=HJ1.out;first|omega|exact Nat.le_refl _⟩,⟨by (with_reducible repeat (first|refine z08 ?_ _|refine z09 ?_|refine z06 ?_ _));exact BK196.out⟩,⟨by repeat (first|(with_reducible first|exact HB.out|apply z04|apply z03|apply z05|refine z07 ?_ GE196.out)|exact HB.out)⟩⟩
         ·rw [if_neg c19] at H;have c19b0:(a0_3 == 2)=false:=beq_eq_false_iff_ne.mpr c19;have c19b1:(a0_3 != 2)=true:=bne_iff_ne.mpr c19
          by_cases c21:a0_3=4
          ·rw [if_pos c21] at H;have c21b0:(a0_3 == 4)=true:=beq_iff_eq.mpr c21;have c21b1:(a0_3 != 4)=false:=bne_eq_false_iff_eq.mpr c21;clear c21;have H':=Aside0.mk H;clear H;have hcz22_0:wc.cell? ⟨gb196,0,none⟩=some (.int .i64 a0_0):=(z01 BK196.out 0).trans rfl;have hcz22_1:wc.cell? ⟨gb196,1,none⟩=some (.int .i64 a0_1):=(z01 BK196.out 1).trans rfl;have hcz22_2:wc.cell? ⟨gb196,2,none⟩=some (.int .i64 a0_2):=(z01 BK196.out 2).trans rfl;have hcz22_3:wc.cell? ⟨gb196,3,none⟩=some (.int .i64 a0_3):=(z01 BK196.out 3).trans rfl;have hcz22_4:wc.cell? ⟨gb196,4,none⟩=some (.int .u64 a0_4):=(z01 BK196.out 4).trans rfl;have hfz22_0:=z02 BK196.out 0;have hfz22_1:=z02 BK196.out 1;have hfz22_2:=z02 BK196.out 2;have hfz22_3:=z02 BK196.out 3;have hfz22_4:=z02 BK196.out 4;go_wp2
           go_meet
           case rel=>exact ⟨_,(false),(by first|rfl|(simp;done)|(simp [*];done)),H',⟨by have:=HJ1.out;first|omega|exact Nat.le_refl _⟩,⟨by (with_reducible repeat (first|refine z08 ?_ _|refine z09 ?_|refine z06 ?_ _));exact BK196.out⟩,⟨by repeat (first|(with_reducible first|exact HB.out|apply z04|apply z03|apply z05|refine z07 ?_ GE196.out)|exact HB.out)⟩⟩
          ·rw [if_neg c21] at H;have c21b0:(a0_3 == 4)=false:=beq_eq_false_iff_ne.mpr c21;have c21b1:(a0_3 != 4)=true:=bne_iff_ne.mpr c21;have H':=Aside0.mk H;clear H;have hcz23_0:wc.cell? ⟨gb196,0,none⟩=some (.int .i64 a0_0):=(z01 BK196.out 0).trans rfl;have hcz23_1:wc.cell? ⟨gb196,1,none⟩=some (.int .i64 a0_1):=(z01 BK196.out 1).trans rfl;have hcz23_2:wc.cell? ⟨gb196,2,none⟩=some (.int .i64 a0_2):=(z01 BK196.out 2).trans rfl;have hcz23_3:wc.cell? ⟨gb196,3,none⟩=some (.int .i64 a0_3):=(z01 BK196.out 3).trans rfl;have hcz23_4:wc.cell? ⟨gb196,4,none⟩=some (.int .u64 a0_4):=(z01 BK196.out 4).trans rfl;have hfz23_0:=z02 BK196.out 0;have hfz23_1:=z02 BK196.out 1;have hfz23_2:=z02 BK196.out 2;have hfz23_3:=z02 BK196.out 3;have hfz23_4:=z02 BK196.out 4;go_wp2
           go_meet
           case rel=>exact ⟨_,((a0_3 != 8)),(by first|rfl|(simp;done)|(simp [*];done)),H',⟨by have:=HJ1.out;first|omega|exact Nat.le_refl _⟩,⟨by (with_reducible repeat (first|refine z08 ?_ _|refine z09 ?_|refine z06 ?_ _));exact BK196.out⟩,⟨by repeat (first|(with_reducible first|exact HB.out|apply z04|apply z03|apply z05|refine z07 ?_ GE196.out)|exact HB.out)⟩⟩
       case rest =>
        clear HC15;obtain ⟨kq,x44_14,rfl,HA,HJ14,BK196,HB⟩:=hcut;cases kq with
        | zero=>exact absurd HA.out (by simp [z0d.j1])
        | succ kj14 =>
         have H:=HA.out;clear HA;simp only [z0d.j1] at H
         by_cases c24:x44_14=true
         ·subst c24;have H1:(some 3)=some r:=(by rw [if_pos rfl] at H;exact H);clear H;have H:=H1;clear H1;obtain rfl:=Option.some.inj H;go_wp2;go_ret
          exact ⟨by first|rfl|(simp [z0j,z0i] <;> rfl)|(simp [*,z0j,z0i] <;> rfl),by repeat (first|(with_reducible first|exact HB.out|apply z04|apply z03|apply z05|refine z07 ?_ GE196.out)|exact HB.out)⟩
         ·replace c24:=Bool.eq_false_iff.mpr c24;subst c24;have H1:((z0f.f kj14 t197 105).bind fun t201=>(if t201=true then (some (-1)) else (if a0_4=0 then (some (-1)) else (some 4))))=some r:=(by rw [if_neg (show ¬ (false=true) by decide)] at H;exact H);clear H;have H:=H1;clear H1;replace H:=Option.bind_eq_some_iff.mp H;obtain ⟨t201,A250,H⟩:=H;skip;have A25:=Aside0.mk A250;clear A250
          by_cases c26:t201=true
          ·subst c26;have H1:(some (-1))=some r:=(by rw [if_pos rfl] at H;exact H);clear H;have H:=H1;clear H1;obtain rfl:=Option.some.inj H
           go_wp2_with (first|((with_reducible refine z0u (f:=110) rfl ?_);refine z16 (some 51) rfl rfl Tryz.func110 (by kernel_rfl) rfl #[.string t197,.int .u8 105] rfl (by (try simp only [List.map_toArray,List.map_cons,List.map_nil]);first|done|rfl) ?_;(with_reducible refine (z0f.calls kj14 t197 105 true _ A25.out).mono ?_);rintro e w' ⟨rfl,⟨nd,rfl⟩⟩;refine ⟨_,rfl,?_⟩))
           go_ret
           exact ⟨by first|rfl|(simp [z0j,z0i] <;> rfl)|(simp [*,z0j,z0i] <;> rfl),by repeat (first|(with_reducible first|exact HB.out|apply z04|apply z03|apply z05|refine z07 ?_ GE196.out)|exact HB.out)⟩
          ·replace c26:=Bool.eq_false_iff.mpr c26;subst c26;have H1:(if a0_4=0 then (some (-1)) else (some 4))=some r:=(by rw [if_neg (show ¬ (false=true) by decide)] at H;exact H);clear H;have H:=H1;clear H1
           by_cases c27:a0_4=0
           ·rw [if_pos c27] at H;have c27b0:(a0_4 == 0)=true:=beq_iff_eq.mpr c27;have c27b1:(a0_4 != 0)=false:=bne_eq_false_iff_eq.mpr c27;clear c27;obtain rfl:=Option.some.inj H
            go_wp2_with (first|((with_reducible refine z0u (f:=110) rfl ?_);refine z16 (some 51) rfl rfl Tryz.func110 (by kernel_rfl) rfl #[.string t197,.int .u8 105] rfl (by (try simp only [List.map_toArray,List.map_cons,List.map_nil]);first|done|rfl) ?_;(with_reducible refine (z0f.calls kj14 t197 105 false _ A25.out).mono ?_);rintro e w' ⟨rfl,⟨nd,rfl⟩⟩;refine ⟨_,rfl,?_⟩;have hcz28_0:wc.cell? ⟨gb196,0,none⟩=some (.int .i64 a0_0):=(z01 BK196.out 0).trans rfl;have hcz28_1:wc.cell? ⟨gb196,1,none⟩=some (.int .i64 a0_1):=(z01 BK196.out 1).trans rfl;have hcz28_2:wc.cell? ⟨gb196,2,none⟩=some (.int .i64 a0_2):=(z01 BK196.out 2).trans rfl;have hcz28_3:wc.cell? ⟨gb196,3,none⟩=some (.int .i64 a0_3):=(z01 BK196.out 3).trans rfl;have hcz28_4:wc.cell? ⟨gb196,4,none⟩=some (.int .u64 a0_4):=(z01 BK196.out 4).trans rfl;have hfz28_0:=z02 BK196.out 0;have hfz28_1:=z02 BK196.out 1;have hfz28_2:=z02 BK196.out 2;have hfz28_3:=z02 BK196.out 3;have hfz28_4:=z02 BK196.out 4))
            go_ret
            exact ⟨by first|rfl|(simp [z0j,z0i] <;> rfl)|(simp [*,z0j,z0i] <;> rfl),by repeat (first|(with_reducible first|exact HB.out|apply z04|apply z03|apply z05|refine z07 ?_ GE196.out)|exact HB.out)⟩
           ·rw [if_neg c27] at H;have c27b0:(a0_4 == 0)=false:=beq_eq_false_iff_ne.mpr c27;have c27b1:(a0_4 != 0)=true:=bne_iff_ne.mpr c27;obtain rfl:=Option.some.inj H
            go_wp2_with (first|((with_reducible refine z0u (f:=110) rfl ?_);refine z16 (some 51) rfl rfl Tryz.func110 (by kernel_rfl) rfl #[.string t197,.int .u8 105] rfl (by (try simp only [List.map_toArray,List.map_cons,List.map_nil]);first|done|rfl) ?_;(with_reducible refine (z0f.calls kj14 t197 105 false _ A25.out).mono ?_);rintro e w' ⟨rfl,⟨nd,rfl⟩⟩;refine ⟨_,rfl,?_⟩;have hcz29_0:wc.cell? ⟨gb196,0,none⟩=some (.int .i64 a0_0):=(z01 BK196.out 0).trans rfl;have hcz29_1:wc.cell? ⟨gb196,1,none⟩=some (.int .i64 a0_1):=(z01 BK196.out 1).trans rfl;have hcz29_2:wc.cell? ⟨gb196,2,none⟩=some (.int .i64 a0_2):=(z01 BK196.out 2).trans rfl;have hcz29_3:wc.cell? ⟨gb196,3,none⟩=some (.int .i64 a0_3):=(z01 BK196.out 3).trans rfl;have hcz29_4:wc.cell? ⟨gb196,4,none⟩=some (.int .u64 a0_4):=(z01 BK196.out 4).trans rfl;have hfz29_0:=z02 BK196.out 0;have hfz29_1:=z02 BK196.out 1;have hfz29_2:=z02 BK196.out 2;have hfz29_3:=z02 BK196.out 3;have hfz29_4:=z02 BK196.out 4))
            go_ret
            exact ⟨by first|rfl|(simp [z0j,z0i] <;> rfl)|(simp [*,z0j,z0i] <;> rfl),by repeat (first|(with_reducible first|exact HB.out|apply z04|apply z03|apply z05|refine z07 ?_ GE196.out)|exact HB.out)⟩
      ·replace c14:=Bool.eq_false_iff.mpr c14;subst c14;have H1:((z0h.f kj1 t197 99 a0_3).bind fun t202=>(if t202=true then ((z0f.f kj1 t197 105).bind fun t203=>(if t203=true then (some (-1)) else (if a0_4=0 then (some (-1)) else (some 4)))) else (some 3)))=some r:=(by rw [if_neg (show ¬ (false=true) by decide)] at H;exact H);clear H;have H:=H1;clear H1;replace H:=Option.bind_eq_some_iff.mp H;obtain ⟨t202,A300,H⟩:=H;skip;have A30:=Aside0.mk A300;clear A300
       by_cases c31:t202=true
       ·subst c31;have H1:((z0f.f kj1 t197 105).bind fun t203=>(if t203=true then (some (-1)) else (if a0_4=0 then (some (-1)) else (some 4))))=some r:=(by rw [if_pos rfl] at H;exact H);clear H;have H:=H1;clear H1;replace H:=Option.bind_eq_some_iff.mp H;obtain ⟨t203,A320,H⟩:=H;skip;have A32:=Aside0.mk A320;clear A320
        by_cases c33:t203=true
        ·subst c33;have H1:(some (-1))=some r:=(by rw [if_pos rfl] at H;exact H);clear H;have H:=H1;clear H1;obtain rfl:=Option.some.inj H;have hcz34_0:wc.cell? ⟨gb196,0,none⟩=some (.int .i64 a0_0):=(z01 BK196.out 0).trans rfl;have hcz34_1:wc.cell? ⟨gb196,1,none⟩=some (.int .i64 a0_1):=(z01 BK196.out 1).trans rfl;have hcz34_2:wc.cell? ⟨gb196,2,none⟩=some (.int .i64 a0_2):=(z01 BK196.out 2).trans rfl;have hcz34_3:wc.cell? ⟨gb196,3,none⟩=some (.int .i64 a0_3):=(z01 BK196.out 3).trans rfl;have hcz34_4:wc.cell? ⟨gb196,4,none⟩=some (.int .u64 a0_4):=(z01 BK196.out 4).trans rfl;have hfz34_0:=z02 BK196.out 0;have hfz34_1:=z02 BK196.out 1;have hfz34_2:=z02 BK196.out 2;have hfz34_3:=z02 BK196.out 3;have hfz34_4:=z02 BK196.out 4
         go_wp2_with (first|((with_reducible refine z0u (f:=108) rfl ?_);refine z16 (some 14) rfl rfl Tryz.func108 (by kernel_rfl) rfl #[.int .i64 a0_0] rfl (by (try simp only [List.map_toArray,List.map_cons,List.map_nil]);first|done|rfl) ?_;(with_reducible refine (z0e.calls kj1 a0_0 t197 _ A8.out).mono ?_);rintro e w' ⟨rfl,⟨nd,rfl⟩⟩;refine ⟨_,rfl,?_⟩)|((with_reducible refine z0u (f:=109) rfl ?_);refine z16 (some 18) rfl rfl Tryz.func109 (by kernel_rfl) rfl #[.string t197,.int .u8 97,.int .i64 a0_1] rfl (by (try simp only [List.map_toArray,List.map_cons,List.map_nil]);first|done|rfl) ?_;(with_reducible refine (z0h.calls kj1 t197 97 a0_1 true _ A9.out).mono ?_);rintro e w' ⟨rfl,⟨nd,rfl⟩⟩;refine ⟨_,rfl,?_⟩)|((with_reducible refine z0u (f:=109) rfl ?_);refine z16 (some 23) rfl rfl Tryz.func109 (by kernel_rfl) rfl #[.string t197,.int .u8 98,.int .i64 a0_2] rfl (by (try simp only [List.map_toArray,List.map_cons,List.map_nil]);first|done|rfl) ?_;(with_reducible refine (z0h.calls kj1 t197 98 a0_2 true _ A11.out).mono ?_);rintro e w' ⟨rfl,⟨nd,rfl⟩⟩;refine ⟨_,rfl,?_⟩)|((with_reducible refine z0u (f:=110) rfl ?_);refine z16 (some 26) rfl rfl Tryz.func110 (by kernel_rfl) rfl #[.string t197,.int .u8 119] rfl (by (try simp only [List.map_toArray,List.map_cons,List.map_nil]);first|done|rfl) ?_;(with_reducible refine (z0f.calls kj1 t197 119 false _ A13.out).mono ?_);rintro e w' ⟨rfl,⟨nd,rfl⟩⟩;refine ⟨_,rfl,?_⟩)|((with_reducible refine z0u (f:=109) rfl ?_);refine z16 (some 48) rfl rfl Tryz.func109 (by kernel_rfl) rfl #[.string t197,.int .u8 99,.int .i64 a0_3] rfl (by (try simp only [List.map_toArray,List.map_cons,List.map_nil]);first|done|rfl) ?_;(with_reducible refine (z0h.calls kj1 t197 99 a0_3 true _ A30.out).mono ?_);rintro e w' ⟨rfl,⟨nd,rfl⟩⟩;refine ⟨_,rfl,?_⟩)|((with_reducible refine z0u (f:=110) rfl ?_);refine z16 (some 51) rfl rfl Tryz.func110 (by kernel_rfl) rfl #[.string t197,.int .u8 105] rfl (by (try simp only [List.map_toArray,List.map_cons,List.map_nil]);first|done|rfl) ?_;(with_reducible refine (z0f.calls kj1 t197 105 true _ A32.out).mono ?_);rintro e w' ⟨rfl,⟨nd,rfl⟩⟩;refine ⟨_,rfl,?_⟩))
         go_ret
         exact ⟨by first|rfl|(simp [z0j,z0i] <;> rfl)|(simp [*,z0j,z0i] <;> rfl),by repeat (first|(with_reducible first|exact HB.out|apply z04|apply z03|apply z05|refine z07 ?_ GE196.out)|exact HB.out)⟩
        ·replace c33:=Bool.eq_false_iff.mpr c33;subst c33;have H1:(if a0_4=0 then (some (-1)) else (some 4))=some r:=(by rw [if_neg (show ¬ (false=true) by decide)] at H;exact H);clear H;have H:=H1;clear H1
         by_cases c35:a0_4=0
         ·rw [if_pos c35] at H;have c35b0:(a0_4 == 0)=true:=beq_iff_eq.mpr c35;have c35b1:(a0_4 != 0)=false:=bne_eq_false_iff_eq.mpr c35;clear c35;obtain rfl:=Option.some.inj H;have hcz36_0:wc.cell? ⟨gb196,0,none⟩=some (.int .i64 a0_0):=(z01 BK196.out 0).trans rfl;have hcz36_1:wc.cell? ⟨gb196,1,none⟩=some (.int .i64 a0_1):=(z01 BK196.out 1).trans rfl;have hcz36_2:wc.cell? ⟨gb196,2,none⟩=some (.int .i64 a0_2):=(z01 BK196.out 2).trans rfl;have hcz36_3:wc.cell? ⟨gb196,3,none⟩=some (.int .i64 a0_3):=(z01 BK196.out 3).trans rfl;have hcz36_4:wc.cell? ⟨gb196,4,none⟩=some (.int .u64 a0_4):=(z01 BK196.out 4).trans rfl;have hfz36_0:=z02 BK196.out 0;have hfz36_1:=z02 BK196.out 1;have hfz36_2:=z02 BK196.out 2;have hfz36_3:=z02 BK196.out 3;have hfz36_4:=z02 BK196.out 4
          go_wp2_with (first|((with_reducible refine z0u (f:=108) rfl ?_);refine z16 (some 14) rfl rfl Tryz.func108 (by kernel_rfl) rfl #[.int .i64 a0_0] rfl (by (try simp only [List.map_toArray,List.map_cons,List.map_nil]);first|done|rfl) ?_;(with_reducible refine (z0e.calls kj1 a0_0 t197 _ A8.out).mono ?_);rintro e w' ⟨rfl,⟨nd,rfl⟩⟩;refine ⟨_,rfl,?_⟩)|((with_reducible refine z0u (f:=109) rfl ?_);refine z16 (some 18) rfl rfl Tryz.func109 (by kernel_rfl) rfl #[.string t197,.int .u8 97,.int .i64 a0_1] rfl (by (try simp only [List.map_toArray,List.map_cons,List.map_nil]);first|done|rfl) ?_;(with_reducible refine (z0h.calls kj1 t197 97 a0_1 true _ A9.out).mono ?_);rintro e w' ⟨rfl,⟨nd,rfl⟩⟩;refine ⟨_,rfl,?_⟩)|((with_reducible refine z0u (f:=109) rfl ?_);refine z16 (some 23) rfl rfl Tryz.func109 (by kernel_rfl) rfl #[.string t197,.int .u8 98,.int .i64 a0_2] rfl (by (try simp only [List.map_toArray,List.map_cons,List.map_nil]);first|done|rfl) ?_;(with_reducible refine (z0h.calls kj1 t197 98 a0_2 true _ A11.out).mono ?_);rintro e w' ⟨rfl,⟨nd,rfl⟩⟩;refine ⟨_,rfl,?_⟩)|((with_reducible refine z0u (f:=110) rfl ?_);refine z16 (some 26) rfl rfl Tryz.func110 (by kernel_rfl) rfl #[.string t197,.int .u8 119] rfl (by (try simp only [List.map_toArray,List.map_cons,List.map_nil]);first|done|rfl) ?_;(with_reducible refine (z0f.calls kj1 t197 119 false _ A13.out).mono ?_);rintro e w' ⟨rfl,⟨nd,rfl⟩⟩;refine ⟨_,rfl,?_⟩)|((with_reducible refine z0u (f:=109) rfl ?_);refine z16 (some 48) rfl rfl Tryz.func109 (by kernel_rfl) rfl #[.string t197,.int .u8 99,.int .i64 a0_3] rfl (by (try simp only [List.map_toArray,List.map_cons,List.map_nil]);first|done|rfl) ?_;(with_reducible refine (z0h.calls kj1 t197 99 a0_3 true _ A30.out).mono ?_);rintro e w' ⟨rfl,⟨nd,rfl⟩⟩;refine ⟨_,rfl,?_⟩)|((with_reducible refine z0u (f:=110) rfl ?_);refine z16 (some 51) rfl rfl Tryz.func110 (by kernel_rfl) rfl #[.string t197,.int .u8 105] rfl (by (try simp only [List.map_toArray,List.map_cons,List.map_nil]);first|done|rfl) ?_;(with_reducible refine (z0f.calls kj1 t197 105 false _ A32.out).mono ?_);rintro e w' ⟨rfl,⟨nd,rfl⟩⟩;refine ⟨_,rfl,?_⟩))
          go_ret
          exact ⟨by first|rfl|(simp [z0j,z0i] <;> rfl)|(simp [*,z0j,z0i] <;> rfl),by repeat (first|(with_reducible first|exact HB.out|apply z04|apply z03|apply z05|refine z07 ?_ GE196.out)|exact HB.out)⟩
         ·rw [if_neg c35] at H;have c35b0:(a0_4 == 0)=false:=beq_eq_false_iff_ne.mpr c35;have c35b1:(a0_4 != 0)=true:=bne_iff_ne.mpr c35;obtain rfl:=Option.some.inj H;have hcz37_0:wc.cell? ⟨gb196,0,none⟩=some (.int .i64 a0_0):=(z01 BK196.out 0).trans rfl;have hcz37_1:wc.cell? ⟨gb196,1,none⟩=some (.int .i64 a0_1):=(z01 BK196.out 1).trans rfl;have hcz37_2:wc.cell? ⟨gb196,2,none⟩=some (.int .i64 a0_2):=(z01 BK196.out 2).trans rfl;have hcz37_3:wc.cell? ⟨gb196,3,none⟩=some (.int .i64 a0_3):=(z01 BK196.out 3).trans rfl;have hcz37_4:wc.cell? ⟨gb196,4,none⟩=some (.int .u64 a0_4):=(z01 BK196.out 4).trans rfl;have hfz37_0:=z02 BK196.out 0;have hfz37_1:=z02 BK196.out 1;have hfz37_2:=z02 BK196.out 2;have hfz37_3:=z02 BK196.out 3;have hfz37_4:=z02 BK196.out 4
          go_wp2_with (first|((with_reducible refine z0u (f:=108) rfl ?_);refine z16 (some 14) rfl rfl Tryz.func108 (by kernel_rfl) rfl #[.int .i64 a0_0] rfl (by (try simp only [List.map_toArray,List.map_cons,List.map_nil]);first|done|rfl) ?_;(with_reducible refine (z0e.calls kj1 a0_0 t197 _ A8.out).mono ?_);rintro e w' ⟨rfl,⟨nd,rfl⟩⟩;refine ⟨_,rfl,?_⟩)|((with_reducible refine z0u (f:=109) rfl ?_);refine z16 (some 18) rfl rfl Tryz.func109 (by kernel_rfl) rfl #[.string t197,.int .u8 97,.int .i64 a0_1] rfl (by (try simp only [List.map_toArray,List.map_cons,List.map_nil]);first|done|rfl) ?_;(with_reducible refine (z0h.calls kj1 t197 97 a0_1 true _ A9.out).mono ?_);rintro e w' ⟨rfl,⟨nd,rfl⟩⟩;refine ⟨_,rfl,?_⟩)|((with_reducible refine z0u (f:=109) rfl ?_);refine z16 (some 23) rfl rfl Tryz.func109 (by kernel_rfl) rfl #[.string t197,.int .u8 98,.int .i64 a0_2] rfl (by (try simp only [List.map_toArray,List.map_cons,List.map_nil]);first|done|rfl) ?_;(with_reducible refine (z0h.calls kj1 t197 98 a0_2 true _ A11.out).mono ?_);rintro e w' ⟨rfl,⟨nd,rfl⟩⟩;refine ⟨_,rfl,?_⟩)|((with_reducible refine z0u (f:=110) rfl ?_);refine z16 (some 26) rfl rfl Tryz.func110 (by kernel_rfl) rfl #[.string t197,.int .u8 119] rfl (by (try simp only [List.map_toArray,List.map_cons,List.map_nil]);first|done|rfl) ?_;(with_reducible refine (z0f.calls kj1 t197 119 false _ A13.out).mono ?_);rintro e w' ⟨rfl,⟨nd,rfl⟩⟩;refine ⟨_,rfl,?_⟩)|((with_reducible refine z0u (f:=109) rfl ?_);refine z16 (some 48) rfl rfl Tryz.func109 (by kernel_rfl) rfl #[.string t197,.int .u8 99,.int .i64 a0_3] rfl (by (try simp only [List.map_toArray,List.map_cons,List.map_nil]);first|done|rfl) ?_;(with_reducible refine (z0h.calls kj1 t197 99 a0_3 true _ A30.out).mono ?_);rintro e w' ⟨rfl,⟨nd,rfl⟩⟩;refine ⟨_,rfl,?_⟩)|((with_reducible refine z0u (f:=110) rfl ?_);refine z16 (some 51) rfl rfl Tryz.func110 (by kernel_rfl) rfl #[.string t197,.int .u8 105] rfl (by (try simp only [List.map_toArray,List.map_cons,List.map_nil]);first|done|rfl) ?_;(with_reducible refine (z0f.calls kj1 t197 105 false _ A32.out).mono ?_);rintro e w' ⟨rfl,⟨nd,rfl⟩⟩;refine ⟨_,rfl,?_⟩))
          go_ret
          exact ⟨by first|rfl|(simp [z0j,z0i] <;> rfl)|(simp [*,z0j,z0i] <;> rfl),by repeat (first|(with_reducible first|exact HB.out|apply z04|apply z03|apply z05|refine z07 ?_ GE196.out)|exact HB.out)⟩
       ·replace c31:=Bool.eq_false_iff.mpr c31;subst c31;have H1:(some 3)=some r:=(by rw [if_neg (show ¬ (false=true) by decide)] at H;exact H);clear H;have H:=H1;clear H1;obtain rfl:=Option.some.inj H;have hcz38_0:wc.cell? ⟨gb196,0,none⟩=some (.int .i64 a0_0):=(z01 BK196.out 0).trans rfl;have hcz38_1:wc.cell? ⟨gb196,1,none⟩=some (.int .i64 a0_1):=(z01 BK196.out 1).trans rfl;have hcz38_2:wc.cell? ⟨gb196,2,none⟩=some (.int .i64 a0_2):=(z01 BK196.out 2).trans rfl;have hcz38_3:wc.cell? ⟨gb196,3,none⟩=some (.int .i64 a0_3):=(z01 BK196.out 3).trans rfl;have hcz38_4:wc.cell? ⟨gb196,4,none⟩=some (.int .u64 a0_4):=(z01 BK196.out 4).trans rfl;have hfz38_0:=z02 BK196.out 0;have hfz38_1:=z02 BK196.out 1;have hfz38_2:=z02 BK196.out 2;have hfz38_3:=z02 BK196.out 3;have hfz38_4:=z02 BK196.out 4
        go_wp2_with (first|((with_reducible refine z0u (f:=108) rfl ?_);refine z16 (some 14) rfl rfl Tryz.func108 (by kernel_rfl) rfl #[.int .i64 a0_0] rfl (by (try simp only [List.map_toArray,List.map_cons,List.map_nil]);first|done|rfl) ?_;(with_reducible refine (z0e.calls kj1 a0_0 t197 _ A8.out).mono ?_);rintro e w' ⟨rfl,⟨nd,rfl⟩⟩;refine ⟨_,rfl,?_⟩)|((with_reducible refine z0u (f:=109) rfl ?_);refine z16 (some 18) rfl rfl Tryz.func109 (by kernel_rfl) rfl #[.string t197,.int .u8 97,.int .i64 a0_1] rfl (by (try simp only [List.map_toArray,List.map_cons,List.map_nil]);first|done|rfl) ?_;(with_reducible refine (z0h.calls kj1 t197 97 a0_1 true _ A9.out).mono ?_);rintro e w' ⟨rfl,⟨nd,rfl⟩⟩;refine ⟨_,rfl,?_⟩)|((with_reducible refine z0u (f:=109) rfl ?_);refine z16 (some 23) rfl rfl Tryz.func109 (by kernel_rfl) rfl #[.string t197,.int .u8 98,.int .i64 a0_2] rfl (by (try simp only [List.map_toArray,List.map_cons,List.map_nil]);first|done|rfl) ?_;(with_reducible refine (z0h.calls kj1 t197 98 a0_2 true _ A11.out).mono ?_);rintro e w' ⟨rfl,⟨nd,rfl⟩⟩;refine ⟨_,rfl,?_⟩)|((with_reducible refine z0u (f:=110) rfl ?_);refine z16 (some 26) rfl rfl Tryz.func110 (by kernel_rfl) rfl #[.string t197,.int .u8 119] rfl (by (try simp only [List.map_toArray,List.map_cons,List.map_nil]);first|done|rfl) ?_;(with_reducible refine (z0f.calls kj1 t197 119 false _ A13.out).mono ?_);rintro e w' ⟨rfl,⟨nd,rfl⟩⟩;refine ⟨_,rfl,?_⟩)|((with_reducible refine z0u (f:=109) rfl ?_);refine z16 (some 48) rfl rfl Tryz.func109 (by kernel_rfl) rfl #[.string t197,.int .u8 99,.int .i64 a0_3] rfl (by (try simp only [List.map_toArray,List.map_cons,List.map_nil]);first|done|rfl) ?_;(with_reducible refine (z0h.calls kj1 t197 99 a0_3 false _ A30.out).mono ?_);rintro e w' ⟨rfl,⟨nd,rfl⟩⟩;refine ⟨_,rfl,?_⟩))
        go_ret
        exact ⟨by first|rfl|(simp [z0j,z0i] <;> rfl)|(simp [*,z0j,z0i] <;> rfl),by repeat (first|(with_reducible first|exact HB.out|apply z04|apply z03|apply z05|refine z07 ?_ GE196.out)|exact HB.out)⟩
     ·replace c12:=Bool.eq_false_iff.mpr c12;subst c12;have H1:(some 2)=some r:=(by rw [if_neg (show ¬ (false=true) by decide)] at H;exact H);clear H;have H:=H1;clear H1;obtain rfl:=Option.some.inj H;have hcz39_0:wc.cell? ⟨gb196,0,none⟩=some (.int .i64 a0_0):=(z01 BK196.out 0).trans rfl;have hcz39_1:wc.cell? ⟨gb196,1,none⟩=some (.int .i64 a0_1):=(z01 BK196.out 1).trans rfl;have hcz39_2:wc.cell? ⟨gb196,2,none⟩=some (.int .i64 a0_2):=(z01 BK196.out 2).trans rfl;have hcz39_3:wc.cell? ⟨gb196,3,none⟩=some (.int .i64 a0_3):=(z01 BK196.out 3).trans rfl;have hcz39_4:wc.cell? ⟨gb196,4,none⟩=some (.int .u64 a0_4):=(z01 BK196.out 4).trans rfl;have hfz39_0:=z02 BK196.out 0;have hfz39_1:=z02 BK196.out 1;have hfz39_2:=z02 BK196.out 2;have hfz39_3:=z02 BK196.out 3;have hfz39_4:=z02 BK196.out 4
      go_wp2_with (first|((with_reducible refine z0u (f:=108) rfl ?_);refine z16 (some 14) rfl rfl Tryz.func108 (by kernel_rfl) rfl #[.int .i64 a0_0] rfl (by (try simp only [List.map_toArray,List.map_cons,List.map_nil]);first|done|rfl) ?_;(with_reducible refine (z0e.calls kj1 a0_0 t197 _ A8.out).mono ?_);rintro e w' ⟨rfl,⟨nd,rfl⟩⟩;refine ⟨_,rfl,?_⟩)|((with_reducible refine z0u (f:=109) rfl ?_);refine z16 (some 18) rfl rfl Tryz.func109 (by kernel_rfl) rfl #[.string t197,.int .u8 97,.int .i64 a0_1] rfl (by (try simp only [List.map_toArray,List.map_cons,List.map_nil]);first|done|rfl) ?_;(with_reducible refine (z0h.calls kj1 t197 97 a0_1 true _ A9.out).mono ?_);rintro e w' ⟨rfl,⟨nd,rfl⟩⟩;refine ⟨_,rfl,?_⟩)|((with_reducible refine z0u (f:=109) rfl ?_);refine z16 (some 23) rfl rfl Tryz.func109 (by kernel_rfl) rfl #[.string t197,.int .u8 98,.int .i64 a0_2] rfl (by (try simp only [List.map_toArray,List.map_cons,List.map_nil]);first|done|rfl) ?_;(with_reducible refine (z0h.calls kj1 t197 98 a0_2 false _ A11.out).mono ?_);rintro e w' ⟨rfl,⟨nd,rfl⟩⟩;refine ⟨_,rfl,?_⟩))
      go_ret
      exact ⟨by first|rfl|(simp [z0j,z0i] <;> rfl)|(simp [*,z0j,z0i] <;> rfl),by repeat (first|(with_reducible first|exact HB.out|apply z04|apply z03|apply z05|refine z07 ?_ GE196.out)|exact HB.out)⟩
    ·replace c10:=Bool.eq_false_iff.mpr c10;subst c10;have H1:(some 1)=some r:=(by rw [if_neg (show ¬ (false=true) by decide)] at H;exact H);clear H;have H:=H1;clear H1;obtain rfl:=Option.some.inj H;have hcz40_0:wc.cell? ⟨gb196,0,none⟩=some (.int .i64 a0_0):=(z01 BK196.out 0).trans rfl;have hcz40_1:wc.cell? ⟨gb196,1,none⟩=some (.int .i64 a0_1):=(z01 BK196.out 1).trans rfl;have hcz40_2:wc.cell? ⟨gb196,2,none⟩=some (.int .i64 a0_2):=(z01 BK196.out 2).trans rfl;have hcz40_3:wc.cell? ⟨gb196,3,none⟩=some (.int .i64 a0_3):=(z01 BK196.out 3).trans rfl;have hcz40_4:wc.cell? ⟨gb196,4,none⟩=some (.int .u64 a0_4):=(z01 BK196.out 4).trans rfl;have hfz40_0:=z02 BK196.out 0;have hfz40_1:=z02 BK196.out 1;have hfz40_2:=z02 BK196.out 2;have hfz40_3:=z02 BK196.out 3;have hfz40_4:=z02 BK196.out 4
     go_wp2_with (first|((with_reducible refine z0u (f:=108) rfl ?_);refine z16 (some 14) rfl rfl Tryz.func108 (by kernel_rfl) rfl #[.int .i64 a0_0] rfl (by (try simp only [List.map_toArray,List.map_cons,List.map_nil]);first|done|rfl) ?_;(with_reducible refine (z0e.calls kj1 a0_0 t197 _ A8.out).mono ?_);rintro e w' ⟨rfl,⟨nd,rfl⟩⟩;refine ⟨_,rfl,?_⟩)|((with_reducible refine z0u (f:=109) rfl ?_);refine z16 (some 18) rfl rfl Tryz.func109 (by kernel_rfl) rfl #[.string t197,.int .u8 97,.int .i64 a0_1] rfl (by (try simp only [List.map_toArray,List.map_cons,List.map_nil]);first|done|rfl) ?_;(with_reducible refine (z0h.calls kj1 t197 97 a0_1 false _ A9.out).mono ?_);rintro e w' ⟨rfl,⟨nd,rfl⟩⟩;refine ⟨_,rfl,?_⟩))
     go_ret
     exact ⟨by first|rfl|(simp [z0j,z0i] <;> rfl)|(simp [*,z0j,z0i] <;> rfl),by repeat (first|(with_reducible first|exact HB.out|apply z04|apply z03|apply z05|refine z07 ?_ GE196.out)|exact HB.out)⟩
def z0q.l0:Nat→List Int→Int→Int→Int→Int→Int→Int→Int→Option (List Int × Int)
 | 0,_,_,_,_,_,_,_,_=>none
 | k+1,x5,x6,x7,xaf,xag,xah,xai,xaj=>if x7 ≥ 0 then (if 0≤x7 then (if x7 < (x5.length:Int) then (z0q.l0 k (x5.set (x7:Int).toNat ((Int.tmod x6 256) % 256)) (IntKind.u64.wrap (Int.tdiv x6 256)) (wrap64 (x7 - 1)) xaf xag xah xai xaj) else (none)) else (none)) else ((some (([(xaf) % 256,(xag) % 256,(xah) % 256,(xai) % 256]:List Int):List Int)).bind fun y210=>(if y210.length+x5.length < 140737488355328 then (some ((y210 ++ x5),0)) else (none)))
def z0q.f (k:Nat) (a0_0:Int) (a0_1:Int) (a0_2:Int) (a0_3:Int) (a0_4:Int):Option (List Int × Int):=(z0d.f k a0_0 a0_1 a0_2 a0_3 a0_4).bind fun t205=>(if t205=0 then (some (([]:List Int),4)) else (if t205 > 0 then (some (([]:List Int),5)) else (if 8≤281474976710656 then (z0q.l0 k (List.replicate 8 0) a0_4 7 a0_0 a0_1 a0_2 a0_3 a0_4) else (none))))
theorem z0q.mono_l:∀ k,(∀ y0 y1 y2 y3 y4 y5 y6 y7,LeO (z0q.l0 k y0 y1 y2 y3 y4 y5 y6 y7) (z0q.l0 (k+1) y0 y1 y2 y3 y4 y5 y6 y7))
 | 0=>fun _ _ _ _ _ _ _ _ r h=>by simp [z0q.l0] at h
 | k+1=>by
  have ih0:=z0q.mono_l k
  ·intro y0 y1 y2 y3 y4 y5 y6 y7;unfold z0q.l0
   repeat' first|exact ih0 _ _ _ _ _ _ _ _|exact z0d.mono _ _ _ _ _ _|exact LeO.none _|refine LeO.ite ?_ ?_|refine LeO.bind ?_ (fun _=>?_)|exact LeO.refl _
theorem z0q.mono:∀ a0 a1 a2 a3 a4 k,LeO (z0q.f k a0 a1 a2 a3 a4) (z0q.f (k+1) a0 a1 a2 a3 a4):=by
 intro a0 a1 a2 a3 a4 k;have ih0:=z0q.mono_l k;unfold z0q.f
 repeat' first|exact ih0 _ _ _ _ _ _ _ _|exact z0d.mono _ _ _ _ _ _|exact LeO.none _|refine LeO.ite ?_ ?_|refine LeO.bind ?_ (fun _=>?_)|exact LeO.refl _
theorem z0q.calls (k:Nat) (a0_0:Int) (a0_1:Int) (a0_2:Int) (a0_3:Int) (a0_4:Int) (r1:List Int) (r2:Int) (w:World) (h:z0q.f k a0_0 a0_1 a0_2 a0_3 a0_4=some (r1,r2)) :
  Calls Tryz.prog 57 #[.agg #[.int .i64 a0_0,.int .i64 a0_1,.int .i64 a0_2,.int .i64 a0_3,.int .u64 a0_4]] w fun e w'=>∃ v0_:Value,e=.returned (.tuple #[v0_,.int .i64 r2])∧Kd.R (Kd.int .u8) 5 w' w.heap.size (fun _=>True) v0_ r1∧Below w.heap.size w w':=by
 have hu79:=Tryz.underlying79;have HB:=Aside0.mk (Below.refl w.heap.size w);have H:((z0d.f k a0_0 a0_1 a0_2 a0_3 a0_4).bind fun t205=>(if t205=0 then (some (([]:List Int),4)) else (if t205 > 0 then (some (([]:List Int),5)) else (if 8≤281474976710656 then (z0q.l0 k (List.replicate 8 0) a0_4 7 a0_0 a0_1 a0_2 a0_3 a0_4) else (none)))))=some (r1,r2):=h;clear h;replace H:=Option.bind_eq_some_iff.mp H;obtain ⟨t205,A20,H⟩:=H;skip;have A2:=Aside0.mk A20;clear A20
 by_cases c3:t205=0
 ·rw [if_pos c3] at H;have c3b0:(t205 == 0)=true:=beq_iff_eq.mpr c3;have c3b1:(t205 != 0)=false:=bne_eq_false_iff_eq.mpr c3;clear c3;simp only [Option.some.injEq,Prod.mk.injEq] at H;obtain ⟨rfl,rfl⟩:=H
  go_enter Tryz.func57,Tryz.ntmps57
  go_wp2_with (first|((with_reducible refine z14 (N:=1) rfl ?_);refine z1b ?hg (N:=1) ?hd (cs:=#[.int .i64 a0_0,.int .i64 a0_1,.int .i64 a0_2,.int .i64 a0_3,.int .u64 a0_4]) (t:=79) ?hr ?_;(case hd=>rfl);(case hg=>rfl);(case hr=>first|(go_simp;done)|(go_simp;rfl));intro gb204 hg w4 hbox hb;have n0_:=Aside0.mk (z0s (by repeat (first|exact HB.out|apply z04|apply z03|apply z05)) hb);have n1_:=Aside0.mk (hbox);have n2_:=Aside0.mk ((by rw [hg];exact (z0m (by repeat (first|exact HB.out|apply z04|apply z03|apply z05))):w.heap.size≤gb204));have n3_:=Aside0.mk ((by rw [hg];exact (z0m (by repeat (first|exact HB.out|apply z04|apply z03|apply z05))):w.heap.size≤gb204));clear HB;have HB:=n0_;have BK204:=n1_;have GW204:=n2_;have GE204:=n3_;clear n0_ n1_ n2_ n3_;clear hb hbox hg;have hcz5_0:w4.cell? ⟨gb204,0,none⟩=some (.int .i64 a0_0):=(z01 BK204.out 0).trans rfl;have hcz5_1:w4.cell? ⟨gb204,1,none⟩=some (.int .i64 a0_1):=(z01 BK204.out 1).trans rfl;have hcz5_2:w4.cell? ⟨gb204,2,none⟩=some (.int .i64 a0_2):=(z01 BK204.out 2).trans rfl;have hcz5_3:w4.cell? ⟨gb204,3,none⟩=some (.int .i64 a0_3):=(z01 BK204.out 3).trans rfl;have hcz5_4:w4.cell? ⟨gb204,4,none⟩=some (.int .u64 a0_4):=(z01 BK204.out 4).trans rfl;have hfz5_0:=z02 BK204.out 0;have hfz5_1:=z02 BK204.out 1;have hfz5_2:=z02 BK204.out 2;have hfz5_3:=z02 BK204.out 3;have hfz5_4:=z02 BK204.out 4)|((with_reducible refine z0u (f:=85) rfl ?_);refine z16 (some 9) rfl rfl Tryz.func85 (by kernel_rfl) rfl #[.agg #[.int .i64 a0_0,.int .i64 a0_1,.int .i64 a0_2,.int .i64 a0_3,.int .u64 a0_4]] rfl (by (try simp only [List.map_toArray,List.map_cons,List.map_nil]);first|done|rfl) ?_;(with_reducible refine (z0d.calls k a0_0 a0_1 a0_2 a0_3 a0_4 t205 _ A2.out).mono ?_);rintro e w6 ⟨rfl,hb⟩;refine ⟨_,rfl,?_⟩;have n0_:=Aside0.mk (z0t (g:=gb204) (o:=.cells #[.int .i64 a0_0,.int .i64 a0_1,.int .i64 a0_2,.int .i64 a0_3,.int .u64 a0_4] 79 (0,0)) (by (with_reducible repeat (first|refine z08 ?_ _|refine z09 ?_|refine z06 ?_ _));exact BK204.out) hb);have n1_:=Aside0.mk (z0s (by repeat (first|(with_reducible first|exact HB.out|apply z04|apply z03|apply z05|refine z07 ?_ GE204.out)|exact HB.out)) hb);clear BK204;clear HB;have BK204:=n0_;have HB:=n1_;clear n0_ n1_;(try clear hb);(try clear hb2);(try clear hk);(try clear hi)))
  go_ret2
  exact ⟨_,by first|rfl|(simp [z0j,z0i] <;> rfl)|(simp [*,z0j,z0i] <;> rfl),by first|exact Kd.R_nil _ _ _ _ _|exact Kd.N_nil _ _ _ _ _|exact Kd.V_nil _ _ _ _ _|exact Kd.Q_nil _ _ _ _ _|exact Kd.S_nil _ _ _ _ _,by repeat (first|(with_reducible first|exact HB.out|apply z04|apply z03|apply z05|refine z07 ?_ GE204.out)|exact HB.out)⟩
 ·rw [if_neg c3] at H;have c3b0:(t205 == 0)=false:=beq_eq_false_iff_ne.mpr c3;have c3b1:(t205 != 0)=true:=bne_iff_ne.mpr c3
  by_cases c7:t205 > 0
  ·rw [if_pos c7] at H;have c7b0:decide (0 < t205)=true:=decide_eq_true c7;clear c7;simp only [Option.some.injEq,Prod.mk.injEq] at H;obtain ⟨rfl,rfl⟩:=H
   go_enter Tryz.func57,Tryz.ntmps57
   go_wp2_with (first|((with_reducible refine z14 (N:=1) rfl ?_);refine z1b ?hg (N:=1) ?hd (cs:=#[.int .i64 a0_0,.int .i64 a0_1,.int .i64 a0_2,.int .i64 a0_3,.int .u64 a0_4]) (t:=79) ?hr ?_;(case hd=>rfl);(case hg=>rfl);(case hr=>first|(go_simp;done)|(go_simp;rfl));intro gb204 hg w8 hbox hb;have n0_:=Aside0.mk (z0s (by repeat (first|exact HB.out|apply z04|apply z03|apply z05)) hb);have n1_:=Aside0.mk (hbox);have n2_:=Aside0.mk ((by rw [hg];exact (z0m (by repeat (first|exact HB.out|apply z04|apply z03|apply z05))):w.heap.size≤gb204));have n3_:=Aside0.mk ((by rw [hg];exact (z0m (by repeat (first|exact HB.out|apply z04|apply z03|apply z05))):w.heap.size≤gb204));clear HB;have HB:=n0_;have BK204:=n1_;have GW204:=n2_;have GE204:=n3_;clear n0_ n1_ n2_ n3_;clear hb hbox hg;have hcz9_0:w8.cell? ⟨gb204,0,none⟩=some (.int .i64 a0_0):=(z01 BK204.out 0).trans rfl;have hcz9_1:w8.cell? ⟨gb204,1,none⟩=some (.int .i64 a0_1):=(z01 BK204.out 1).trans rfl;have hcz9_2:w8.cell? ⟨gb204,2,none⟩=some (.int .i64 a0_2):=(z01 BK204.out 2).trans rfl;have hcz9_3:w8.cell? ⟨gb204,3,none⟩=some (.int .i64 a0_3):=(z01 BK204.out 3).trans rfl;have hcz9_4:w8.cell? ⟨gb204,4,none⟩=some (.int .u64 a0_4):=(z01 BK204.out 4).trans rfl;have hfz9_0:=z02 BK204.out 0;have hfz9_1:=z02 BK204.out 1;have hfz9_2:=z02 BK204.out 2;have hfz9_3:=z02 BK204.out 3;have hfz9_4:=z02 BK204.out 4)|((with_reducible refine z0u (f:=85) rfl ?_);refine z16 (some 9) rfl rfl Tryz.func85 (by kernel_rfl) rfl #[.agg #[.int .i64 a0_0,.int .i64 a0_1,.int .i64 a0_2,.int .i64 a0_3,.int .u64 a0_4]] rfl (by (try simp only [List.map_toArray,List.map_cons,List.map_nil]);first|done|rfl) ?_;(with_reducible refine (z0d.calls k a0_0 a0_1 a0_2 a0_3 a0_4 t205 _ A2.out).mono ?_);rintro e w10 ⟨rfl,hb⟩;refine ⟨_,rfl,?_⟩;have n0_:=Aside0.mk (z0t (g:=gb204) (o:=.cells #[.int .i64 a0_0,.int .i64 a0_1,.int .i64 a0_2,.int .i64 a0_3,.int .u64 a0_4] 79 (0,0)) (by (with_reducible repeat (first|refine z08 ?_ _|refine z09 ?_|refine z06 ?_ _));exact BK204.out) hb);have n1_:=Aside0.mk (z0s (by repeat (first|(with_reducible first|exact HB.out|apply z04|apply z03|apply z05|refine z07 ?_ GE204.out)|exact HB.out)) hb);clear BK204;clear HB;have BK204:=n0_;have HB:=n1_;clear n0_ n1_;(try clear hb);(try clear hb2);(try clear hk);(try clear hi)))
   go_ret2
   exact ⟨_,by first|rfl|(simp [z0j,z0i] <;> rfl)|(simp [*,z0j,z0i] <;> rfl),by first|exact Kd.R_nil _ _ _ _ _|exact Kd.N_nil _ _ _ _ _|exact Kd.V_nil _ _ _ _ _|exact Kd.Q_nil _ _ _ _ _|exact Kd.S_nil _ _ _ _ _,by repeat (first|(with_reducible first|exact HB.out|apply z04|apply z03|apply z05|refine z07 ?_ GE204.out)|exact HB.out)⟩
  ·rw [if_neg c7] at H;have c7b0:decide (0 < t205)=false:=decide_eq_false c7;clear c7
   by_cases c11:8≤281474976710656
   ·rw [if_pos c11] at H;have c11b0:=eq_true c11;have c11b1:decide (8≤281474976710656)=true:=decide_eq_true c11;clear c11;obtain ⟨y206,hy206⟩:∃ y_:List Int,y_=(List.replicate 8 0):=⟨_,rfl⟩;replace H:(z0q.l0 k y206 a0_4 7 a0_0 a0_1 a0_2 a0_3 a0_4)=some (r1,r2):=by first|(rw [hy206];with_reducible exact H)|(have H2_:=(Option.bind_some _ _).symm.trans H;rw [hy206];with_reducible exact H2_)|(have H2_:=(Option.bind_some _ _).symm.trans H;with_reducible exact H2_)|with_reducible exact H|(rw [hy206];exact H)|exact H
    have Ny206:=Aside0.mk hy206;clear hy206;have H':=Aside0.mk H;clear H
    go_enter Tryz.func57,Tryz.ntmps57
    go_wp2_with (first|((with_reducible refine z14 (N:=1) rfl ?_);refine z1b ?hg (N:=1) ?hd (cs:=#[.int .i64 a0_0,.int .i64 a0_1,.int .i64 a0_2,.int .i64 a0_3,.int .u64 a0_4]) (t:=79) ?hr ?_;(case hd=>rfl);(case hg=>rfl);(case hr=>first|(go_simp;done)|(go_simp;rfl));intro gb204 hg w12 hbox hb;have n0_:=Aside0.mk (z0s (by repeat (first|exact HB.out|apply z04|apply z03|apply z05)) hb);have n1_:=Aside0.mk (hbox);have n2_:=Aside0.mk ((by rw [hg];exact (z0m (by repeat (first|exact HB.out|apply z04|apply z03|apply z05))):w.heap.size≤gb204));have n3_:=Aside0.mk ((by rw [hg];exact (z0m (by repeat (first|exact HB.out|apply z04|apply z03|apply z05))):w.heap.size≤gb204));clear HB;have HB:=n0_;have BK204:=n1_;have GW204:=n2_;have GE204:=n3_;clear n0_ n1_ n2_ n3_;clear hb hbox hg;have hcz13_0:w12.cell? ⟨gb204,0,none⟩=some (.int .i64 a0_0):=(z01 BK204.out 0).trans rfl;have hcz13_1:w12.cell? ⟨gb204,1,none⟩=some (.int .i64 a0_1):=(z01 BK204.out 1).trans rfl;have hcz13_2:w12.cell? ⟨gb204,2,none⟩=some (.int .i64 a0_2):=(z01 BK204.out 2).trans rfl;have hcz13_3:w12.cell? ⟨gb204,3,none⟩=some (.int .i64 a0_3):=(z01 BK204.out 3).trans rfl;have hcz13_4:w12.cell? ⟨gb204,4,none⟩=some (.int .u64 a0_4):=(z01 BK204.out 4).trans rfl;have hfz13_0:=z02 BK204.out 0;have hfz13_1:=z02 BK204.out 1;have hfz13_2:=z02 BK204.out 2;have hfz13_3:=z02 BK204.out 3;have hfz13_4:=z02 BK204.out 4)|((with_reducible refine z0u (f:=85) rfl ?_);refine z16 (some 9) rfl rfl Tryz.func85 (by kernel_rfl) rfl #[.agg #[.int .i64 a0_0,.int .i64 a0_1,.int .i64 a0_2,.int .i64 a0_3,.int .u64 a0_4]] rfl (by (try simp only [List.map_toArray,List.map_cons,List.map_nil]);first|done|rfl) ?_;(with_reducible refine (z0d.calls k a0_0 a0_1 a0_2 a0_3 a0_4 t205 _ A2.out).mono ?_);rintro e w14 ⟨rfl,hb⟩;refine ⟨_,rfl,?_⟩;have n0_:=Aside0.mk (z0t (g:=gb204) (o:=.cells #[.int .i64 a0_0,.int .i64 a0_1,.int .i64 a0_2,.int .i64 a0_3,.int .u64 a0_4] 79 (0,0)) (by (with_reducible repeat (first|refine z08 ?_ _|refine z09 ?_|refine z06 ?_ _));exact BK204.out) hb);have n1_:=Aside0.mk (z0s (by repeat (first|(with_reducible first|exact HB.out|apply z04|apply z03|apply z05|refine z07 ?_ GE204.out)|exact HB.out)) hb);clear BK204;clear HB;have BK204:=n0_;have HB:=n1_;clear n0_ n1_;(try clear hb);(try clear hb2);(try clear hk);(try clear hi))|((with_reducible refine z14 (N:=14) rfl ?_);refine Kd.R_make (Kd.int .u8) _ 5 rfl (N:=14) rfl 22 _ _ rfl 8 rfl rfl Tryz.underlying22 (.int .u8 0) 1 info5 rfl (by decide) (by omega) 0 (ok:=fun _=>True) (okp:=fun _=>True) rfl (fun _ hk=>hk) trivial (by omega) (by omega) (Below.refl _ _) (Nat.le_refl _) ?_;intro v207 w15 ho16 hb hg_ hnew_;clear hg_ hnew_;(first|rw [← Ny206.out] at ho16|(simp only [Int.reduceToNat] at ho16;rw [← Ny206.out] at ho16));have n0_:=Aside0.mk (Kd.R_lower ho16 (z0m (by repeat (first|(with_reducible first|exact HB.out|apply z04|apply z03|apply z05|refine z07 ?_ GE204.out)|exact HB.out))));have n1_:=Aside0.mk (z0t (g:=gb204) (o:=.cells #[.int .i64 a0_0,.int .i64 a0_1,.int .i64 a0_2,.int .i64 a0_3,.int .u64 a0_4] 79 (0,0)) (by (with_reducible repeat (first|refine z08 ?_ _|refine z09 ?_|refine z06 ?_ _));exact BK204.out) hb);have n2_:=Aside0.mk (z0s (by repeat (first|(with_reducible first|exact HB.out|apply z04|apply z03|apply z05|refine z07 ?_ GE204.out)|exact HB.out)) hb);clear BK204;clear HB;have HO208:=n0_;have BK204:=n1_;have HB:=n2_;clear n0_ n1_ n2_;clear hb ho16;have hcz17_0:w15.cell? ⟨gb204,0,none⟩=some (.int .i64 a0_0):=(z01 BK204.out 0).trans rfl;have hcz17_1:w15.cell? ⟨gb204,1,none⟩=some (.int .i64 a0_1):=(z01 BK204.out 1).trans rfl;have hcz17_2:w15.cell? ⟨gb204,2,none⟩=some (.int .i64 a0_2):=(z01 BK204.out 2).trans rfl;have hcz17_3:w15.cell? ⟨gb204,3,none⟩=some (.int .i64 a0_3):=(z01 BK204.out 3).trans rfl;have hcz17_4:w15.cell? ⟨gb204,4,none⟩=some (.int .u64 a0_4):=(z01 BK204.out 4).trans rfl;have hfz17_0:=z02 BK204.out 0;have hfz17_1:=z02 BK204.out 1;have hfz17_2:=z02 BK204.out 2;have hfz17_3:=z02 BK204.out 3;have hfz17_4:=z02 BK204.out 4))
    go_loopg [6,7] k (fun kq v6 v7 w'=>∃ (x5_1:List Int) (x6_1:Int) (x7_1:Int),v6=.int .u64 x6_1∧v7=.int .i64 x7_1∧Aside0 (z0q.l0 kq x5_1 x6_1 x7_1 a0_0 a0_1 a0_2 a0_3 a0_4=some (r1,r2))∧Aside0 (kq≤k)∧Aside0 (Kd.R (Kd.int .u8) 5 w' w.heap.size (fun _=>True) v207 x5_1)∧Aside0 (w'.heap[gb204]?=some (.cells #[.int .i64 a0_0,.int .i64 a0_1,.int .i64 a0_2,.int .i64 a0_3,.int .u64 a0_4] 79 (0,0)))∧Aside0 (Below w.heap.size w w'))
    case atStart=>exact ⟨(y206),(a0_4),(7),(by first|rfl|(simp;done)|(simp [*];done)),(by first|rfl|(simp;done)|(simp [*];done)),H',⟨Nat.le_refl _⟩,⟨by (with_reducible repeat (first|apply Kd.R_alloc|apply Kd.R_drewN|apply Kd.R_drew));exact HO208.out⟩,⟨by (with_reducible repeat (first|refine z08 ?_ _|refine z09 ?_|refine z06 ?_ _));exact BK204.out⟩,⟨by repeat (first|(with_reducible first|exact HB.out|apply z04|apply z03|apply z05|refine z07 ?_ GE204.out)|exact HB.out)⟩⟩
    case round =>
     clear H';obtain ⟨x5_1,x6_1,x7_1,rfl,rfl,HA,HK1,HO_5,BK204,HB⟩:=hrel;cases gk with
     | zero=>exact absurd HA.out (by simp [z0q.l0])
     | succ k1 =>
      have H:=HA.out;clear HA;simp only [z0q.l0] at H
      by_cases c18:x7_1 ≥ 0
      ·rw [if_pos c18] at H;have c18b0:decide (0≤x7_1)=true:=decide_eq_true c18;clear c18
       by_cases c19:0≤x7_1
       ·rw [if_pos c19] at H;have c19b0:decide (0≤x7_1)=true:=decide_eq_true c19;clear c19
        by_cases c20:x7_1 < (x5_1.length:Int)
        ·rw [if_pos c20] at H;have c20b0:decide (x7_1 < (x5_1.length:Int))=true:=decide_eq_true c20;clear c20;obtain ⟨y209,hy209⟩:∃ y_:List Int,y_=(x5_1.set (x7_1:Int).toNat ((Int.tmod x6_1 256) % 256)):=⟨_,rfl⟩;replace H:(z0q.l0 k1 y209 (IntKind.u64.wrap (Int.tdiv x6_1 256)) (wrap64 (x7_1 - 1)) a0_0 a0_1 a0_2 a0_3 a0_4)=some (r1,r2):=by first|(rw [hy209];with_reducible exact H)|(have H2_:=(Option.bind_some _ _).symm.trans H;rw [hy209];with_reducible exact H2_)|(have H2_:=(Option.bind_some _ _).symm.trans H;with_reducible exact H2_)|with_reducible exact H|(rw [hy209];exact H)|exact H
         have Ny209:=Aside0.mk hy209;clear hy209;have H':=Aside0.mk H;clear H;have p21:0≤(x7_1:Int):=of_decide_eq_true (by assumption);have q21:(x7_1:Int) < ((x5_1.length:Int):Int):=of_decide_eq_true (by assumption);obtain ⟨go21,co21,eo21,gb21,gl21,cl21,HG21⟩:=Kd.R_form HO_5.out (by omega)
         (first|cases eo21|(injection eo21 with ea_ en_ ec_;(first|subst ea_|(injection ea_ with ea_;subst ea_));subst ec_;clear en_))
         have GB21:=Aside0.mk gb21;have GG21:=Aside0.mk HG21;clear gb21 gl21 HG21;obtain ⟨hx21_0,hf21_0⟩:=Kd.R_celln 0 HO_5.out (x7_1:Int) p21 q21;replace p21:=eq_true p21;replace q21:=eq_true q21;have HP22:=Kd.R_putg HO_5.out (x7_1:Int) ((Int.tmod x6_1 256) % 256)
         go_wp2_with (first|((with_reducible refine gate_store (t:=5) (p:=26) rfl ?_);refine store_event (t:=5) (p:=26) (v:=?vo_w23) (w1:=(wr.setCell ⟨go21,(x7_1:Int).toNat,none⟩ (.int .u8 ((Int.tmod x6_1 256) % 256)))) ?hg ?ho ?hn ?hr ?_;(case ho=>rfl);(case hg=>rfl);(case hn=>rfl);(case hr=>first|(go_simp;done)|(go_simp;rfl));intro w23 hw;have hg:wr.grownBy w23 (some go21):=(by rw [hw];exact HP22.2);have hp_:Kd.R (Kd.int .u8) 5 w23 w.heap.size (fun _=>True) (.slice (some ⟨go21,0,none⟩) x5_1.length co21) y209:=(by rw [hw,Ny209.out];exact HP22.1);clear HP22;have n0_:=Aside0.mk (hp_);have n1_:=Aside0.mk (z2k (g:=gb204) (o:=.cells #[.int .i64 a0_0,.int .i64 a0_1,.int .i64 a0_2,.int .i64 a0_3,.int .u64 a0_4] 79 (0,0)) (by (with_reducible repeat (first|refine z08 ?_ _|refine z09 ?_|refine z06 ?_ _));exact BK204.out) hg (Kd.R_ne HO_5.out BK204.out (by decide)));have n2_:=Aside0.mk ((by rw [hw];exact z07 (HB.out) GB21.out:Below w.heap.size w w23));clear HO_5;clear BK204;clear HB;have HO_5:=n0_;have BK204:=n1_;have HB:=n2_;clear n0_ n1_ n2_;clear hg hw hp_))
         go_roundg k1
         case measure=>have:=HK1.out;omega
         case rel=>exact ⟨(y209),(IntKind.u64.wrap (Int.tdiv x6_1 256)),(wrap64 (x7_1 - 1)),(by first|rfl|(simp;done)|(simp [*];done)),(by first|rfl|(simp;done)|(simp [*];done)),H',⟨by have:=HK1.out;omega⟩,⟨by (with_reducible repeat (first|apply Kd.R_alloc|apply Kd.R_drewN|apply Kd.R_drew));exact HO_5.out⟩,⟨by (with_reducible repeat (first|refine z08 ?_ _|refine z09 ?_|refine z06 ?_ _));exact BK204.out⟩,⟨by repeat (first|(with_reducible first|exact HB.out|apply z04|apply z03|apply z05|refine z07 ?_ GE204.out)|exact HB.out)⟩⟩
        ·rw [if_neg c20] at H;exact absurd H (by simp)
       ·rw [if_neg c19] at H;exact absurd H (by simp)
      ·rw [if_neg c18] at H;have c18b0:decide (0≤x7_1)=false:=decide_eq_false c18;clear c18;obtain ⟨y210,hy210⟩:∃ y_:List Int,y_=(([(a0_0) % 256,(a0_1) % 256,(a0_2) % 256,(a0_3) % 256]:List Int)):=⟨_,rfl⟩;replace H:(if y210.length+x5_1.length < 140737488355328 then (some ((y210 ++ x5_1),0)) else (none))=some (r1,r2):=by first|(rw [hy210];with_reducible exact H)|(have H2_:=(Option.bind_some _ _).symm.trans H;rw [hy210];with_reducible exact H2_)|(have H2_:=(Option.bind_some _ _).symm.trans H;with_reducible exact H2_)|with_reducible exact H|(rw [hy210];exact H)|exact H
       have Ny210:=Aside0.mk hy210;clear hy210
       by_cases c24:y210.length+x5_1.length < 140737488355328
       ·rw [if_pos c24] at H;have LMc24:=Aside0.mk c24;clear c24;obtain ⟨y213,hy213⟩:∃ y_:List Int,y_=(y210 ++ x5_1):=⟨_,rfl⟩;replace H:(some (y213,0))=some (r1,r2):=by first|(rw [hy213];with_reducible exact H)|(have H2_:=(Option.bind_some _ _).symm.trans H;rw [hy213];with_reducible exact H2_)|(have H2_:=(Option.bind_some _ _).symm.trans H;with_reducible exact H2_)|with_reducible exact H|(rw [hy213];exact H)|exact H
        have Ny213:=Aside0.mk hy213;clear hy213;simp only [Option.some.injEq,Prod.mk.injEq] at H;obtain ⟨rfl,rfl⟩:=H;have hcz25_0:wr.cell? ⟨gb204,0,none⟩=some (.int .i64 a0_0):=(z01 BK204.out 0).trans rfl;have hcz25_1:wr.cell? ⟨gb204,1,none⟩=some (.int .i64 a0_1):=(z01 BK204.out 1).trans rfl;have hcz25_2:wr.cell? ⟨gb204,2,none⟩=some (.int .i64 a0_2):=(z01 BK204.out 2).trans rfl;have hcz25_3:wr.cell? ⟨gb204,3,none⟩=some (.int .i64 a0_3):=(z01 BK204.out 3).trans rfl;have hcz25_4:wr.cell? ⟨gb204,4,none⟩=some (.int .u64 a0_4):=(z01 BK204.out 4).trans rfl;have hfz25_0:=z02 BK204.out 0;have hfz25_1:=z02 BK204.out 1;have hfz25_2:=z02 BK204.out 2;have hfz25_3:=z02 BK204.out 3;have hfz25_4:=z02 BK204.out 4
        go_wp2_with (first|((with_reducible refine z14 (N:=41) rfl ?_);refine Kd.R_lit (Kd.int .u8) _ 5 ?hg (N:=41) ?hd (xs:=([(a0_0) % 256,(a0_1) % 256,(a0_2) % 256,(a0_3) % 256]:List Int)) (inner:=[.int .u8 ((a0_0) % 256),.int .u8 ((a0_1) % 256),.int .u8 ((a0_2) % 256),.int .u8 ((a0_3) % 256)]) (ok:=fun _=>True) (okp:=fun _=>True) ?hr ?hp (fun _ hk=>hk) trivial (Below.refl _ _) (Nat.le_refl _) (by simp) ?_;(case hd=>rfl);(case hg=>rfl);(case hr=>first|(go_simp;done)|(go_simp;rfl));(case hp=>exact (Reps.one (show Kd.M (Kd.int .u8) _ _ _ ((a0_0) % 256) [.int .u8 ((a0_0) % 256)] from rfl) (Reps.one (show Kd.M (Kd.int .u8) _ _ _ ((a0_1) % 256) [.int .u8 ((a0_1) % 256)] from rfl) (Reps.one (show Kd.M (Kd.int .u8) _ _ _ ((a0_2) % 256) [.int .u8 ((a0_2) % 256)] from rfl) (Reps.one (show Kd.M (Kd.int .u8) _ _ _ ((a0_3) % 256) [.int .u8 ((a0_3) % 256)] from rfl) (Reps.none _ _))))));intro v211 w26 ho27 hb hg_ hnew_;clear hg_ hnew_;(first|rw [← Ny210.out] at ho27|(simp only [Int.reduceToNat] at ho27;rw [← Ny210.out] at ho27));have n0_:=Aside0.mk (Kd.R_elder' (by (with_reducible repeat (first|apply Kd.R_alloc|apply Kd.R_drewN|apply Kd.R_drew));exact HO_5.out) (Kd.R_base ho27) hb);have n1_:=Aside0.mk (Kd.R_lower (Kd.R_new' ho27 (Kd.R_lt (by (with_reducible repeat (first|apply Kd.R_alloc|apply Kd.R_drewN|apply Kd.R_drew));exact HO_5.out))) (z0m (by repeat (first|(with_reducible first|exact HB.out|apply z04|apply z03|apply z05|refine z07 ?_ GE204.out)|exact HB.out))));have n2_:=Aside0.mk (z0t (g:=gb204) (o:=.cells #[.int .i64 a0_0,.int .i64 a0_1,.int .i64 a0_2,.int .i64 a0_3,.int .u64 a0_4] 79 (0,0)) (by (with_reducible repeat (first|refine z08 ?_ _|refine z09 ?_|refine z06 ?_ _));exact BK204.out) hb);have n3_:=Aside0.mk (z0s (by repeat (first|(with_reducible first|exact HB.out|apply z04|apply z03|apply z05|refine z07 ?_ GE204.out)|exact HB.out)) hb);clear HO_5;clear BK204;clear HB;have HO_5:=n0_;have HO212:=n1_;have BK204:=n2_;have HB:=n3_;clear n0_ n1_ n2_ n3_;clear hb ho27;obtain ⟨Ao29,co29,eo29⟩:=Kd.R_slice HO_5.out;subst eo29)|((with_reducible refine z2x (b:=.append) (xs:=#[.tmp 41,.tmp 42]) rfl ?_);at_builtin;refine Kd.R_append_rows (Kd.int .u8) (w0:=w) w.heap.size rfl (.tmp 41) (.tmp 42) 22 5 (.int .u8 0) 1 rfl Tryz.underlying22 info5 rfl (by decide) (by omega) v211 y210 x5_1 _ _ _ (fun k_=>some k_≠(.slice Ao29 x5_1.length co29:Value).ownBlock) (fun _=>False) rfl rfl ?aO ?aR (fun _ _ h=>h) (fun _ h=>h.elim) ?aF ?aB ?aS ?aL ?_;(case aR=>repeat (first|exact (Kd.R_reads' HO_5.out).2.2|(with_reducible refine Kd.C_alloc ?_ _)|(with_reducible refine Kd.C_drewN ?_ _)|(with_reducible refine Kd.C_drew ?_)));(case aB=>exact (by repeat (first|(with_reducible first|exact HB.out|apply z04|apply z03|apply z05|refine z07 ?_ GE204.out)|exact HB.out)));(case aF=>exact (fun k_ hk=>Kd.fresh' (Kd.R_lt (by (with_reducible repeat (first|apply Kd.R_alloc|apply Kd.R_drewN|apply Kd.R_drew));exact HO_5.out)) k_ hk));(case aO=>exact (by (with_reducible repeat (first|apply Kd.R_alloc|apply Kd.R_drewN|apply Kd.R_drew));exact Kd.R_mono HO212.out (fun _ hk=>hk.2)));(case aS=>exact (z0m (by repeat (first|(with_reducible first|exact HB.out|apply z04|apply z03|apply z05|refine z07 ?_ GE204.out)|exact HB.out))));(case aL=>have:=LMc24.out;omega);intro v214 w28 ho hb hg hat;rw [← Ny213.out] at ho;have n0_:=Aside0.mk (Kd.R_after (ok:=(fun _=>True)) (by (with_reducible repeat (first|apply Kd.R_alloc|apply Kd.R_drewN|apply Kd.R_drew));exact HO_5.out) hg hat);have n1_:=Aside0.mk (z2k (g:=gb204) (o:=.cells #[.int .i64 a0_0,.int .i64 a0_1,.int .i64 a0_2,.int .i64 a0_3,.int .u64 a0_4] 79 (0,0)) (by (with_reducible repeat (first|refine z08 ?_ _|refine z09 ?_|refine z06 ?_ _));exact BK204.out) hg (Kd.R_ne HO212.out BK204.out (by decide)));have n2_:=Aside0.mk (hb);have n3_:=Aside0.mk (ho);clear HO_5;clear BK204;clear HB;clear HO212;have HO_5:=n0_;have BK204:=n1_;have HB:=n2_;have HO215:=n3_;clear n0_ n1_ n2_ n3_;clear ho hb hg hat))
        go_ret2
        exact ⟨_,by first|rfl|(simp [z0j,z0i] <;> rfl)|(simp [*,z0j,z0i] <;> rfl),by (with_reducible repeat (first|apply Kd.R_alloc|apply Kd.R_drewN|apply Kd.R_drew));exact Kd.R_mono HO215.out (fun _ hk=>trivial),by repeat (first|(with_reducible first|exact HB.out|apply z04|apply z03|apply z05|refine z07 ?_ GE204.out)|exact HB.out)⟩
       ·rw [if_neg c24] at H;exact absurd H (by simp)
   ·rw [if_neg c11] at H;exact absurd H (by simp)
end Go.Proofs.YtcbnhfnnjkkceaaGreat.X
end
