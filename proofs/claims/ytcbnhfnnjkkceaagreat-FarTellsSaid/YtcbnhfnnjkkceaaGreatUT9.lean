/- For the statement of the row : what its proof needs of the text T9. -/
import Derived.Deep.Slices
import Derived.ChangeArms
import Derived.WideShapes
import Derived.DataReads
import Derived.Test.YtcbnhfnnjkkceaaGreatRows
import Derived.WalkKit
import Derived.ProofKit
import Derived.OpenShut
import Derived.ShutString
import Derived.ChangeOld
import Derived.Below
import Derived.SizedLaws
import Derived.Test.YtcbnhfnnjkkceaaGreatUT1
import Derived.Test.YtcbnhfnnjkkceaaGreatUT2
import Derived.Test.YtcbnhfnnjkkceaaGreatUT3
import Derived.Test.YtcbnhfnnjkkceaaGreatUT4
import Derived.Test.YtcbnhfnnjkkceaaGreatUT5
import Derived.Test.YtcbnhfnnjkkceaaGreatUT6
import Derived.Test.YtcbnhfnnjkkceaaGreatUT7
import Derived.Test.YtcbnhfnnjkkceaaGreatUT8
set_option maxHeartbeats 8000000
set_option maxRecDepth 100000
set_option linter.constructorNameAsVariable false
set_option linter.unusedSimpArgs false
set_option linter.unusedVariables false

section
namespace Go.Proofs.YtcbnhfnnjkkceaaGreat.X
open Go.RowKit Go.Proofs.YtcbnhfnnjkkceaaGreatW.PrintWords Go.Proofs.YtcbnhfnnjkkceaaGreatW.PrintLast Go.Proofs.YtcbnhfnnjkkceaaGreatW.PrintMore Go.Proofs.YtcbnhfnnjkkceaaGreat.Gr
theorem GrM.below {w w1:World} {g B:Nat} {p:Im} (h:GrM w g B p) (hb:Below w.heap.size w w1):GrM w1 g B p:=by
 obtain ⟨h0,dv,fv,cv,bs,n,V,h1,h2,h3,h4⟩:=h;exact ⟨h0,dv,fv,cv,bs,n,V,h1.keep fun k hk=>hb.block k (h1.ne h2 hk).1,(hb.block g (z15 h2)).trans h2,h3.keep fun i hi=>hb.block i (h3.in_lt hi).2.1,h4⟩
theorem GrM.lt {w:World} {g B:Nat} {p:Im} (h:GrM w g B p):g < w.heap.size:=by
 obtain ⟨h0,dv,fv,cv,bs,n,V,h1,h2,h3,h4⟩:=h;exact z15 h2
def RowPost (w:World) (g B:Nat) (p:Im) (l:List Int) (e:Ending) (w':World):Prop:=∃ v,e=.returned v∧Kd.R (Kd.int .i64) 3 w' w.heap.size (fun _=>True) v l∧GrM w' g B p∧Fr w w' (fun i=>i=g)
def RowPost2 (w:World) (g B:Nat) (p:Im) (l:List Int) (e:Ending) (w':World):Prop:=RowPost w g B p l e w'∧∀ Y,GrY w g B p Y→GrY w' g B p (fun i=>Y i∨w.heap.size≤i)
set_option maxHeartbeats 4000000 in
theorem rowNext2 {w:World} {g B b:Nat} {p:Im} (hp:Rt p) (hg:Gr w g B p) (hb:w.heap[b]?=some (.cells #[.pointer (some ⟨g,0,none⟩)] 29 (0,0))) {x:Int} (hx:Gr.wfI x) :
  Calls Tryz.prog 59 #[.pointer (some ⟨g,0,none⟩),.func (.func 60) #[] #[.pointer (some ⟨b,0,none⟩)],.int .i64 x] w (RowPost2 w g B p (nextL p x)):=by
 have HDO:=Aside0.mk (do_calls2 hp hg);have HLT:=Aside0.mk hg.lt;have hbg:b≠g:=fun e=>by
  obtain ⟨c,hc⟩:=hg.typed;rw [e,hc] at hb;injection hb with hb
  injection hb with _ hb
  exact absurd hb (by decide)
 have HB:=Aside0.mk hb;have hmf:∀ (fn:Fn) (first cap:Array Value) (w:World),(Instr.makeFunc fn first cap).run Tryz.prog w=.ok (.func fn first cap) w:=fun _ _ _ _=>rfl
 clear hg hb
 go_enter Tryz.func59,Tryz.ntmps59
 go_wp2_with fail
 refine HDO.out.mono ?_;rintro e w1 ⟨rfl,hM,hF,hY⟩;have HY:=Aside0.mk hY;clear hY;have HM:=Aside0.mk hM;have HF:=Aside0.mk hF;obtain ⟨_,dv,fv,cv,bs,n,V,hgp,hh,ht,hn⟩:=hM;have c0:=cell_of_one ((hF.block b (z15 HB.out) hbg).trans HB.out);have c1:w1.cell? ⟨g,9+0,none⟩=some (.map (some (bs 0))):=(z02 hh (9+0)).trans rfl;have hlk:=(ht.maps 0 (by omega)).look mt hx;have hrow:=ints_R (ht.rows 0 x (by omega) hx);have hlen:=ht.len 0 x (by omega) hx;obtain ⟨A,c,ev⟩:=Kd.R_slice hrow;rw [ev] at hlk hrow;have HCL:=Aside0.mk (clone_int A c (rowsG p 0 x) w1 (Kd.R_reads' hrow).2.2 (Kd.R_reads' hrow).2.1 (by omega));have HSZ:=Aside0.mk hF.size;clear hF hgp hh ht hrow hlen ev
 go_wp2_with (first|(go_at_call 83;refine HCL.out.mono ?_;rintro e w2 ⟨v,rfl,hR,hB2⟩)|go_in)
 go_ret
 exact ⟨⟨_,rfl,Kd.R_lower hR HSZ.out,HM.out.below hB2,HF.out.trans (Fr.mono (Fr.of_below hB2) fun i h1 h2=>by omega)⟩,fun Y h=>(HY.out Y h).below hB2⟩
set_option maxHeartbeats 4000000 in
theorem graphNext2 {w:World} {g B:Nat} {p:Im} (hp:Rt p) (hg:Gr w g B p) {x:Int} (hx:Gr.wfI x) :
  Calls Tryz.prog 20 #[.pointer (some ⟨g,0,none⟩),.int .i64 x] w (RowPost2 w g B p (nextL p x)):=by
 have hbl:=z04 (Below.refl w.heap.size w) (.cells #[.pointer (some ⟨g,0,none⟩)] 29);have HR:=Aside0.mk (rowNext2 hp (hg.below hbl) (z21 w (.cells #[.pointer (some ⟨g,0,none⟩)] 29)) hx);have HF:=Aside0.mk (Fr.mono (Fr.of_below hbl) (S':=fun i=>i=g) fun i h1 h2=>by omega);have HSZ:=Aside0.mk hbl.size;have HBL:=Aside0.mk hbl;have hmf:∀ (fn:Fn) (first cap:Array Value) (w:World),(Instr.makeFunc fn first cap).run Tryz.prog w=.ok (.func fn first cap) w:=fun _ _ _ _=>rfl
 clear hg hbl
 go_enter Tryz.func20,Tryz.ntmps20
 go_wp2_with fail
 refine HR.out.mono ?_;rintro e w2 ⟨⟨v,rfl,hR,hM,hF⟩,hY⟩;have HY:=Aside0.mk hY;clear hY;have HRR:=Aside0.mk hR;have HM:=Aside0.mk hM;have HF2:=Aside0.mk hF;clear hR hM hF;go_wp2;go_ret
 exact ⟨⟨_,rfl,Kd.R_lower HRR.out HSZ.out,HM.out,HF.out.trans HF2.out⟩,fun Y h=>(HY.out Y (h.below HBL.out)).mono fun i hi=>hi.elim .inl fun h2=>.inr (Nat.le_trans HSZ.out h2)⟩
set_option maxHeartbeats 4000000 in
theorem rowPrev2 {w:World} {g B b:Nat} {p:Im} (hp:Rt p) (hg:Gr w g B p) (hb:w.heap[b]?=some (.cells #[.pointer (some ⟨g,0,none⟩)] 29 (0,0))) {x:Int} (hx:Gr.wfI x) :
  Calls Tryz.prog 59 #[.pointer (some ⟨g,0,none⟩),.func (.func 62) #[] #[.pointer (some ⟨b,0,none⟩)],.int .i64 x] w (RowPost2 w g B p (prevL p x)):=by
 have HDO:=Aside0.mk (do_calls2 hp hg);have HLT:=Aside0.mk hg.lt;have hbg:b≠g:=fun e=>by
  obtain ⟨c,hc⟩:=hg.typed;rw [e,hc] at hb;injection hb with hb
  injection hb with _ hb
  exact absurd hb (by decide)
 have HB:=Aside0.mk hb;have hmf:∀ (fn:Fn) (first cap:Array Value) (w:World),(Instr.makeFunc fn first cap).run Tryz.prog w=.ok (.func fn first cap) w:=fun _ _ _ _=>rfl
 clear hg hb
 go_enter Tryz.func59,Tryz.ntmps59
 go_wp2_with fail
 refine HDO.out.mono ?_;rintro e w1 ⟨rfl,hM,hF,hY⟩;have HY:=Aside0.mk hY;clear hY;have HM:=Aside0.mk hM;have HF:=Aside0.mk hF;obtain ⟨_,dv,fv,cv,bs,n,V,hgp,hh,ht,hn⟩:=hM;have c0:=cell_of_one ((hF.block b (z15 HB.out) hbg).trans HB.out);have c1:w1.cell? ⟨g,9+1,none⟩=some (.map (some (bs 1))):=(z02 hh (9+1)).trans rfl;have hlk:=(ht.maps 1 (by omega)).look mt hx;have hrow:=ints_R (ht.rows 1 x (by omega) hx);have hlen:=ht.len 1 x (by omega) hx;obtain ⟨A,c,ev⟩:=Kd.R_slice hrow;rw [ev] at hlk hrow;have HCL:=Aside0.mk (clone_int A c (rowsG p 1 x) w1 (Kd.R_reads' hrow).2.2 (Kd.R_reads' hrow).2.1 (by omega));have HSZ:=Aside0.mk hF.size;clear hF hgp hh ht hrow hlen ev
 go_wp2_with (first|(go_at_call 83;refine HCL.out.mono ?_;rintro e w2 ⟨v,rfl,hR,hB2⟩)|go_in)
 go_ret
 exact ⟨⟨_,rfl,Kd.R_lower hR HSZ.out,HM.out.below hB2,HF.out.trans (Fr.mono (Fr.of_below hB2) fun i h1 h2=>by omega)⟩,fun Y h=>(HY.out Y h).below hB2⟩
set_option maxHeartbeats 4000000 in
theorem graphPrev2 {w:World} {g B:Nat} {p:Im} (hp:Rt p) (hg:Gr w g B p) {x:Int} (hx:Gr.wfI x) :
  Calls Tryz.prog 22 #[.pointer (some ⟨g,0,none⟩),.int .i64 x] w (RowPost2 w g B p (prevL p x)):=by
 have hbl:=z04 (Below.refl w.heap.size w) (.cells #[.pointer (some ⟨g,0,none⟩)] 29);have HR:=Aside0.mk (rowPrev2 hp (hg.below hbl) (z21 w (.cells #[.pointer (some ⟨g,0,none⟩)] 29)) hx);have HF:=Aside0.mk (Fr.mono (Fr.of_below hbl) (S':=fun i=>i=g) fun i h1 h2=>by omega);have HSZ:=Aside0.mk hbl.size;have HBL:=Aside0.mk hbl;have hmf:∀ (fn:Fn) (first cap:Array Value) (w:World),(Instr.makeFunc fn first cap).run Tryz.prog w=.ok (.func fn first cap) w:=fun _ _ _ _=>rfl
 clear hg hbl
 go_enter Tryz.func22,Tryz.ntmps22
 go_wp2_with fail
 refine HR.out.mono ?_;rintro e w2 ⟨⟨v,rfl,hR,hM,hF⟩,hY⟩;have HY:=Aside0.mk hY;clear hY;have HRR:=Aside0.mk hR;have HM:=Aside0.mk hM;have HF2:=Aside0.mk hF;clear hR hM hF;go_wp2;go_ret
 exact ⟨⟨_,rfl,Kd.R_lower HRR.out HSZ.out,HM.out,HF.out.trans HF2.out⟩,fun Y h=>(HY.out Y (h.below HBL.out)).mono fun i hi=>hi.elim .inl fun h2=>.inr (Nat.le_trans HSZ.out h2)⟩
set_option maxHeartbeats 4000000 in
theorem graphImage {w:World} {g B:Nat} {p:Im} (hg:Gr w g B p) (hl3:p.f3.length≤100) (hl4:p.f4.length≤40) (hl5:p.f5.length≤300) :
  Calls Tryz.prog 18 #[.pointer (some ⟨g,0,none⟩)] w fun e w'=>∃ v3 v4 v5,e=.returned (.agg #[.int .i64 p.f0,.int .i64 p.f1,.int .i64 p.f2,v3,v4,v5]) ∧
   Kd.R (Kd.int .u8) 5 w' w.heap.size (fun _=>True) v3 p.f3∧Kd.R (Kd.int .i64) 3 w' w.heap.size (fun _=>True) v4 p.f4∧Kd.R k79 79 w' w.heap.size (fun _=>True) v5 p.f5∧Below w.heap.size w w':=by
 obtain ⟨hB,dv,fv,cv,hgp,hh⟩:=hg;have hcs:∃ d st m,w.heap[g]?=some (.cells (z1w p dv fv cv d st m) 97 (0,0)):=by
  rcases hh with hh|⟨bs,n,V,hh,_⟩
  ·exact ⟨_,_,_,hh⟩
  ·exact ⟨_,_,_,hh⟩
 obtain ⟨d,st,m,hc⟩:=hcs;clear hh;obtain ⟨A3,n3,c3,e3⟩:∃ A n c,dv=.slice A n c:=by obtain ⟨A,c,h⟩:=Kd.R_slice hgp.d;exact ⟨_,_,_,h⟩
 obtain ⟨A4,n4,c4,e4⟩:∃ A n c,fv=.slice A n c:=by obtain ⟨A,c,h⟩:=Kd.R_slice hgp.f;exact ⟨_,_,_,h⟩
 obtain ⟨A5,n5,c5,e5⟩:∃ A n c,cv=.slice A n c:=by obtain ⟨A,c,h⟩:=Kd.R_slice hgp.c;exact ⟨_,_,_,h⟩
 subst e3;subst e4;subst e5;obtain rfl:=(Kd.R_reads' hgp.d).1;obtain rfl:=(Kd.R_reads' hgp.f).1;obtain rfl:=(Kd.R_reads' hgp.c).1;have hbl:=z04 (Below.refl w.heap.size w) (Obj.cells #[.int .i64 0,.int .i64 0,.int .i64 0,.slice none 0 0,.slice none 0 0,.slice none 0 0] 26);have HC:=Aside0.mk (copied_calls p.f0 p.f1 p.f2 A3 c3 p.f3 A4 c4 p.f4 A5 c5 p.f5 (w.alloc (Obj.cells #[.int .i64 0,.int .i64 0,.int .i64 0,.slice none 0 0,.slice none 0 0,.slice none 0 0] 26))
  (Kd.C_below (Kd.R_reads' hgp.d).2.2 hbl) (Kd.R_reads' hgp.d).2.1 (Kd.C_below (Kd.R_reads' hgp.f).2.2 hbl) (Kd.R_reads' hgp.f).2.1 (Kd.C_below (Kd.R_reads' hgp.c).2.2 hbl) (Kd.R_reads' hgp.c).2.1 hl3 hl4 hl5)
 have hc1:=z08 hc (Obj.cells #[.int .i64 0,.int .i64 0,.int .i64 0,.slice none 0 0,.slice none 0 0,.slice none 0 0] 26);have k0:(w.alloc (Obj.cells #[.int .i64 0,.int .i64 0,.int .i64 0,.slice none 0 0,.slice none 0 0,.slice none 0 0] 26)).cell? ⟨g,0,none⟩=some (.int .i64 p.f0):=(z02 hc1 0).trans rfl;have k1:(w.alloc (Obj.cells #[.int .i64 0,.int .i64 0,.int .i64 0,.slice none 0 0,.slice none 0 0,.slice none 0 0] 26)).cell? ⟨g,1,none⟩=some (.int .i64 p.f1):=(z02 hc1 1).trans rfl;have k2:(w.alloc (Obj.cells #[.int .i64 0,.int .i64 0,.int .i64 0,.slice none 0 0,.slice none 0 0,.slice none 0 0] 26)).cell? ⟨g,2,none⟩=some (.int .i64 p.f2):=(z02 hc1 2).trans rfl;have k3:(w.alloc (Obj.cells #[.int .i64 0,.int .i64 0,.int .i64 0,.slice none 0 0,.slice none 0 0,.slice none 0 0] 26)).cell? ⟨g,3,none⟩=some (.slice A3 p.f3.length c3):=(z02 hc1 3).trans rfl;have k4:(w.alloc (Obj.cells #[.int .i64 0,.int .i64 0,.int .i64 0,.slice none 0 0,.slice none 0 0,.slice none 0 0] 26)).cell? ⟨g,4,none⟩=some (.slice A4 p.f4.length c4):=(z02 hc1 4).trans rfl;have k5:(w.alloc (Obj.cells #[.int .i64 0,.int .i64 0,.int .i64 0,.slice none 0 0,.slice none 0 0,.slice none 0 0] 26)).cell? ⟨g,5,none⟩=some (.slice A5 p.f5.length c5):=(z02 hc1 5).trans rfl;have BZ1:=Aside0.mk (z21 w (Obj.cells #[.int .i64 0,.int .i64 0,.int .i64 0,.slice none 0 0,.slice none 0 0,.slice none 0 0] 26));have HB1:=Aside0.mk hbl;clear hc1 hgp hc hbl
 go_enter Tryz.func18,Tryz.ntmps18
 go_wp2_with fail
 refine HC.out.mono ?_;rintro e w5 ⟨v3,v4,v5,rfl,h3,h4,h5,hB⟩;obtain ⟨A3',n3',c3',e3⟩:∃ A n c,v3=.slice A n c:=by obtain ⟨A,c,h⟩:=Kd.R_slice h3;exact ⟨_,_,_,h⟩
 obtain ⟨A4',n4',c4',e4⟩:∃ A n c,v4=.slice A n c:=by obtain ⟨A,c,h⟩:=Kd.R_slice h4;exact ⟨_,_,_,h⟩
 obtain ⟨A5',n5',c5',e5⟩:∃ A n c,v5=.slice A n c:=by obtain ⟨A,c,h⟩:=Kd.R_slice h5;exact ⟨_,_,_,h⟩
 subst e3;subst e4;subst e5;have BZ5:=Aside0.mk ((hB.block _ (z15 BZ1.out)).trans BZ1.out);have HB5:=Aside0.mk (z1m HB1.out HB1.out.size hB);have HR3d:=Aside0.mk (Kd.R_lower h3 HB1.out.size);have HR4d:=Aside0.mk (Kd.R_lower h4 HB1.out.size);have HR5d:=Aside0.mk (Kd.R_lower h5 HB1.out.size);clear h3 h4 h5 hB k0 k1 k2 k3 k4 k5 HC;have z0:=z02 BZ5.out 0;have z1:=z02 BZ5.out 1;have z2:=z02 BZ5.out 2;have z3:=z02 BZ5.out 3;have z4:=z02 BZ5.out 4;have z5:=z02 BZ5.out 5;have f0:=z01 BZ5.out 0;have f1:=z01 BZ5.out 1;have f2:=z01 BZ5.out 2;have f3:=z01 BZ5.out 3;have f4:=z01 BZ5.out 4;have f5:=z01 BZ5.out 5;go_wp2;have y0:=BZ5.out;have y1:=z10 y0 0 (.int .i64 p.f0) (cs':=#[.int .i64 p.f0,.int .i64 0,.int .i64 0,.slice none 0 0,.slice none 0 0,.slice none 0 0]) rfl;have y2:=z10 y1 1 (.int .i64 p.f1) (cs':=#[.int .i64 p.f0,.int .i64 p.f1,.int .i64 0,.slice none 0 0,.slice none 0 0,.slice none 0 0]) rfl;have y3:=z10 y2 2 (.int .i64 p.f2) (cs':=#[.int .i64 p.f0,.int .i64 p.f1,.int .i64 p.f2,.slice none 0 0,.slice none 0 0,.slice none 0 0]) rfl;have y4:=z10 y3 3 (.slice A3' n3' c3') (cs':=#[.int .i64 p.f0,.int .i64 p.f1,.int .i64 p.f2,.slice A3' n3' c3',.slice none 0 0,.slice none 0 0]) rfl;have y5:=z10 y4 4 (.slice A4' n4' c4') (cs':=#[.int .i64 p.f0,.int .i64 p.f1,.int .i64 p.f2,.slice A3' n3' c3',.slice A4' n4' c4',.slice none 0 0]) rfl;have y6:=z10 y5 5 (.slice A5' n5' c5') (cs':=#[.int .i64 p.f0,.int .i64 p.f1,.int .i64 p.f2,.slice A3' n3' c3',.slice A4' n4' c4',.slice A5' n5' c5']) rfl;have HR3df:=Aside0.mk (R_set rfl (R_set rfl (R_set rfl (R_set rfl (R_set rfl (R_set rfl (HR3d.out) y0 (by decide) 0 (.int .i64 p.f0)) y1 (by decide) 1 (.int .i64 p.f1)) y2 (by decide) 2 (.int .i64 p.f2)) y3 (by decide) 3 (.slice A3' n3' c3')) y4 (by decide) 4 (.slice A4' n4' c4')) y5 (by decide) 5 (.slice A5' n5' c5'));have HR4df:=Aside0.mk (R_set rfl (R_set rfl (R_set rfl (R_set rfl (R_set rfl (R_set rfl (HR4d.out) y0 (by decide) 0 (.int .i64 p.f0)) y1 (by decide) 1 (.int .i64 p.f1)) y2 (by decide) 2 (.int .i64 p.f2)) y3 (by decide) 3 (.slice A3' n3' c3')) y4 (by decide) 4 (.slice A4' n4' c4')) y5 (by decide) 5 (.slice A5' n5' c5'));have HR5df:=Aside0.mk (R_set rfl (R_set rfl (R_set rfl (R_set rfl (R_set rfl (R_set rfl (HR5d.out) y0 (by decide) 0 (.int .i64 p.f0)) y1 (by decide) 1 (.int .i64 p.f1)) y2 (by decide) 2 (.int .i64 p.f2)) y3 (by decide) 3 (.slice A3' n3' c3')) y4 (by decide) 4 (.slice A4' n4' c4')) y5 (by decide) 5 (.slice A5' n5' c5'));have HB6:=Aside0.mk (z07 (z07 (z07 (z07 (z07 (z07 (HB5.out) (Nat.le_refl w.heap.size) (j:=0) (v:=.int .i64 p.f0)) (Nat.le_refl w.heap.size) (j:=1) (v:=.int .i64 p.f1)) (Nat.le_refl w.heap.size) (j:=2) (v:=.int .i64 p.f2)) (Nat.le_refl w.heap.size) (j:=3) (v:=.slice A3' n3' c3')) (Nat.le_refl w.heap.size) (j:=4) (v:=.slice A4' n4' c4')) (Nat.le_refl w.heap.size) (j:=5) (v:=.slice A5' n5' c5'));have BZ6:=Aside0.mk y6;generalize ((((((w5.setCell ⟨w.heap.size,0,none⟩ (.int .i64 p.f0)).setCell ⟨w.heap.size,1,none⟩ (.int .i64 p.f1)).setCell ⟨w.heap.size,2,none⟩ (.int .i64 p.f2)).setCell ⟨w.heap.size,3,none⟩ (.slice A3' n3' c3')).setCell ⟨w.heap.size,4,none⟩ (.slice A4' n4' c4')).setCell ⟨w.heap.size,5,none⟩ (.slice A5' n5' c5'))=w6 at HR3df HR4df HR5df HB6 BZ6 ⊢;have x0:=z02 BZ6.out 0;have x1:=z02 BZ6.out 1;have x2:=z02 BZ6.out 2;have x3:=z02 BZ6.out 3;have x4:=z02 BZ6.out 4;have x5:=z02 BZ6.out 5;simp only [List.getElem?_toArray,List.getElem?_cons_zero,List.getElem?_cons_succ] at x0 x1 x2 x3 x4 x5;exact bodyPost_ret (v:=.agg #[.int .i64 p.f0,.int .i64 p.f1,.int .i64 p.f2,.slice A3' n3' c3',.slice A4' n4' c4',.slice A5' n5' c5']) (by simp [results,Tryz.results18,go_sem,x0,x1,x2,x3,x4,x5]) rfl ⟨_,_,_,rfl,HR3df.out,HR4df.out,HR5df.out,HB6.out⟩
theorem ints_l0 (a b:List Int) (hl:a.length=b.length) (hs:a.length < 4611686018427387904):∀ (d k j:Nat),j+d=a.length→d < k→z0y.l0 k a b j=some (a.drop j == b.drop j)
 | 0,k,j,hj,hk=>by
  obtain ⟨k,rfl⟩:∃ n,k=n+1:=⟨k - 1,by omega⟩;rw [z0y.l0,if_neg (by omega),List.drop_eq_nil_of_le (by omega),List.drop_eq_nil_of_le (by omega)];rfl
 | d+1,k,j,hj,hk=>by
  obtain ⟨k,rfl⟩:∃ n,k=n+1:=⟨k - 1,by omega⟩;have hlt:j < a.length:=by omega
  have hlb:j < b.length:=by omega
  have e:rd a (j:Int)=a[j]:=by unfold rd;simp [List.getD_eq_getElem?_getD,List.getElem?_eq_getElem hlt]
  have e':rd b (j:Int)=b[j]:=by unfold rd;simp [List.getD_eq_getElem?_getD,List.getElem?_eq_getElem hlb]
  rw [z0y.l0,if_pos (by omega),if_pos (by omega),if_pos (by omega),List.drop_eq_getElem_cons hlt,List.drop_eq_getElem_cons hlb,e,e',show (a[j] :: a.drop (j+1) == b[j] :: b.drop (j+1))=(a[j] == b[j] && a.drop (j+1) == b.drop (j+1)) from rfl]
  by_cases h:a[j]=b[j]
  ·rw [if_pos h,beq_iff_eq.2 h,Bool.true_and,show wrap64 ((j:Int)+1)=((j+1:Nat):Int) by unfold wrap64;omega,ints_l0 a b hl hs d k (j+1) (by omega) (by omega)]
  ·rw [if_neg h,beq_eq_false_iff_ne.2 h,Bool.false_and]
theorem ints_f (a b:List Int) (hs:a.length < 4611686018427387904):z0y.f (a.length+1) a b=some (a == b):=by
 unfold z0y.f
 by_cases hl:a.length=b.length
 ·rw [if_pos (by omega)];have:=ints_l0 a b hl hs a.length (a.length+1) 0 (by omega) (by omega)
  simpa using this
 ·rw [if_neg (by omega)]
  congr 1
  symm
  rw [beq_eq_false_iff_ne];exact fun e=>hl (by rw [e])
theorem new_yes' (p:Im) (A3:Option Addr) (c3:Nat) (A4:Option Addr) (c4:Nat) (A5:Option Addr) (c5:Nat) (w:World)
  (hr3:Kd.C (Kd.int .u8) w A3 p.f3.length p.f3) (hc3:p.f3.length≤c3) (hr4:Kd.C (Kd.int .i64) w A4 p.f4.length p.f4) (hc4:p.f4.length≤c4) (hr5:Kd.C k79 w A5 p.f5.length p.f5) (hc5:p.f5.length≤c5)
  (hw:wfP p) (h0:encV p=0) :
  Calls Tryz.prog 15 #[.agg #[.int .i64 p.f0,.int .i64 p.f1,.int .i64 p.f2,.slice A3 p.f3.length c3,.slice A4 p.f4.length c4,.slice A5 p.f5.length c5]] w fun e w'=>∃ g,e=.returned (.tuple #[.pointer (some ⟨g,0,none⟩),.int .i64 0])∧Gr w' g w.heap.size p∧Below w.heap.size w w':=by
 obtain ⟨r,hr⟩:=enc_f p hw.1;rw [h0] at hr;have hs:=(z2v.1 h0).1;exact new_yes p A3 c3 A4 c4 A5 c5 w 700 r hr3 hc3 hr4 hc4 hr5 hc5 (by have:=hs.1;have:=hs.2.2.2.1;omega) (by have:=hs.2.2.2.2.1;omega) (by have:=hs.2.2.2.2.2.2.2.2;omega) hr
def p20:Im:=⟨0,1,0,[],[0,2],[⟨23,0,0,0,1⟩,⟨0,0,0,0,0⟩,⟨24,0,0,0,0⟩]⟩
theorem p20_wf:wfP p20:=⟨by unfold wfF p20;decide,by unfold p20;decide⟩
theorem p20_enc:encV p20=0:=z2v.2 ⟨by unfold z2p p20;decide +kernel,by unfold p20;decide +kernel,by unfold p20;decide +kernel⟩
theorem p20_next:nextL p20 0=[2]∧nextL p20 2=[1]∧nextL p20 1=[]∧prevL p20 2=[0]:=by decide +kernel
theorem cell_add (w:World) (b n:Nat):w.cell? ((⟨b,0,none⟩:Addr).add n)=w.cell? ⟨b,n,none⟩:=by
 unfold Addr.add
 split
 ·rename_i h
  rw [h]
 ·simp
theorem C_lit {α:Type} (d:Kd α) {w:World} {b:Nat} {cs:Array Value} {t:TypeId} (hb:w.heap[b]?=some (.cells cs t (0,0))) (xs:List α) (hl:xs.length≤1000)
  (h:∀ j p,xs[j]?=some p→∃ c,c.length=d.sz∧d.K w p c∧∀ i u,c[i]?=some u→cs[j * d.sz+i]?=some u):d.C w (some ⟨b,0,none⟩) xs.length xs :=
 ⟨rfl,by omega,fun _=>⟨_,rfl,fun j p hj=>by
  obtain ⟨c,h1,h2,h3⟩:=h j p hj;exact ⟨c,h1,h2,fun i u hu=>by rw [cell_add];exact (z02 hb _).trans (h3 i u hu)⟩⟩⟩
theorem ints_lit {w:World} {b:Nat} {t:TypeId} (xs:List Int) (hl:xs.length≤1000) (hb:w.heap[b]?=some (.cells (xs.map (Value.int .i64)).toArray t (0,0))):Kd.C (Kd.int .i64) w (some ⟨b,0,none⟩) xs.length xs :=
 C_lit _ hb xs hl fun j p hj=>⟨[.int .i64 p],rfl,rfl,fun i u hu=>by
  rcases i with _|i
  ·show (xs.map (Value.int .i64)).toArray[j * 1+0]?=_;rw [Nat.mul_one,Nat.add_zero,List.getElem?_toArray,List.getElem?_map,hj];exact hu
  ·simp at hu⟩
theorem code20_lit {w:World} {b:Nat} (hb:w.heap[b]?=some (.cells #[.int .i64 23,.int .i64 0,.int .i64 0,.int .i64 0,.int .u64 1,.int .i64 0,.int .i64 0,.int .i64 0,.int .i64 0,.int .u64 0,.int .i64 24,.int .i64 0,.int .i64 0,.int .i64 0,.int .u64 0] 79 (0,0))) :
  Kd.C k79 w (some ⟨b,0,none⟩) p20.f5.length p20.f5 :=
 C_lit _ hb p20.f5 (by decide) fun j p hj=>by
  rcases j with _|_|_|j
  ·obtain rfl:(⟨23,0,0,0,1⟩:In)=p:=by simpa [p20] using hj
   exact ⟨_,rfl,k79_mk w _,fun i u hu=>by rcases i with _|_|_|_|_|i <;> first|exact hu|simp at hu⟩
  ·obtain rfl:(⟨0,0,0,0,0⟩:In)=p:=by simpa [p20] using hj
   exact ⟨_,rfl,k79_mk w _,fun i u hu=>by rcases i with _|_|_|_|_|i <;> first|exact hu|simp at hu⟩
  ·obtain rfl:(⟨24,0,0,0,0⟩:In)=p:=by simpa [p20] using hj
   exact ⟨_,rfl,k79_mk w _,fun i u hu=>by rcases i with _|_|_|_|_|i <;> first|exact hu|simp at hu⟩
  ·simp [p20] at hj
theorem p20_rt:Rt p20:=encV_rt p20_wf p20_enc
theorem ints_calls {a b:List Int} {A B:Option Addr} {cA cB:Nat} {w:World} (r:Bool) (hA:Kd.C (Kd.int .i64) w A a.length a) (hcA:a.length≤cA) (hB:Kd.C (Kd.int .i64) w B b.length b) (hcB:b.length≤cB) (hs:a.length≤1000000) (hr:(a == b)=r) :
  Calls Tryz.prog 19 #[.slice A a.length cA,.slice B b.length cB] w fun e w'=>e=.returned (.bool r)∧Drawn0 w w' :=
 z0y.calls (a.length+1) A cA a B cB b r w hA hcA hB hcB (by rw [ints_f a b (by omega),hr])
theorem fr_below {w0 w w':World} {g B:Nat} (h:Fr w w' (fun i=>i=g)) (hb:Below B w0 w) (hB:B≤w.heap.size) (hg:B≤g):Below B w0 w':=h.below hb hB fun i hi=>by omega
theorem outL_len (p:Im) (hn:p.f5.length≤256) (x:Int):(outL p x).length≤256:=by
 unfold outL
 split
 ·dsimp only
  repeat' split
  all_goals first
   | (simp;done)
   | (rw [List.length_map];exact Nat.le_trans (List.length_filter_le _ _) (by rw [z2z];exact hn))
 ·simp
theorem ins1_len (y:Int):∀ l:List Int,(ins1 y l).length≤l.length+1
 | []=>by simp [ins1]
 | a :: r=>by
  unfold ins1
  split
  ·simp
  ·split
   ·simp
   ·have:=ins1_len y r;simp;omega
theorem uniq_len:∀ l:List Int,(uniq l).length≤l.length
 | []=>by simp [uniq]
 | a :: r=>by
  have h1:=uniq_len r;have h2:=ins1_len a (uniq r);show (ins1 a (uniq r)).length≤_;simp;omega
theorem next_len (p:Im) (hn:p.f5.length≤256) (x:Int):(nextL p x).length≤256:=Nat.le_trans (uniq_len _) (outL_len p hn x)
theorem prev_len (p:Im) (hn:p.f5.length≤256) (x:Int):(prevL p x).length≤256:=Nat.le_trans (List.length_filter_le _ _) (by rw [z2z];exact hn)
theorem r_gr {w w':World} {g B base:Nat} {p:Im} {v:Value} {l:List Int} (h:Kd.R (Kd.int .i64) 3 w base (fun _=>True) v l) (hg:Gr w g B p) (hf:Fr w w' (fun i=>i=g)):Kd.R (Kd.int .i64) 3 w' base (fun _=>True) v l :=
 z38 rfl h fun k hk=>by
  obtain ⟨c,hc⟩:=Kd.R_typed h k hk;obtain ⟨c',hc'⟩:=hg.typed;exact hf.block k (z15 hc) fun e=>by
   rw [e,hc'] at hc;injection hc with hc
   injection hc with _ hc
   exact absurd hc (by decide)
structure Cs (n1:Nat) (W1:World) (g BB:Nat) (p:Im) (v1 v2:Value) (l1 l2:List Int) (W:World):Prop where
 sz:n1≤W.heap.size
 gr:Gr W g BB p
 bel:Below n1 W1 W
 r1:Kd.R (Kd.int .i64) 3 W 0 (fun _=>True) v1 l1
 r2:Kd.R (Kd.int .i64) 3 W 0 (fun _=>True) v2 l2
theorem r_below {w w':World} {base:Nat} {v:Value} {l:List Int} (h:Kd.R (Kd.int .i64) 3 w base (fun _=>True) v l) (hb:Below w.heap.size w w'):Kd.R (Kd.int .i64) 3 w' base (fun _=>True) v l :=
 z38 rfl h fun k hk=>by
  obtain ⟨c,hc⟩:=Kd.R_typed h k hk;exact hb.block k (z15 hc)
section
variable {n1 g BB:Nat} {W1 W W':World} {p:Im} {v1 v2:Value} {l1 l2:List Int}
theorem Cs.below (h:Cs n1 W1 g BB p v1 v2 l1 l2 W) (hb:Below W.heap.size W W'):Cs n1 W1 g BB p v1 v2 l1 l2 W':=⟨Nat.le_trans h.sz hb.size,h.gr.below hb,z1m h.bel h.sz hb,r_below h.r1 hb,r_below h.r2 hb⟩
theorem Cs.fr (h:Cs n1 W1 g BB p v1 v2 l1 l2 W) (hm:GrM W' g BB p) (hf:Fr W W' (fun i=>i=g)) (hg:n1≤g):Cs n1 W1 g BB p v1 v2 l1 l2 W' :=
 ⟨Nat.le_trans h.sz hf.size,hm.gr,fr_below hf h.bel h.sz hg,r_gr h.r1 h.gr hf,r_gr h.r2 h.gr hf⟩
end
theorem rd_mem {l:List Int} {i:Nat} (hi:i < l.length):rd l (i:Int) ∈ l:=by
 unfold rd;rw [Int.toNat_natCast,List.getD_eq_getElem?_getD,List.getElem?_eq_getElem hi];exact List.getElem_mem hi
theorem row_l0:∀ (d k:Nat) (x:Int) (l:List Int) (j:Nat),j+d=l.length→d < k→l.length < 1000000→z1k.l0 k x l (l.length:Int) j=some (l.take j ++ List.replicate d x)
 | 0,k,x,l,j,h,hk,hl=>by
  obtain ⟨k,rfl⟩:∃ i,k=i+1:=⟨k - 1,by omega⟩;rw [z1k.l0,if_neg (by omega),List.take_of_length_le (by omega)];simp
 | d+1,k,x,l,j,h,hk,hl=>by
  obtain ⟨k,rfl⟩:∃ i,k=i+1:=⟨k - 1,by omega⟩;rw [z1k.l0,if_pos (by omega),if_pos (by omega),if_pos (by omega),Int.toNat_natCast,show wrap64 ((j:Int)+1)=((j+1:Nat):Int) by unfold wrap64;omega];have:=row_l0 d k x (l.set j x) (j+1) (by rw [List.length_set];omega) (by omega) (by rw [List.length_set];exact hl);rw [List.length_set] at this;rw [this]
  congr 1
  rw [List.replicate_succ,List.take_add_one,List.getElem?_set_self (by omega),List.take_set_of_le (Nat.le_refl _)];simp
theorem row_f (n:Nat) (x:Int) (hn:n < 1000000):z1k.f (n+2) (n:Int) x=some (List.replicate n x):=by
 unfold z1k.f;rw [if_pos (by omega),if_pos (by omega),Option.bind_some,Int.toNat_natCast];have:=row_l0 n (n+2) x (List.replicate n 0) 0 (by simp) (by omega) (by simpa using hn);refine this.trans ?_;simp
theorem bfs_step {n:Nat} {nx:Int→List Int} {a c u dc:Int} {out work:List Int} (h:Bfs n nx a out (c :: work)) (hdc:rd out c=dc) (hm:u ∈ nx c) (hq:∀ v:Int,0≤v→v < n→rd out v+negs out≤n) :
  Bfs n nx a (if rd out u < 0 then out.set u.toNat (dc+1) else out) (c :: (if rd out u < 0 then work ++ [u] else work))∧rd (if rd out u < 0 then out.set u.toNat (dc+1) else out) c=dc ∧
   (∀ v:Int,0≤v→v < n→0≤rd out v→rd (if rd out u < 0 then out.set u.toNat (dc+1) else out) v=rd out v)∧0≤rd (if rd out u < 0 then out.set u.toNat (dc+1) else out) u ∧
   (∀ v:Int,0≤v→v < n→rd (if rd out u < 0 then out.set u.toNat (dc+1) else out) v+negs (if rd out u < 0 then out.set u.toNat (dc+1) else out)≤n) ∧
   2 * negs (if rd out u < 0 then out.set u.toNat (dc+1) else out)+(if rd out u < 0 then work ++ [u] else work).length≤2 * negs out+work.length:=by
 have hc:=h.inw c (by simp);have hu:=h.nxr c hc.1.1 hc.1.2 u hm
 by_cases hn:rd out u < 0
 ·rw [if_pos hn,if_pos hn];subst hdc;obtain ⟨h1,h2,h3⟩:=h.reach hu hm hn;have hul:0≤u∧u < out.length:=by rw [h.len];exact hu
  have hs:∀ v:Int,0≤v→rd (out.set u.toNat (rd out c+1)) v=if v=u then rd out c+1 else rd out v:=fun v h0=>rd_set hul h0
  have hng:=negs_set out u.toNat (rd out c+1) (by omega) (by rw [show ((u.toNat:Nat):Int)=u by omega];exact hn) (by omega);refine ⟨h1,h2,h3,by rw [hs u hu.1,if_pos rfl];omega,fun v h0 h4=>?_,by rw [List.length_append,List.length_singleton];omega⟩;rw [hs v h0];have:=hq c hc.1.1 hc.1.2;have:=hq v h0 h4
  split <;> omega
 ·rw [if_neg hn,if_neg hn];exact ⟨h,hdc,fun _ _ _ _=>rfl,by omega,hq,Nat.le_refl _⟩
theorem fr_new {a b c:World} {S T:Nat→Prop} (h:Fr a b S) (k:Fr b c T) (hT:∀ i,T i→a.heap.size≤i):Fr a c S :=
 ⟨k.os.trans h.os,k.tape.trans h.tape,k.output.trans h.output,Nat.le_trans h.size k.size,fun i hi hn=>(k.block i (Nat.lt_of_lt_of_le hi h.size) fun ht=>by have:=hT i ht;omega).trans (h.block i hi hn)⟩
theorem GrY.lt {w:World} {g B:Nat} {p:Im} {Y:Nat→Prop} (h:GrY w g B p Y):GrY w g B p (fun i=>Y i∧i < w.heap.size):=by
 obtain ⟨h0,dv,fv,cv,h1,h2,h3⟩:=h;have hg:∃ c,w.heap[g]?=some (.cells c 97 (0,0)):=by
  rcases h3 with h3|⟨bs,n,V,h3,_⟩
  ·exact ⟨_,h3⟩
  ·exact ⟨_,h3⟩
 obtain ⟨c,hc⟩:=hg;refine ⟨h0,dv,fv,cv,h1,fun k hk=>⟨h2 k hk,(h1.ne hc hk).1⟩,?_⟩
 rcases h3 with h3|⟨bs,n,V,h3,h4,h5,h6⟩
 ·exact .inl h3
 ·exact .inr ⟨bs,n,V,h3,h4,h5,fun i hi=>⟨h6 i hi,(h4.in_lt hi).2.1⟩⟩
theorem R_only {w:World} {b ob n cap:Nat} {l:List Int} (h:Kd.R (Kd.int .i64) 3 w b (fun _=>True) (.slice (some ⟨ob,0,none⟩) n cap) l):Kd.R (Kd.int .i64) 3 w b (fun k=>k=ob) (.slice (some ⟨ob,0,none⟩) n cap) l :=
 Kd.R_flat (fun h=>h) h fun k hk _=>by simpa [Value.ownBlock] using hk.symm
structure Sp (w wr:World) (g B n0 bo bw ob cap n:Nat) (p:Im) (nx:Int→List Int) (a:Int) (Y:Nat→Prop) (out work:List Int):Prop where
 spr:Spr wr n0 bo bw ob cap Y out work
 gr:GrY wr g B p Y
 lt:∀ i,Y i→i < wr.heap.size
 fr:Fr w wr (fun i=>i=g)
 q:∀ v:Int,0≤v→v < n→rd out v+negs out≤n
 z:rd out a=0
theorem Sp.next {w wr wz:World} {g B n0 bo bw ob cap n:Nat} {p:Im} {nx:Int→List Int} {a:Int} {X:Nat→Prop} {out work out' work':List Int} (h:Sp w wr g B n0 bo bw ob cap n p nx a X out work) (hg:g < n0) (hw:w.heap.size≤n0) (hS:Spr wz n0 bo bw ob cap X out' work')
  (hF:Fr wr wz (fun i=>n0≤i∧¬ X i)) (hq:∀ v:Int,0≤v→v < n→rd out' v+negs out'≤n) (hz:rd out' a=0):Sp w wz g B n0 bo bw ob cap n p nx a X out' work' :=
 ⟨hS,h.gr.keep fun j hj hh=>hF.block j hj fun h2=>by
   rcases hh with hh|hh
   ·omega
   ·exact h2.2 hh,
  fun j hj=>Nat.lt_of_lt_of_le (h.lt j hj) hF.size,fr_new h.fr hF fun j hj=>Nat.le_trans hw hj.1,hq,hz⟩
def z35 (w:World) (g B:Nat) (p:Im) (nx:Int→List Int) (a:Int) (e:Ending) (w':World):Prop :=
 ∃ v d,e=.returned v∧Kd.R (Kd.int .i64) 3 w' w.heap.size (fun _=>True) v d∧((0≤a∧a < p.f5.length)→DistOf p.f5.length nx a d∧∀ v:Int,0≤v→v < p.f5.length→rd d v≤p.f5.length)∧(¬ (0≤a∧a < p.f5.length)→d=[])∧Gr w' g B p∧Fr w w' (fun i=>i=g)
theorem spreadNext {w:World} {g B:Nat} {p:Im} (hp:Rt p) (hg:Gr w g B p) (hnx:∀ v:Int,0≤v→v < p.f5.length→∀ u ∈ nextL p v,0≤u∧u < p.f5.length) (hln:∀ v:Int,(nextL p v).length≤100000) {a:Int} :
  Calls Tryz.prog 66 #[.int .i64 p.f5.length,.int .i64 a,.func (.func 20) #[.pointer (some ⟨g,0,none⟩)] #[]] w (z35 w g B p (nextL p) a):=by
 have h256:=hp.fits.2.2.1;obtain ⟨n,hn⟩:∃ n,p.f5.length=n:=⟨_,rfl⟩
 by_cases ha:0≤a∧a < n
 rotate_left
 ·have hE:∀ w',w'=w→z35 w g B p (nextL p) a (.returned (.slice none 0 0)) w':=fun w' e=>by
   subst e;exact ⟨_,[],rfl,Kd.R_nil _ _ _ _ _,fun h=>absurd (hn ▸ h) ha,fun _=>rfl,hg,Fr.refl _ _⟩
  have HE:=Aside0.mk hE;rw [hn];clear hE hp hnx hg hn hln
  by_cases h0:a < 0
  ·have hd0:decide (a < 0)=true:=decide_eq_true h0;clear ha h0
   go_enter Tryz.func66,Tryz.ntmps66
   go_wp2;go_ret
   exact HE.out _ rfl
  ·have hd0:decide (a < 0)=false:=decide_eq_false h0;have hd1:decide (a ≥ (n:Int))=true:=decide_eq_true (by omega);have hd2:decide ((n:Int)≤a)=true:=decide_eq_true (by omega);clear ha h0
   go_enter Tryz.func66,Tryz.ntmps66
   go_wp2;go_ret
   exact HE.out _ rfl
 have hnx':∀ v:Int,0≤v→v < n→∀ u ∈ nextL p v,0≤u∧u < n:=fun v h0 h1=>by rw [← hn] at h1 ⊢;exact hnx v h0 h1
 have HNX:=Aside0.mk hnx';have HLN:=Aside0.mk hln;have HROW:=Aside0.mk (z1k.calls (n+2) (n:Int) (-1) (List.replicate n (-1)) w (row_f n (-1) (by omega)));have HP:=Aside0.mk hp;have HG:=Aside0.mk hg;have HA:=Aside0.mk ha;have HN:=Aside0.mk hn;have H256:Aside0 (n≤256):=⟨by omega⟩;have hd0:decide (a < 0)=false:=decide_eq_false (by omega);have hd1:decide (a ≥ (n:Int))=false:=decide_eq_false (by omega);have hd2:decide ((n:Int)≤a)=false:=decide_eq_false (by omega);rw [hn];clear hnx hnx' hg hp ha hn h256 hln
 go_enter Tryz.func66,Tryz.ntmps66
 go_wp2_with fail
 refine HROW.out.mono ?_;rintro e w1 ⟨v0,rfl,hR,hB⟩;have hnpos:0 < n:=by have:=HA.out;omega
 obtain ⟨ob,cap,rfl,hob0,hob1,_⟩:=Kd.R_form hR (by simpa using hnpos);rw [List.length_replicate] at hR ⊢;have HR:=Aside0.mk hR;have HB:=Aside0.mk hB;clear hR hB HROW hnpos;have hS2:Spr ((w1.alloc (.cells #[.slice (some ⟨ob,0,none⟩) n cap] 23)).alloc (.cells #[.slice none 0 0] 23)) w.heap.size w1.heap.size (w1.heap.size+1) ob cap (fun i=>i < w.heap.size) (List.replicate n (-1)) []:=by
  have e1:(w1.alloc (.cells #[.slice (some ⟨ob,0,none⟩) n cap] 23)).heap.size=w1.heap.size+1:=by show (w1.heap.push _).size=_;simp
  have hb1:=z21 w1 (.cells #[.slice (some ⟨ob,0,none⟩) n cap] 23);have hb2:=z21 (w1.alloc (.cells #[.slice (some ⟨ob,0,none⟩) n cap] 23)) (.cells #[.slice none 0 0] 23);have hsz:=HB.out.size;rw [e1] at hb2;refine ⟨?_,⟨_,hb2,Que.nil _ _⟩,?_,by omega,⟨hsz,by omega⟩,by omega,by omega⟩
  ·rw [List.length_replicate];exact (Below.heap_alloc _ _ _ (z15 hb1)).trans hb1
  ·rw [List.length_replicate];exact R_only (Kd.R_alloc (Kd.R_alloc HR.out _) _)
 have hF2:Fr w ((w1.alloc (.cells #[.slice (some ⟨ob,0,none⟩) n cap] 23)).alloc (.cells #[.slice none 0 0] 23)) (fun i=>i=g) :=
  ((Fr.of_below HB.out).mono (S':=fun i=>i=g) fun i h1 h2=>by omega).trans ((z31 _ _ _).trans (z31 _ _ _))
 have hY2:GrY ((w1.alloc (.cells #[.slice (some ⟨ob,0,none⟩) n cap] 23)).alloc (.cells #[.slice none 0 0] 23)) g B p (fun i=>i < w.heap.size) :=
  (GrY.of_gr HG.out).keep fun i hi _=>(Below.heap_alloc _ _ _ (Nat.lt_of_lt_of_le (Nat.lt_of_lt_of_le hi HB.out.size) (z31 w1 _ (fun _=>False)).size)).trans ((Below.heap_alloc _ _ _ (Nat.lt_of_lt_of_le hi HB.out.size)).trans (HB.out.block i hi))
 have HS2:=Aside0.mk hS2;have HF2:=Aside0.mk hF2;have HY2:=Aside0.mk hY2;have HSZ1:Aside0 (w.heap.size≤w1.heap.size):=⟨HB.out.size⟩;have HSZ2:Aside0 (w1.heap.size < ((w1.alloc (.cells #[.slice (some ⟨ob,0,none⟩) n cap] 23)).alloc (.cells #[.slice none 0 0] 23)).heap.size):=⟨by show _ < ((w1.heap.push _).push _).size;simp;omega⟩;have HGL:Aside0 (g < w.heap.size):=⟨HG.out.lt⟩;have HOB:=Aside0.mk hob0;clear hS2 hF2 hY2 HR HB hob0 hob1
 go_upto_region 6 with (fail)
 generalize ((w1.alloc (.cells #[.slice (some ⟨ob,0,none⟩) n cap] 23)).alloc (.cells #[.slice none 0 0] 23))=W2 at HS2 HF2 HY2 HSZ2 ⊢;generalize w1.heap.size+1=bw at HS2 ⊢;generalize w1.heap.size=bo at HS2 HSZ1 HSZ2 ⊢;have HC0:=Aside0.mk (z3a HS2.out (by have:=HSZ1.out;have:=HSZ2.out;omega) (fun i h1 h2=>by have:=HSZ1.out;have:=HSZ2.out;omega) (t:=a) (s:=0) (by rw [List.length_replicate];exact HA.out) (by simp))
 go_wp2_with fail
 refine HC0.out.mono ?_;rintro e w3 ⟨rfl,hS3,hF3⟩;have hneg:rd (List.replicate n (-1:Int)) a < 0:=by rw [rd_rep n HA.out.1 HA.out.2];omega
 rw [if_pos hneg,if_pos hneg] at hS3;obtain ⟨hbf,hz0⟩:=Bfs.start HA.out HNX.out;have hng:=negs_set (List.replicate n (-1:Int)) a.toNat 0 (by rw [List.length_replicate];have:=HA.out;omega) (by rw [show ((a.toNat:Nat):Int)=a by have:=HA.out;omega];exact hneg) (Int.le_refl _);rw [negs_rep] at hng;have HSP3:Aside0 (Sp w w3 g B w.heap.size bo bw ob cap n p (nextL p) a (fun i=>i < w.heap.size) ((List.replicate n (-1:Int)).set a.toNat 0) [a]):=⟨⟨by simpa using hS3,
  HY2.out.keep fun i hi h=>hF3.block i hi fun h2=>by
   have:=HGL.out
   rcases h with h|h
   ·omega
   ·exact h2.2 h,
  fun i hi=>by have:=hF3.size;have:=HF2.out.size;omega,fr_new HF2.out hF3 fun i hi=>hi.1,fun v h0 h1=>by
   rw [rd_set (by rw [List.length_replicate];exact HA.out) h0,rd_rep n h0 h1]
   split <;> omega,hz0⟩⟩
 have HBF3:=Aside0.mk hbf;have HM3:Aside0 (2 * negs ((List.replicate n (-1:Int)).set a.toNat 0)+[a].length < 2 * n+2):=⟨by simp only [List.length_singleton];omega⟩;clear hS3 hF3 hneg hbf hz0 hng HC0 HS2 HF2 HY2 HSZ2;go_wp2
 go_loopg [] (2 * n+2) (fun kq wr=>∃ (Y:Nat→Prop) (out work:List Int),Aside0 (Sp w wr g B w.heap.size bo bw ob cap n p (nextL p) a Y out work)∧Aside0 (Bfs n (nextL p) a out work)∧Aside0 (2 * negs out+work.length < kq)∧Aside0 (kq≤2 * n+2))
 case atStart=>exact ⟨_,_,_,HSP3,HBF3,HM3,⟨Nat.le_refl _⟩⟩
 case round =>
  clear HSP3 HBF3 HM3;obtain ⟨Y,out,work,hsp,hbf,hk,HMX⟩:=hrel;have c1:=cell_of_one hsp.out.spr.outBox;obtain ⟨v,hv,hq⟩:=hsp.out.spr.wkBox;cases work with
  | nil =>
   obtain ⟨av,cv,rfl,_⟩:=hq.slice;have c2:=cell_of_one hv;have HE:Aside0 (z35 w g B p (nextL p) a (.returned (.slice (some ⟨ob,0,none⟩) out.length cap)) wr):=⟨⟨_,out,rfl,Kd.R_mono hsp.out.spr.row (fun _ _=>trivial),fun _=>by rw [HN.out];exact ⟨hbf.out.done hsp.out.z,fun v h0 h1=>by have:=hsp.out.q v h0 h1;omega⟩,fun h=>absurd (HN.out ▸ HA.out) h,hsp.out.gr.gr,hsp.out.fr⟩⟩;simp only [List.length_nil] at c2;clear hv hq hsp hbf hk;go_wp2;go_ret
   exact HE.out
  | cons c work =>
   obtain ⟨av,cv,rfl,hcv⟩:=hq.slice;have hcut:=hq.cut;obtain ⟨bq,off,rfl,hbq,hhead⟩:=hq.head;have c2:=cell_of_one hv;have f2:=free_of_one hv;have hc:=hbf.out.inw c (by simp);obtain ⟨i0,hi0,hz0_,hz1_,hz2_⟩:=info_parts infoC_int;have hct:=cut_from (P:=Tryz.prog) 23 3 .i64 Tryz.underlying23 hi0 1 hz1_ (some ⟨bq,off,none⟩) (c :: work).length cv 1 (by omega) (by simp;omega);rw [show (1:Int).toNat=1 from rfl] at hct;obtain ⟨a2,ha2⟩:∃ x:Option Addr,(if cv=1 then (some ⟨bq,off,none⟩:Option Addr) else (some (⟨bq,off,none⟩:Addr)).map (·.add (1 * 1)))=x:=⟨_,rfl⟩;rw [ha2] at hct hcut;obtain ⟨lw,hlw⟩:∃ k,(c :: work).length=k:=⟨_,rfl⟩;have hlw1:work.length+1=lw:=by rw [← hlw];rfl
   rw [hlw] at hct hcut hcv hv c2;have hd0_:decide ((lw:Int) > 0)=true:=decide_eq_true (by omega);have hd1_:decide (0 < (lw:Int))=true:=decide_eq_true (by omega);have hd2_:decide (0 < lw)=true:=decide_eq_true (by omega);have hp0:(0 < lw)=True:=eq_true (by omega);have hp1:(0 < (lw:Int))=True:=eq_true (by omega);have hfs:=fr_set wr ⟨bw,0,none⟩ (.slice a2 (lw - 1) (cv - 1));have HSPA:Aside0 (Spr (wr.setCell ⟨bw,0,none⟩ (.slice a2 (lw - 1) (cv - 1))) w.heap.size bo bw ob cap Y out work):=⟨⟨(hfs.block bo (z15 hsp.out.spr.outBox) hsp.out.spr.ne).trans hsp.out.spr.outBox,⟨_,one_setCell hv,hcut.fr hfs fun i hi e=>hi.2.2.1 e⟩,
    Kd.R_step hsp.out.spr.row (fun k hk hlt=>hfs.block k hlt (by rw [hk];exact hsp.out.spr.ob_bw)),hsp.out.spr.ne,hsp.out.spr.lo,hsp.out.spr.nX⟩⟩
   have HYA:Aside0 (GrY (wr.setCell ⟨bw,0,none⟩ (.slice a2 (lw - 1) (cv - 1))) g B p Y):=⟨hsp.out.gr.keep fun i hi h=>hfs.block i hi fun e=>by
    have e:i=bw:=e
    rcases h with h|h
    ·have:=HGL.out;have:=hsp.out.spr.lo;omega
    ·exact hsp.out.spr.nX.1 (e ▸ h)⟩
   have HFA:Aside0 (Fr w (wr.setCell ⟨bw,0,none⟩ (.slice a2 (lw - 1) (cv - 1))) (fun i=>i=g)):=⟨fr_new hsp.out.fr hfs fun i (e:i=bw)=>by rw [e];exact hsp.out.spr.lo.2⟩;have HLA:Aside0 (∀ i,Y i→i < (wr.setCell ⟨bw,0,none⟩ (.slice a2 (lw - 1) (cv - 1))).heap.size):=⟨fun i hi=>Nat.lt_of_lt_of_le (hsp.out.lt i hi) hfs.size⟩;have HZ:=Aside0.mk hsp.out.z;have HQQ:=Aside0.mk hsp.out.q;have HK:Aside0 (2 * negs out+work.length+1 < gk):=⟨by have:=hk.out;simp only [List.length_cons] at this;omega⟩;have HCW:=Aside0.mk hc;clear hfs hq hcut hbq hc hsp hk ha2 hlw hlw1 hcv hv hz0_ hz1_ hz2_ hi0
   go_upto_region 10 with (fail)
   generalize wr.setCell ⟨bw,0,none⟩ (.slice a2 (lw - 1) (cv - 1))=wa at HSPA HYA HFA HLA ⊢;have HNC:=Aside0.mk (graphNext2 HP.out HYA.out.gr (x:=c) (Gr.wfI_of (by have:=HCW.out;have:=H256.out;omega)));clear c1 c2 f2 hhead hct hd0_ hd1_ hd2_ hp0 hp1
   go_wp2_with fail
   refine HNC.out.mono ?_;rintro e wb ⟨⟨vr,rfl,hRr,hMr,hFr⟩,hYr⟩;obtain ⟨ar,cr,rfl⟩:=Kd.R_slice hRr;obtain ⟨X,hX⟩:∃ X:Nat→Prop,X=fun i=>(Y i∨wa.heap.size≤i)∧i < wb.heap.size:=⟨_,rfl⟩
   have HRB:Aside0 (Kd.R (Kd.int .i64) 3 wb wa.heap.size X (.slice ar (nextL p c).length cr) (nextL p c)):=⟨Kd.R_mono (Kd.R_bound hRr) fun k hk=>by rw [hX];exact ⟨.inr hk.2.1,hk.2.2.1⟩⟩;have HYB:Aside0 (GrY wb g B p X):=⟨(hYr Y HYA.out).lt.mono fun i hi=>by rw [hX];exact hi⟩;have HXL:Aside0 (∀ i,X i→i < wb.heap.size):=⟨fun i hi=>by rw [hX] at hi;exact hi.2⟩;have HSB:Aside0 (Spr wb w.heap.size bo bw ob cap X out work):=⟨by
    obtain ⟨v0,hv0,_⟩:=HSPA.out.wkBox;obtain ⟨c0,hc0⟩:=HSPA.out.obT;have h1:=z15 hv0;have h2:=z15 hc0;refine (HSPA.out.mono (X':=X) (fun i hi hok h=>?_) (fun h=>?_) (fun h=>?_)).fr hFr (fun i hi e=>by have:=HGL.out;omega)
    ·rw [hX] at h;exact h.1.elim hok.2.2.2.2 fun h=>by omega
    ·rw [hX] at h;exact h.1.elim HSPA.out.nX.1 fun h=>by omega
    ·rw [hX] at h;exact h.1.elim HSPA.out.nX.2 fun h=>by omega⟩
   have HSP4:Aside0 (Sp w wb g B w.heap.size bo bw ob cap n p (nextL p) a X out work):=⟨⟨HSB.out,HYB.out,HXL.out,HFA.out.trans hFr,HQQ.out,HZ.out⟩⟩;obtain ⟨dc,hdc⟩:∃ z,rd out c=z:=⟨_,rfl⟩;have HDC:=Aside0.mk hdc;have hll:=HLN.out c;obtain ⟨l,hl⟩:∃ l,nextL p c=l:=⟨_,rfl⟩;rw [hl] at HRB hll ⊢;have HLM:Aside0 (∀ u,u ∈ l↔u ∈ nextL p c):=⟨fun u=>by rw [hl]⟩;have HLL:=Aside0.mk hll;clear hRr hMr hFr hYr hX HYB HSB HSPA HYA HFA HLA HNC HQQ HZ hdc hll hl;go_wp2
   go_loopw [38] (fun v38 wi=>∃ (i:Nat) (out' work':List Int),v38=.int .i64 i∧Aside0 (i≤l.length)∧Aside0 (Sp w wi g B w.heap.size bo bw ob cap n p (nextL p) a X out' work')∧Aside0 (Bfs n (nextL p) a out' (c :: work'))∧Aside0 (rd out' c=dc)∧Aside0 (∀ u ∈ l.take i,0≤rd out' u) ∧
     Aside0 (2 * negs out'+work'.length≤2 * negs out+work.length)∧Aside0 (Kd.R (Kd.int .i64) 3 wi wa.heap.size X (.slice ar l.length cr) l)∧Aside0 (wb.heap.size≤wi.heap.size))
    (fun v _=>l.length - (intOf v).toNat)
   case atStart=>exact ⟨0,out,work,rfl,⟨Nat.zero_le _⟩,HSP4,hbf,HDC,⟨by simp⟩,⟨Nat.le_refl _⟩,HRB,⟨Nat.le_refl _⟩⟩
   case round =>
    clear HSP4 hbf HDC HRB;obtain ⟨i,out',work',rfl,hi,hsp,hbf,hdc,htk,hms,hrw,hsz⟩:=hrel;have hi:=hi.out;have hl1:=HLL.out
    by_cases hil:i < l.length
    ·obtain ⟨u,hu⟩:∃ u,rd l (i:Int)=u:=⟨_,rfl⟩;have hum:u ∈ l:=hu ▸ rd_mem hil;obtain ⟨as_,ea,hx⟩:=Kd.at_int (Kd.R_reads' hrw.out).2.2 (i:Int) (by omega) (by omega);cases ea;rw [Int.toNat_natCast,hu] at hx;have hcr:=(hbf.out.inw c (by simp)).1;have hln:=hbf.out.len;obtain ⟨hxc0,_⟩:=Kd.R_celln 0 hsp.out.spr.row c hcr.1 (by omega);have hxc:wr.cell? ⟨ob,c.toNat,none⟩=some (.int .i64 dc):=(by rw [← hdc.out];exact hxc0);clear hxc0;have c1:=cell_of_one hsp.out.spr.outBox;have hdq:=hsp.out.q c hcr.1 hcr.2;rw [hdc.out] at hdq;have hd0:=(hbf.out.inw c (by simp)).2;rw [hdc.out] at hd0;have h256:=H256.out;have hur:=HNX.out c hcr.1 hcr.2 u ((HLM.out u).1 hum);have hbl:=hbf.out.low;have hwk:work'.length < 1000000:=(by have:=hms.out;have:=HK.out;have:=HMX.out;omega);have HC:=Aside0.mk (z3a hsp.out.spr (by have:=hsp.out.fr.size;omega) (fun j h1 h2=>by have:=HXL.out j h2;have:=hsz.out;omega) (t:=u) (s:=dc+1) ⟨hur.1,by omega⟩ hwk);have HST:=Aside0.mk (bfs_step hbf.out hdc.out ((HLM.out u).1 hum) hsp.out.q);have hwr:IntKind.i64.wrap (dc+1)=dc+1:=IntWalk.i64_in _ (by omega);have HWR1:=Lib.hid hwr;clear hwr;have hwr2:wrap64 (dc+1)=dc+1:=by
      have h1:-9223372036854775808≤dc+1∧dc+1≤9223372036854775807:=(by omega);unfold wrap64;omega
     have HWR:=Aside0.mk (And.intro HWR1.out hwr2);clear hwr2 HWR1;have hp0:(0≤(i:Int))=True:=eq_true (by omega);have hp1:((i:Int) < (l.length:Int))=True:=eq_true (by omega);have hp2:(0≤c)=True:=eq_true hcr.1;have hp3:(c < (out'.length:Int))=True:=eq_true (by omega);have hid:decide ((i:Int) < (l.length:Int))=true:=decide_eq_true (by omega);have HU:=Lib.hid hu;have HUR:=Aside0.mk hur;have HIL:=Aside0.mk hil;obtain ⟨hwr,hwr2⟩:=HWR.out;clear hu hum hcr hln hdq hd0 hur hbl hwk hil
     go_wp2_with fail
     refine HC.out.mono ?_;rintro e wz ⟨rfl,hS,hF⟩;clear hwr hwr2 hp0 hp1 hp2 hp3 hid hx hxc c1;have HSPZ:=Aside0.mk (hsp.out.next HGL.out (Nat.le_refl _) hS hF HST.out.2.2.2.2.1 ((HST.out.2.2.1 a HA.out.1 HA.out.2 (by rw [hsp.out.z];exact Int.le_refl _)).trans hsp.out.z));have HRZ:Aside0 (Kd.R (Kd.int .i64) 3 wz wa.heap.size X (.slice (some as_) l.length cr) l):=⟨Kd.R_step hrw.out fun k hk hlt=>hF.block k hlt fun h=>h.2 hk⟩;have HSZZ:Aside0 (wb.heap.size≤wz.heap.size):=⟨Nat.le_trans hsz.out hF.size⟩;have HTKZ:Aside0 (∀ z ∈ l.take (i+1),0≤rd (if rd out' u < 0 then out'.set u.toNat (dc+1) else out') z):=⟨fun z hz=>by
      rw [List.take_add_one,List.mem_append] at hz
      rcases hz with hz|hz
      ·have h1:=htk.out z hz;have h2:=HNX.out c (hbf.out.inw c (by simp)).1.1 (hbf.out.inw c (by simp)).1.2 z ((HLM.out z).1 (List.mem_of_mem_take hz));rw [HST.out.2.2.1 z h2.1 h2.2 h1];exact h1
      ·rw [List.getElem?_eq_getElem HIL.out] at hz;have h1:z=u:=by
        have h2:z=l[i]'HIL.out:=(by simpa using hz);rw [h2,← HU.out];unfold rd;rw [Int.toNat_natCast,List.getD_eq_getElem?_getD,List.getElem?_eq_getElem HIL.out];rfl
       rw [h1];exact HST.out.2.2.2.1⟩
     have HBZ:=Aside0.mk HST.out.1;have HDZ:=Aside0.mk HST.out.2.1;have HMZ:Aside0 (2 * negs (if rd out' u < 0 then out'.set u.toNat (dc+1) else out')+(if rd out' u < 0 then work' ++ [u] else work').length≤2 * negs out+work.length):=⟨Nat.le_trans HST.out.2.2.2.2.2 hms.out⟩;clear hS hF HC HST;generalize (if rd out' u < 0 then out'.set u.toNat (dc+1) else out')=outz at HSPZ HTKZ HBZ HDZ HMZ;generalize (if rd out' u < 0 then work' ++ [u] else work')=workz at HSPZ HBZ HMZ;go_wp2
     go_roundw
     case rel=>exact ⟨i+1,outz,workz,by go_num,⟨HIL.out⟩,HSPZ,HBZ,HDZ,HTKZ,HMZ,HRZ,HSZZ⟩
     case measure=>have:=HIL.out;simp [intOf];omega
    ·have hi':i=l.length:=(by omega);subst hi';have hid:decide ((l.length:Int) < (l.length:Int))=false:=decide_eq_false (by omega);have HBZ:Aside0 (Bfs n (nextL p) a out' work'):=⟨hbf.out.drop fun u hu=>⟨htk.out u (by rw [List.take_length];exact (HLM.out u).2 hu),by
      have h1:=(hbf.out.inw c (by simp)).1;have h2:=HNX.out c h1.1 h1.2 u hu;exact hbf.out.top c (by simp) u h2.1 h2.2⟩⟩
     have HMZ:Aside0 (2 * negs out'+work'.length+1 < gk):=⟨by have:=hms.out;have:=HK.out;omega⟩;clear hbf hdc htk hms hrw hsz;go_wp2
     go_roundg (2 * negs out'+work'.length+1)
     case measure=>exact HMZ.out
     case rel=>exact ⟨X,out',work',hsp,HBZ,⟨Nat.lt_succ_self _⟩,⟨by have:=HMZ.out;have:=HMX.out;omega⟩⟩
set_option maxHeartbeats 4000000 in
theorem farFrom {w:World} {g B:Nat} {p:Im} (hp:Rt p) (hg:Gr w g B p) (hnx:∀ v:Int,0≤v→v < p.f5.length→∀ u ∈ nextL p v,0≤u∧u < p.f5.length) (hl3:p.f3.length≤100) (hl4:p.f4.length≤40) {a:Int} :
  Calls Tryz.prog 31 #[.pointer (some ⟨g,0,none⟩),.int .i64 a] w (z35 w g B p (nextL p) a):=by
 have h256:=hp.fits.2.2.1;have HIM:=Aside0.mk (graphImage hg hl3 hl4 (by omega));have HSP:=Aside0.mk (fun (w1:World) (h:Below w.heap.size w w1)=>spreadNext hp (hg.below h) hnx (fun v=>Nat.le_trans (next_len p h256 v) (by omega)) (a:=a));have HGL:=Aside0.mk hg.lt;have hmf:∀ (fn:Fn) (first cap:Array Value) (w:World),(Instr.makeFunc fn first cap).run Tryz.prog w=.ok (.func fn first cap) w:=fun _ _ _ _=>rfl
 clear hg hnx hl3 hl4 h256
 go_enter Tryz.func31,Tryz.ntmps31
 go_wp2_with fail
 refine HIM.out.mono ?_;rintro e w1 ⟨v3,v4,v5,rfl,h3,h4,h5,hB⟩;obtain ⟨A3,c3,rfl⟩:=Kd.R_slice h3;obtain ⟨A4,c4,rfl⟩:=Kd.R_slice h4;obtain ⟨A5,c5,rfl⟩:=Kd.R_slice h5;have HS1:=Aside0.mk (HSP.out w1 hB);have HB1:=Aside0.mk hB;have hfd:∀ w:World,(Instr.field 26 (.agg #[.int .i64 p.f0,.int .i64 p.f1,.int .i64 p.f2,.slice A3 p.f3.length c3,.slice A4 p.f4.length c4,.slice A5 p.f5.length c5]) 5).run Tryz.prog w=.ok (.slice A5 p.f5.length c5) w:=fun _=>by kernel_rfl
 clear h3 h4 h5 hB HSP HIM
 go_wp2_with fail
 refine HS1.out.mono ?_;rintro e w2 ⟨v,d,rfl,hR,hd,hn,hG,hF⟩;have HE:Aside0 (z35 w g B p (nextL p) a (.returned v) w2):=⟨⟨v,d,rfl,Kd.R_lower hR HB1.out.size,hd,hn,hG,((Fr.of_below HB1.out).mono (S':=fun i=>i=g) fun i h1 h2=>by omega).trans hF⟩⟩;obtain ⟨Ad,cd,rfl⟩:=Kd.R_slice hR;clear hR hd hn hG hF HS1;go_wp2;go_ret
 exact HE.out
theorem spreadPrev {w:World} {g B:Nat} {p:Im} (hp:Rt p) (hg:Gr w g B p) (hnx:∀ v:Int,0≤v→v < p.f5.length→∀ u ∈ prevL p v,0≤u∧u < p.f5.length) (hln:∀ v:Int,(prevL p v).length≤100000) {a:Int} :
  Calls Tryz.prog 66 #[.int .i64 p.f5.length,.int .i64 a,.func (.func 22) #[.pointer (some ⟨g,0,none⟩)] #[]] w (z35 w g B p (prevL p) a):=by
 have h256:=hp.fits.2.2.1;obtain ⟨n,hn⟩:∃ n,p.f5.length=n:=⟨_,rfl⟩
 by_cases ha:0≤a∧a < n
 rotate_left
 ·have hE:∀ w',w'=w→z35 w g B p (prevL p) a (.returned (.slice none 0 0)) w':=fun w' e=>by
   subst e;exact ⟨_,[],rfl,Kd.R_nil _ _ _ _ _,fun h=>absurd (hn ▸ h) ha,fun _=>rfl,hg,Fr.refl _ _⟩
  have HE:=Aside0.mk hE;rw [hn];clear hE hp hnx hg hn hln
  by_cases h0:a < 0
  ·have hd0:decide (a < 0)=true:=decide_eq_true h0;clear ha h0
   go_enter Tryz.func66,Tryz.ntmps66
   go_wp2;go_ret
   exact HE.out _ rfl
  ·have hd0:decide (a < 0)=false:=decide_eq_false h0;have hd1:decide (a ≥ (n:Int))=true:=decide_eq_true (by omega);have hd2:decide ((n:Int)≤a)=true:=decide_eq_true (by omega);clear ha h0
   go_enter Tryz.func66,Tryz.ntmps66
   go_wp2;go_ret
   exact HE.out _ rfl
 have hnx':∀ v:Int,0≤v→v < n→∀ u ∈ prevL p v,0≤u∧u < n:=fun v h0 h1=>by rw [← hn] at h1 ⊢;exact hnx v h0 h1
 have HNX:=Aside0.mk hnx';have HLN:=Aside0.mk hln;have HROW:=Aside0.mk (z1k.calls (n+2) (n:Int) (-1) (List.replicate n (-1)) w (row_f n (-1) (by omega)));have HP:=Aside0.mk hp;have HG:=Aside0.mk hg;have HA:=Aside0.mk ha;have HN:=Aside0.mk hn;have H256:Aside0 (n≤256):=⟨by omega⟩;have hd0:decide (a < 0)=false:=decide_eq_false (by omega);have hd1:decide (a ≥ (n:Int))=false:=decide_eq_false (by omega);have hd2:decide ((n:Int)≤a)=false:=decide_eq_false (by omega);rw [hn];clear hnx hnx' hg hp ha hn h256 hln
 go_enter Tryz.func66,Tryz.ntmps66
 go_wp2_with fail
 refine HROW.out.mono ?_;rintro e w1 ⟨v0,rfl,hR,hB⟩;have hnpos:0 < n:=by have:=HA.out;omega
 obtain ⟨ob,cap,rfl,hob0,hob1,_⟩:=Kd.R_form hR (by simpa using hnpos);rw [List.length_replicate] at hR ⊢;have HR:=Aside0.mk hR;have HB:=Aside0.mk hB;clear hR hB HROW hnpos;have hS2:Spr ((w1.alloc (.cells #[.slice (some ⟨ob,0,none⟩) n cap] 23)).alloc (.cells #[.slice none 0 0] 23)) w.heap.size w1.heap.size (w1.heap.size+1) ob cap (fun i=>i < w.heap.size) (List.replicate n (-1)) []:=by
  have e1:(w1.alloc (.cells #[.slice (some ⟨ob,0,none⟩) n cap] 23)).heap.size=w1.heap.size+1:=by show (w1.heap.push _).size=_;simp
  have hb1:=z21 w1 (.cells #[.slice (some ⟨ob,0,none⟩) n cap] 23);have hb2:=z21 (w1.alloc (.cells #[.slice (some ⟨ob,0,none⟩) n cap] 23)) (.cells #[.slice none 0 0] 23);have hsz:=HB.out.size;rw [e1] at hb2;refine ⟨?_,⟨_,hb2,Que.nil _ _⟩,?_,by omega,⟨hsz,by omega⟩,by omega,by omega⟩
  ·rw [List.length_replicate];exact (Below.heap_alloc _ _ _ (z15 hb1)).trans hb1
  ·rw [List.length_replicate];exact R_only (Kd.R_alloc (Kd.R_alloc HR.out _) _)
 have hF2:Fr w ((w1.alloc (.cells #[.slice (some ⟨ob,0,none⟩) n cap] 23)).alloc (.cells #[.slice none 0 0] 23)) (fun i=>i=g) :=
  ((Fr.of_below HB.out).mono (S':=fun i=>i=g) fun i h1 h2=>by omega).trans ((z31 _ _ _).trans (z31 _ _ _))
 have hY2:GrY ((w1.alloc (.cells #[.slice (some ⟨ob,0,none⟩) n cap] 23)).alloc (.cells #[.slice none 0 0] 23)) g B p (fun i=>i < w.heap.size) :=
  (GrY.of_gr HG.out).keep fun i hi _=>(Below.heap_alloc _ _ _ (Nat.lt_of_lt_of_le (Nat.lt_of_lt_of_le hi HB.out.size) (z31 w1 _ (fun _=>False)).size)).trans ((Below.heap_alloc _ _ _ (Nat.lt_of_lt_of_le hi HB.out.size)).trans (HB.out.block i hi))
 have HS2:=Aside0.mk hS2;have HF2:=Aside0.mk hF2;have HY2:=Aside0.mk hY2;have HSZ1:Aside0 (w.heap.size≤w1.heap.size):=⟨HB.out.size⟩;have HSZ2:Aside0 (w1.heap.size < ((w1.alloc (.cells #[.slice (some ⟨ob,0,none⟩) n cap] 23)).alloc (.cells #[.slice none 0 0] 23)).heap.size):=⟨by show _ < ((w1.heap.push _).push _).size;simp;omega⟩;have HGL:Aside0 (g < w.heap.size):=⟨HG.out.lt⟩;have HOB:=Aside0.mk hob0;clear hS2 hF2 hY2 HR HB hob0 hob1
 go_upto_region 6 with (fail)
 generalize ((w1.alloc (.cells #[.slice (some ⟨ob,0,none⟩) n cap] 23)).alloc (.cells #[.slice none 0 0] 23))=W2 at HS2 HF2 HY2 HSZ2 ⊢;generalize w1.heap.size+1=bw at HS2 ⊢;generalize w1.heap.size=bo at HS2 HSZ1 HSZ2 ⊢;have HC0:=Aside0.mk (z3a HS2.out (by have:=HSZ1.out;have:=HSZ2.out;omega) (fun i h1 h2=>by have:=HSZ1.out;have:=HSZ2.out;omega) (t:=a) (s:=0) (by rw [List.length_replicate];exact HA.out) (by simp))
 go_wp2_with fail
 refine HC0.out.mono ?_;rintro e w3 ⟨rfl,hS3,hF3⟩;have hneg:rd (List.replicate n (-1:Int)) a < 0:=by rw [rd_rep n HA.out.1 HA.out.2];omega
 rw [if_pos hneg,if_pos hneg] at hS3;obtain ⟨hbf,hz0⟩:=Bfs.start HA.out HNX.out;have hng:=negs_set (List.replicate n (-1:Int)) a.toNat 0 (by rw [List.length_replicate];have:=HA.out;omega) (by rw [show ((a.toNat:Nat):Int)=a by have:=HA.out;omega];exact hneg) (Int.le_refl _);rw [negs_rep] at hng;have HSP3:Aside0 (Sp w w3 g B w.heap.size bo bw ob cap n p (prevL p) a (fun i=>i < w.heap.size) ((List.replicate n (-1:Int)).set a.toNat 0) [a]):=⟨⟨by simpa using hS3,
  HY2.out.keep fun i hi h=>hF3.block i hi fun h2=>by
   have:=HGL.out
   rcases h with h|h
   ·omega
   ·exact h2.2 h,
  fun i hi=>by have:=hF3.size;have:=HF2.out.size;omega,fr_new HF2.out hF3 fun i hi=>hi.1,fun v h0 h1=>by
   rw [rd_set (by rw [List.length_replicate];exact HA.out) h0,rd_rep n h0 h1]
   split <;> omega,hz0⟩⟩
 have HBF3:=Aside0.mk hbf;have HM3:Aside0 (2 * negs ((List.replicate n (-1:Int)).set a.toNat 0)+[a].length < 2 * n+2):=⟨by simp only [List.length_singleton];omega⟩;clear hS3 hF3 hneg hbf hz0 hng HC0 HS2 HF2 HY2 HSZ2;go_wp2
 go_loopg [] (2 * n+2) (fun kq wr=>∃ (Y:Nat→Prop) (out work:List Int),Aside0 (Sp w wr g B w.heap.size bo bw ob cap n p (prevL p) a Y out work)∧Aside0 (Bfs n (prevL p) a out work)∧Aside0 (2 * negs out+work.length < kq)∧Aside0 (kq≤2 * n+2))
 case atStart=>exact ⟨_,_,_,HSP3,HBF3,HM3,⟨Nat.le_refl _⟩⟩
 case round =>
  clear HSP3 HBF3 HM3;obtain ⟨Y,out,work,hsp,hbf,hk,HMX⟩:=hrel;have c1:=cell_of_one hsp.out.spr.outBox;obtain ⟨v,hv,hq⟩:=hsp.out.spr.wkBox;cases work with
  | nil =>
   obtain ⟨av,cv,rfl,_⟩:=hq.slice;have c2:=cell_of_one hv;have HE:Aside0 (z35 w g B p (prevL p) a (.returned (.slice (some ⟨ob,0,none⟩) out.length cap)) wr):=⟨⟨_,out,rfl,Kd.R_mono hsp.out.spr.row (fun _ _=>trivial),fun _=>by rw [HN.out];exact ⟨hbf.out.done hsp.out.z,fun v h0 h1=>by have:=hsp.out.q v h0 h1;omega⟩,fun h=>absurd (HN.out ▸ HA.out) h,hsp.out.gr.gr,hsp.out.fr⟩⟩;simp only [List.length_nil] at c2;clear hv hq hsp hbf hk;go_wp2;go_ret
   exact HE.out
  | cons c work =>
   obtain ⟨av,cv,rfl,hcv⟩:=hq.slice;have hcut:=hq.cut;obtain ⟨bq,off,rfl,hbq,hhead⟩:=hq.head;have c2:=cell_of_one hv;have f2:=free_of_one hv;have hc:=hbf.out.inw c (by simp);obtain ⟨i0,hi0,hz0_,hz1_,hz2_⟩:=info_parts infoC_int;have hct:=cut_from (P:=Tryz.prog) 23 3 .i64 Tryz.underlying23 hi0 1 hz1_ (some ⟨bq,off,none⟩) (c :: work).length cv 1 (by omega) (by simp;omega);rw [show (1:Int).toNat=1 from rfl] at hct;obtain ⟨a2,ha2⟩:∃ x:Option Addr,(if cv=1 then (some ⟨bq,off,none⟩:Option Addr) else (some (⟨bq,off,none⟩:Addr)).map (·.add (1 * 1)))=x:=⟨_,rfl⟩;rw [ha2] at hct hcut;obtain ⟨lw,hlw⟩:∃ k,(c :: work).length=k:=⟨_,rfl⟩;have hlw1:work.length+1=lw:=by rw [← hlw];rfl
   rw [hlw] at hct hcut hcv hv c2;have hd0_:decide ((lw:Int) > 0)=true:=decide_eq_true (by omega);have hd1_:decide (0 < (lw:Int))=true:=decide_eq_true (by omega);have hd2_:decide (0 < lw)=true:=decide_eq_true (by omega);have hp0:(0 < lw)=True:=eq_true (by omega);have hp1:(0 < (lw:Int))=True:=eq_true (by omega);have hfs:=fr_set wr ⟨bw,0,none⟩ (.slice a2 (lw - 1) (cv - 1));have HSPA:Aside0 (Spr (wr.setCell ⟨bw,0,none⟩ (.slice a2 (lw - 1) (cv - 1))) w.heap.size bo bw ob cap Y out work):=⟨⟨(hfs.block bo (z15 hsp.out.spr.outBox) hsp.out.spr.ne).trans hsp.out.spr.outBox,⟨_,one_setCell hv,hcut.fr hfs fun i hi e=>hi.2.2.1 e⟩,
    Kd.R_step hsp.out.spr.row (fun k hk hlt=>hfs.block k hlt (by rw [hk];exact hsp.out.spr.ob_bw)),hsp.out.spr.ne,hsp.out.spr.lo,hsp.out.spr.nX⟩⟩
   have HYA:Aside0 (GrY (wr.setCell ⟨bw,0,none⟩ (.slice a2 (lw - 1) (cv - 1))) g B p Y):=⟨hsp.out.gr.keep fun i hi h=>hfs.block i hi fun e=>by
    have e:i=bw:=e
    rcases h with h|h
    ·have:=HGL.out;have:=hsp.out.spr.lo;omega
    ·exact hsp.out.spr.nX.1 (e ▸ h)⟩
   have HFA:Aside0 (Fr w (wr.setCell ⟨bw,0,none⟩ (.slice a2 (lw - 1) (cv - 1))) (fun i=>i=g)):=⟨fr_new hsp.out.fr hfs fun i (e:i=bw)=>by rw [e];exact hsp.out.spr.lo.2⟩;have HLA:Aside0 (∀ i,Y i→i < (wr.setCell ⟨bw,0,none⟩ (.slice a2 (lw - 1) (cv - 1))).heap.size):=⟨fun i hi=>Nat.lt_of_lt_of_le (hsp.out.lt i hi) hfs.size⟩;have HZ:=Aside0.mk hsp.out.z;have HQQ:=Aside0.mk hsp.out.q;have HK:Aside0 (2 * negs out+work.length+1 < gk):=⟨by have:=hk.out;simp only [List.length_cons] at this;omega⟩;have HCW:=Aside0.mk hc;clear hfs hq hcut hbq hc hsp hk ha2 hlw hlw1 hcv hv hz0_ hz1_ hz2_ hi0
   go_upto_region 10 with (fail)
   generalize wr.setCell ⟨bw,0,none⟩ (.slice a2 (lw - 1) (cv - 1))=wa at HSPA HYA HFA HLA ⊢;have HNC:=Aside0.mk (graphPrev2 HP.out HYA.out.gr (x:=c) (Gr.wfI_of (by have:=HCW.out;have:=H256.out;omega)));clear c1 c2 f2 hhead hct hd0_ hd1_ hd2_ hp0 hp1
   go_wp2_with fail
   refine HNC.out.mono ?_;rintro e wb ⟨⟨vr,rfl,hRr,hMr,hFr⟩,hYr⟩;obtain ⟨ar,cr,rfl⟩:=Kd.R_slice hRr;obtain ⟨X,hX⟩:∃ X:Nat→Prop,X=fun i=>(Y i∨wa.heap.size≤i)∧i < wb.heap.size:=⟨_,rfl⟩
   have HRB:Aside0 (Kd.R (Kd.int .i64) 3 wb wa.heap.size X (.slice ar (prevL p c).length cr) (prevL p c)):=⟨Kd.R_mono (Kd.R_bound hRr) fun k hk=>by rw [hX];exact ⟨.inr hk.2.1,hk.2.2.1⟩⟩;have HYB:Aside0 (GrY wb g B p X):=⟨(hYr Y HYA.out).lt.mono fun i hi=>by rw [hX];exact hi⟩;have HXL:Aside0 (∀ i,X i→i < wb.heap.size):=⟨fun i hi=>by rw [hX] at hi;exact hi.2⟩;have HSB:Aside0 (Spr wb w.heap.size bo bw ob cap X out work):=⟨by
    obtain ⟨v0,hv0,_⟩:=HSPA.out.wkBox;obtain ⟨c0,hc0⟩:=HSPA.out.obT;have h1:=z15 hv0;have h2:=z15 hc0;refine (HSPA.out.mono (X':=X) (fun i hi hok h=>?_) (fun h=>?_) (fun h=>?_)).fr hFr (fun i hi e=>by have:=HGL.out;omega)
    ·rw [hX] at h;exact h.1.elim hok.2.2.2.2 fun h=>by omega
    ·rw [hX] at h;exact h.1.elim HSPA.out.nX.1 fun h=>by omega
    ·rw [hX] at h;exact h.1.elim HSPA.out.nX.2 fun h=>by omega⟩
   have HSP4:Aside0 (Sp w wb g B w.heap.size bo bw ob cap n p (prevL p) a X out work):=⟨⟨HSB.out,HYB.out,HXL.out,HFA.out.trans hFr,HQQ.out,HZ.out⟩⟩;obtain ⟨dc,hdc⟩:∃ z,rd out c=z:=⟨_,rfl⟩;have HDC:=Aside0.mk hdc;have hll:=HLN.out c;obtain ⟨l,hl⟩:∃ l,prevL p c=l:=⟨_,rfl⟩;rw [hl] at HRB hll ⊢;have HLM:Aside0 (∀ u,u ∈ l↔u ∈ prevL p c):=⟨fun u=>by rw [hl]⟩;have HLL:=Aside0.mk hll;clear hRr hMr hFr hYr hX HYB HSB HSPA HYA HFA HLA HNC HQQ HZ hdc hll hl;go_wp2
   go_loopw [38] (fun v38 wi=>∃ (i:Nat) (out' work':List Int),v38=.int .i64 i∧Aside0 (i≤l.length)∧Aside0 (Sp w wi g B w.heap.size bo bw ob cap n p (prevL p) a X out' work')∧Aside0 (Bfs n (prevL p) a out' (c :: work'))∧Aside0 (rd out' c=dc)∧Aside0 (∀ u ∈ l.take i,0≤rd out' u) ∧
     Aside0 (2 * negs out'+work'.length≤2 * negs out+work.length)∧Aside0 (Kd.R (Kd.int .i64) 3 wi wa.heap.size X (.slice ar l.length cr) l)∧Aside0 (wb.heap.size≤wi.heap.size))
    (fun v _=>l.length - (intOf v).toNat)
   case atStart=>exact ⟨0,out,work,rfl,⟨Nat.zero_le _⟩,HSP4,hbf,HDC,⟨by simp⟩,⟨Nat.le_refl _⟩,HRB,⟨Nat.le_refl _⟩⟩
   case round =>
    clear HSP4 hbf HDC HRB;obtain ⟨i,out',work',rfl,hi,hsp,hbf,hdc,htk,hms,hrw,hsz⟩:=hrel;have hi:=hi.out;have hl1:=HLL.out
    by_cases hil:i < l.length
    ·obtain ⟨u,hu⟩:∃ u,rd l (i:Int)=u:=⟨_,rfl⟩;have hum:u ∈ l:=hu ▸ rd_mem hil;obtain ⟨as_,ea,hx⟩:=Kd.at_int (Kd.R_reads' hrw.out).2.2 (i:Int) (by omega) (by omega);cases ea;rw [Int.toNat_natCast,hu] at hx;have hcr:=(hbf.out.inw c (by simp)).1;have hln:=hbf.out.len;obtain ⟨hxc0,_⟩:=Kd.R_celln 0 hsp.out.spr.row c hcr.1 (by omega);have hxc:wr.cell? ⟨ob,c.toNat,none⟩=some (.int .i64 dc):=(by rw [← hdc.out];exact hxc0);clear hxc0;have c1:=cell_of_one hsp.out.spr.outBox;have hdq:=hsp.out.q c hcr.1 hcr.2;rw [hdc.out] at hdq;have hd0:=(hbf.out.inw c (by simp)).2;rw [hdc.out] at hd0;have h256:=H256.out;have hur:=HNX.out c hcr.1 hcr.2 u ((HLM.out u).1 hum);have hbl:=hbf.out.low;have hwk:work'.length < 1000000:=(by have:=hms.out;have:=HK.out;have:=HMX.out;omega);have HC:=Aside0.mk (z3a hsp.out.spr (by have:=hsp.out.fr.size;omega) (fun j h1 h2=>by have:=HXL.out j h2;have:=hsz.out;omega) (t:=u) (s:=dc+1) ⟨hur.1,by omega⟩ hwk);have HST:=Aside0.mk (bfs_step hbf.out hdc.out ((HLM.out u).1 hum) hsp.out.q);have hwr:IntKind.i64.wrap (dc+1)=dc+1:=IntWalk.i64_in _ (by omega);have HWR1:=Lib.hid hwr;clear hwr;have hwr2:wrap64 (dc+1)=dc+1:=by
      have h1:-9223372036854775808≤dc+1∧dc+1≤9223372036854775807:=(by omega);unfold wrap64;omega
     have HWR:=Aside0.mk (And.intro HWR1.out hwr2);clear hwr2 HWR1;have hp0:(0≤(i:Int))=True:=eq_true (by omega);have hp1:((i:Int) < (l.length:Int))=True:=eq_true (by omega);have hp2:(0≤c)=True:=eq_true hcr.1;have hp3:(c < (out'.length:Int))=True:=eq_true (by omega);have hid:decide ((i:Int) < (l.length:Int))=true:=decide_eq_true (by omega);have HU:=Lib.hid hu;have HUR:=Aside0.mk hur;have HIL:=Aside0.mk hil;obtain ⟨hwr,hwr2⟩:=HWR.out;clear hu hum hcr hln hdq hd0 hur hbl hwk hil
     go_wp2_with fail
     refine HC.out.mono ?_;rintro e wz ⟨rfl,hS,hF⟩;clear hwr hwr2 hp0 hp1 hp2 hp3 hid hx hxc c1;have HSPZ:=Aside0.mk (hsp.out.next HGL.out (Nat.le_refl _) hS hF HST.out.2.2.2.2.1 ((HST.out.2.2.1 a HA.out.1 HA.out.2 (by rw [hsp.out.z];exact Int.le_refl _)).trans hsp.out.z));have HRZ:Aside0 (Kd.R (Kd.int .i64) 3 wz wa.heap.size X (.slice (some as_) l.length cr) l):=⟨Kd.R_step hrw.out fun k hk hlt=>hF.block k hlt fun h=>h.2 hk⟩;have HSZZ:Aside0 (wb.heap.size≤wz.heap.size):=⟨Nat.le_trans hsz.out hF.size⟩;have HTKZ:Aside0 (∀ z ∈ l.take (i+1),0≤rd (if rd out' u < 0 then out'.set u.toNat (dc+1) else out') z):=⟨fun z hz=>by
      rw [List.take_add_one,List.mem_append] at hz
      rcases hz with hz|hz
      ·have h1:=htk.out z hz;have h2:=HNX.out c (hbf.out.inw c (by simp)).1.1 (hbf.out.inw c (by simp)).1.2 z ((HLM.out z).1 (List.mem_of_mem_take hz));rw [HST.out.2.2.1 z h2.1 h2.2 h1];exact h1
      ·rw [List.getElem?_eq_getElem HIL.out] at hz;have h1:z=u:=by
        have h2:z=l[i]'HIL.out:=(by simpa using hz);rw [h2,← HU.out];unfold rd;rw [Int.toNat_natCast,List.getD_eq_getElem?_getD,List.getElem?_eq_getElem HIL.out];rfl
       rw [h1];exact HST.out.2.2.2.1⟩
     have HBZ:=Aside0.mk HST.out.1;have HDZ:=Aside0.mk HST.out.2.1;have HMZ:Aside0 (2 * negs (if rd out' u < 0 then out'.set u.toNat (dc+1) else out')+(if rd out' u < 0 then work' ++ [u] else work').length≤2 * negs out+work.length):=⟨Nat.le_trans HST.out.2.2.2.2.2 hms.out⟩;clear hS hF HC HST;generalize (if rd out' u < 0 then out'.set u.toNat (dc+1) else out')=outz at HSPZ HTKZ HBZ HDZ HMZ;generalize (if rd out' u < 0 then work' ++ [u] else work')=workz at HSPZ HBZ HMZ;go_wp2
     go_roundw
     case rel=>exact ⟨i+1,outz,workz,by go_num,⟨HIL.out⟩,HSPZ,HBZ,HDZ,HTKZ,HMZ,HRZ,HSZZ⟩
     case measure=>have:=HIL.out;simp [intOf];omega
    ·have hi':i=l.length:=(by omega);subst hi';have hid:decide ((l.length:Int) < (l.length:Int))=false:=decide_eq_false (by omega);have HBZ:Aside0 (Bfs n (prevL p) a out' work'):=⟨hbf.out.drop fun u hu=>⟨htk.out u (by rw [List.take_length];exact (HLM.out u).2 hu),by
      have h1:=(hbf.out.inw c (by simp)).1;have h2:=HNX.out c h1.1 h1.2 u hu;exact hbf.out.top c (by simp) u h2.1 h2.2⟩⟩
     have HMZ:Aside0 (2 * negs out'+work'.length+1 < gk):=⟨by have:=hms.out;have:=HK.out;omega⟩;clear hbf hdc htk hms hrw hsz;go_wp2
     go_roundg (2 * negs out'+work'.length+1)
     case measure=>exact HMZ.out
     case rel=>exact ⟨X,out',work',hsp,HBZ,⟨Nat.lt_succ_self _⟩,⟨by have:=HMZ.out;have:=HMX.out;omega⟩⟩
set_option maxHeartbeats 4000000 in
theorem farTo {w:World} {g B:Nat} {p:Im} (hp:Rt p) (hg:Gr w g B p) (hnx:∀ v:Int,0≤v→v < p.f5.length→∀ u ∈ prevL p v,0≤u∧u < p.f5.length) (hl3:p.f3.length≤100) (hl4:p.f4.length≤40) {a:Int} :
  Calls Tryz.prog 33 #[.pointer (some ⟨g,0,none⟩),.int .i64 a] w (z35 w g B p (prevL p) a):=by
 have h256:=hp.fits.2.2.1;have HIM:=Aside0.mk (graphImage hg hl3 hl4 (by omega));have HSP:=Aside0.mk (fun (w1:World) (h:Below w.heap.size w w1)=>spreadPrev hp (hg.below h) hnx (fun v=>Nat.le_trans (prev_len p h256 v) (by omega)) (a:=a));have HGL:=Aside0.mk hg.lt;have hmf:∀ (fn:Fn) (first cap:Array Value) (w:World),(Instr.makeFunc fn first cap).run Tryz.prog w=.ok (.func fn first cap) w:=fun _ _ _ _=>rfl
 clear hg hnx hl3 hl4 h256
 go_enter Tryz.func33,Tryz.ntmps33
 go_wp2_with fail
 refine HIM.out.mono ?_;rintro e w1 ⟨v3,v4,v5,rfl,h3,h4,h5,hB⟩;obtain ⟨A3,c3,rfl⟩:=Kd.R_slice h3;obtain ⟨A4,c4,rfl⟩:=Kd.R_slice h4;obtain ⟨A5,c5,rfl⟩:=Kd.R_slice h5;have HS1:=Aside0.mk (HSP.out w1 hB);have HB1:=Aside0.mk hB;have hfd:∀ w:World,(Instr.field 26 (.agg #[.int .i64 p.f0,.int .i64 p.f1,.int .i64 p.f2,.slice A3 p.f3.length c3,.slice A4 p.f4.length c4,.slice A5 p.f5.length c5]) 5).run Tryz.prog w=.ok (.slice A5 p.f5.length c5) w:=fun _=>by kernel_rfl
 clear h3 h4 h5 hB HSP HIM
 go_wp2_with fail
 refine HS1.out.mono ?_;rintro e w2 ⟨v,d,rfl,hR,hd,hn,hG,hF⟩;have HE:Aside0 (z35 w g B p (prevL p) a (.returned v) w2):=⟨⟨v,d,rfl,Kd.R_lower hR HB1.out.size,hd,hn,hG,((Fr.of_below HB1.out).mono (S':=fun i=>i=g) fun i h1 h2=>by omega).trans hF⟩⟩;obtain ⟨Ad,cd,rfl⟩:=Kd.R_slice hR;clear hR hd hn hG hF HS1;go_wp2;go_ret
 exact HE.out
end Go.Proofs.YtcbnhfnnjkkceaaGreat.X
end
section
namespace Go.Proofs.YtcbnhfnnjkkceaaGreat.X
open Go.RowKit Go.Proofs.YtcbnhfnnjkkceaaGreatW.PrintWords Go.Proofs.YtcbnhfnnjkkceaaGreat.Gr
theorem way_first {n:Nat} {nx:Int→List Int} {b u:Int} (hb:0≤b∧b < n) (hu:u ∈ nx b):∀ (k:Nat) (a:Int),Way n nx u k a→Way n nx b (k+1) a
 | 0,a,h=>by
  have h:a=u:=h;subst h;exact ⟨b,rfl,hb,hu⟩
 | k+1,a,h=>by
  obtain ⟨t,h1,h2,h3⟩:=h;exact ⟨t,way_first hb hu k t h1,h2,h3⟩
theorem way_rev {n:Nat} {nx pv:Int→List Int} (hT:∀ u v:Int,(0≤u∧u < n)→(0≤v∧v < n)→v ∈ nx u→u ∈ pv v) {a:Int}:∀ (k:Nat) (b:Int),(0≤b∧b < n)→Way n nx a k b→Way n pv b k a
 | 0,b,_,h=>by
  have h:b=a:=h;exact h.symm
 | k+1,b,hb,h=>by
  obtain ⟨u,h1,h2,h3⟩:=h;exact way_first hb (hT u b h2 hb h3) k a (way_rev hT k u h2 h1)
theorem chk_has (k:Nat) (a:Int):∃ s,z0k.f (k+3) a=some s∧s.size≤4:=by
 have h2:∀ (x:Int) (b:Bool),∃ s,z0k.j2 (k+1) x b=some s∧s.size≤4:=fun x b=>by
  rw [z0k.j2]
  repeat' split
  all_goals exact ⟨_,rfl,by decide⟩
 have h1:∀ (x:Int) (b:Bool),∃ s,z0k.j1 (k+2) x b=some s∧s.size≤4:=fun x b=>by
  rw [z0k.j1]
  repeat' split
  all_goals first|exact h2 _ _|exact ⟨_,rfl,by decide⟩
 have h0:∀ (x:Int) (b:Bool),∃ s,z0k.j0 (k+3) x b=some s∧s.size≤4:=fun x b=>by
  rw [z0k.j0]
  repeat' split
  all_goals first|exact h1 _ _|exact ⟨_,rfl,by decide⟩
 unfold z0k.f
 repeat' split
 all_goals exact h0 _ _
theorem chk_in_l0 (s:ByteArray) (x:Int) (hs:s.size≤4):∀ (d k j:Nat),j+d=s.size→d < k→∃ b,z0j.l0 k s x j=some b
 | 0,k,j,h,hk=>by
  obtain ⟨k,rfl⟩:∃ i,k=i+1:=⟨k - 1,by omega⟩;rw [z0j.l0,if_neg (by omega)];exact ⟨_,rfl⟩
 | d+1,k,j,h,hk=>by
  obtain ⟨k,rfl⟩:∃ i,k=i+1:=⟨k - 1,by omega⟩;rw [z0j.l0,if_pos (by omega),if_pos (by omega)]
  split
  ·exact ⟨_,rfl⟩
  ·rw [show wrap64 ((j:Int)+1)=((j+1:Nat):Int) by unfold wrap64;omega];exact chk_in_l0 s x hs d k (j+1) (by omega) (by omega)
theorem chk_in {k:Nat} (hk:5≤k) (s:ByteArray) (x:Int) (hs:s.size≤4):∃ b,z0j.f k s x=some b:=by
 unfold z0j.f;have:=chk_in_l0 s x hs s.size k 0 (by omega) (by omega)
 simpa using this
theorem chk_reg {k:Nat} (hk:5≤k) (s:ByteArray) (x y:Int) (hs:s.size≤4):∃ b,z0l.f k s x y=some b:=by
 unfold z0l.f;obtain ⟨b,hb⟩:=chk_in hk s x hs;rw [hb,Option.bind_some]
 repeat' split
 all_goals exact ⟨_,rfl⟩
theorem chk_wrong {k:Nat} (hk:8≤k) (a b c d e:Int):∃ r,z0e.f k a b c d e=some r:=by
 obtain ⟨k,rfl⟩:∃ i,k=i+8:=⟨k - 8,by omega⟩;have h1:∀ (s:ByteArray) (x:Bool),s.size≤4→∃ r,z0e.j1 (k+7) s x a b c d e=some r:=fun s x hs=>by
  rw [z0e.j1];obtain ⟨t,ht⟩:=chk_in (k:=k+6) (by omega) s 105 hs;rw [ht,Option.bind_some]
  repeat' split
  all_goals exact ⟨_,rfl⟩
 have h0:∀ x:Bool,∃ r,z0e.j0 (k+8) x a b c d e=some r:=fun x=>by
  rw [z0e.j0];obtain ⟨s,hs,hsz⟩:=chk_has (k+4) a;obtain ⟨t1,ht1⟩:=chk_reg (k:=k+7) (by omega) s 97 b hsz;obtain ⟨t2,ht2⟩:=chk_reg (k:=k+7) (by omega) s 98 c hsz;obtain ⟨t3,ht3⟩:=chk_in (k:=k+7) (by omega) s 119 hsz;obtain ⟨t4,ht4⟩:=chk_reg (k:=k+7) (by omega) s 99 d hsz;obtain ⟨t5,ht5⟩:=chk_in (k:=k+7) (by omega) s 105 hsz;rw [hs,Option.bind_some,ht1,Option.bind_some,ht2,Option.bind_some,ht3,Option.bind_some,ht4,Option.bind_some,ht5,Option.bind_some]
  repeat' split
  all_goals first|exact h1 _ _ hsz|exact ⟨_,rfl⟩
 unfold z0e.f
 split <;> exact h0 _
theorem chk_put_l0:∀ (n k:Nat) (x5:List Int) (y a b c d e:Int),n≤8→n < k→x5.length=8→∃ r,z0u.l0 k x5 y ((n:Int) - 1) a b c d e=some r
 | 0,k,x5,y,a,b,c,d,e,hn,hk,hx=>by
  obtain ⟨k,rfl⟩:∃ i,k=i+1:=⟨k - 1,by omega⟩;rw [z0u.l0,if_neg (by omega),Option.bind_some,if_pos (by simp only [List.length_cons,List.length_nil];omega)];exact ⟨_,rfl⟩
 | n+1,k,x5,y,a,b,c,d,e,hn,hk,hx=>by
  obtain ⟨k,rfl⟩:∃ i,k=i+1:=⟨k - 1,by omega⟩;rw [z0u.l0,if_pos (by omega),if_pos (by omega),if_pos (by omega),show wrap64 (((n+1:Nat):Int) - 1 - 1)=(n:Int) - 1 by unfold wrap64;omega];exact chk_put_l0 n k _ _ a b c d e (by omega) (by omega) (by rw [List.length_set];exact hx)
theorem chk_put {k:Nat} (hk:12≤k) (a b c d e:Int):∃ r,z0u.f k a b c d e=some r:=by
 unfold z0u.f;obtain ⟨t,ht⟩:=chk_wrong (k:=k) (by omega) a b c d e;rw [ht,Option.bind_some]
 split
 ·exact ⟨_,rfl⟩
 ·split
  ·exact ⟨_,rfl⟩
  ·rw [if_pos (by omega)];exact chk_put_l0 8 k _ _ a b c d e (by omega) (by omega) (by simp)
theorem chk_in3 (a lo hi:Int):z0m.f a lo hi=some (decide (lo≤a∧a≤hi)):=by
 unfold z0m.f
 by_cases h:a ≥ lo
 ·rw [if_pos h];simp [h]
 ·rw [if_neg h];simp [h]
end Go.Proofs.YtcbnhfnnjkkceaaGreat.X
end
section
namespace Go.Proofs.YtcbnhfnnjkkceaaGreat.X
open Go.RowKit Go.Proofs.YtcbnhfnnjkkceaaGreatW.PrintWords Go.Proofs.YtcbnhfnnjkkceaaGreatW.PrintLast Go.Proofs.YtcbnhfnnjkkceaaGreatW.PrintMore Go.Proofs.YtcbnhfnnjkkceaaGreat.Gr
theorem dist3 {nx:Int→List Int} {a b c:Int} {d:List Int} (hd:DistOf 3 nx a d) (ha:0≤a∧a < 3) (hb:0≤b∧b < 3) (hc:0≤c∧c < 3) (hab:a≠b) (hac:a≠c) (hbc:b≠c) (h1:nx a=[b]) (h2:nx b=[c]):rd d a=0∧rd d b=1∧rd d c=2:=by
 have w1:Way 3 nx a 1 b:=⟨a,rfl,ha,by rw [h1];simp⟩;have w2:Way 3 nx a 2 c:=⟨b,w1,hb,by rw [h2];simp⟩;have e0:=hd.least 0 a ha.1 ha.2 rfl;have e1:=hd.least 1 b hb.1 hb.2 w1;have e2:=hd.least 2 c hc.1 hc.2 w2;have v1:=hd.way b hb.1 hb.2 e1.1;have v2:=hd.way c hc.1 hc.2 e2.1;have hn0:∀ x,Way 3 nx a 0 x→x=a:=fun x h=>h
 have hn1:∀ x,Way 3 nx a 1 x→x=b:=fun x h=>by
  obtain ⟨u,hu,_,hx⟩:=h;have hu:u=a:=hu;rw [hu,h1] at hx
  simpa using hx
 refine ⟨by omega,?_,?_⟩
 ·rcases Int.lt_or_le (rd d b) 1 with h|h
  ·rw [show (rd d b).toNat=0 by omega] at v1;exact absurd (hn0 b v1).symm hab
  ·omega
 ·rcases Int.lt_or_le (rd d c) 1 with h|h
  ·rw [show (rd d c).toNat=0 by omega] at v2;exact absurd (hn0 c v2).symm hac
  ·rcases Int.lt_or_le (rd d c) 2 with h'|h'
   ·rw [show (rd d c).toNat=1 by omega] at v2;exact absurd (hn1 c v2).symm hbc
   ·omega
theorem list3 {d:List Int} (hl:d.length=3):d=[rd d 0,rd d 1,rd d 2]:=by
 match d,hl with
 | [x,y,z],_=>rfl
theorem p20_last:z2l p20:=by unfold z2l p20;decide
theorem p20_prev:prevL p20 1=[2]∧prevL p20 2=[0]:=by decide +kernel
theorem far20 {d:List Int} (h:DistOf p20.f5.length (nextL p20) 0 d):d=[0,2,1]:=by
 obtain ⟨h0,h1,h2⟩:=dist3 h (a:=0) (b:=2) (c:=1) (by omega) (by omega) (by omega) (by omega) (by omega) (by omega) p20_next.1 p20_next.2.1;rw [list3 h.len,h0,h1,h2]
theorem to20 {d:List Int} (h:DistOf p20.f5.length (prevL p20) 1 d):d=[2,0,1]:=by
 obtain ⟨h0,h1,h2⟩:=dist3 h (a:=1) (b:=2) (c:=0) (by omega) (by omega) (by omega) (by omega) (by omega) (by omega) p20_prev.1 p20_prev.2;rw [list3 h.len,h0,h1,h2]
theorem awake21_calls (w:World):Calls Tryz.prog 28 #[] w fun e w'=>e=.returned (.bool true)∧Below w.heap.size w w':=by
 have hb1:=z04 (Below.refl w.heap.size w) (Obj.cells #[.int .i64 0,.int .i64 2] 3);have hb2:=z04 hb1 (Obj.cells #[.int .i64 23,.int .i64 0,.int .i64 0,.int .i64 0,.int .u64 1,.int .i64 0,.int .i64 0,.int .i64 0,.int .i64 0,.int .u64 0,.int .i64 24,.int .i64 0,.int .i64 0,.int .i64 0,.int .u64 0] 79);have hf:=z08 (z21 w (Obj.cells #[.int .i64 0,.int .i64 2] 3)) (Obj.cells #[.int .i64 23,.int .i64 0,.int .i64 0,.int .i64 0,.int .u64 1,.int .i64 0,.int .i64 0,.int .i64 0,.int .i64 0,.int .u64 0,.int .i64 24,.int .i64 0,.int .i64 0,.int .i64 0,.int .u64 0] 79);have hc:=z21 (w.alloc (Obj.cells #[.int .i64 0,.int .i64 2] 3)) (Obj.cells #[.int .i64 23,.int .i64 0,.int .i64 0,.int .i64 0,.int .u64 1,.int .i64 0,.int .i64 0,.int .i64 0,.int .i64 0,.int .u64 0,.int .i64 24,.int .i64 0,.int .i64 0,.int .i64 0,.int .u64 0] 79);rw [show (w.alloc (Obj.cells #[.int .i64 0,.int .i64 2] 3)).heap.size=w.heap.size+1 by show (w.heap.push _).size=_;simp] at hc;have HNEW:=Aside0.mk (new_yes' p20 none 0 (some ⟨w.heap.size,0,none⟩) 2 (some ⟨w.heap.size+1,0,none⟩) 3 _ (Kd.C_nil (Kd.int .u8) _) (by decide) (ints_lit [0,2] (by decide) hf) (by decide) (code20_lit hc) (by decide) p20_wf p20_enc);have HB:=Aside0.mk hb2;clear hb1 hb2 hf hc
 go_enter Tryz.func28,Tryz.ntmps28
 go_wp2_with fail
 refine HNEW.out.mono ?_;rintro e w0 ⟨g,rfl,hG,hB⟩;have HG:=Aside0.mk hG;have HLG:Aside0 (w.heap.size≤g):=⟨Nat.le_trans HB.out.size hG.1⟩;have HBw:=Aside0.mk (z1m HB.out HB.out.size hB);obtain ⟨BB,hBB⟩:∃ n,(w.alloc (Obj.cells #[.int .i64 0,.int .i64 2] 3)).alloc (Obj.cells #[.int .i64 23,.int .i64 0,.int .i64 0,.int .i64 0,.int .u64 1,.int .i64 0,.int .i64 0,.int .i64 0,.int .i64 0,.int .u64 0,.int .i64 24,.int .i64 0,.int .i64 0,.int .i64 0,.int .u64 0] 79)=n:=⟨_,rfl⟩;rw [hBB] at HG;clear hG hB hBB HNEW HB;have HROW:=Aside0.mk (farFrom p20_rt HG.out (fun v h0 h1=>next_in p20_wf p20_enc p20_last ⟨h0,h1⟩) (by decide) (by decide) (a:=0))
 go_wp2_with fail
 refine HROW.out.mono ?_;rintro e w1' ⟨v,d,rfl,hR,hd,_,hG,hF⟩;have HGn:=Aside0.mk hG;have HBn:=Aside0.mk (fr_below hF HBw.out HBw.out.size HLG.out);clear HG HBw HROW;have HG:=HGn;have HBw:=HBn;clear HGn HBn;rw [far20 (hd (by decide)).1] at hR;obtain ⟨A,c,rfl⟩:=Kd.R_slice hR;have HI:=Aside0.mk (ints_calls true (Kd.C_below (Kd.R_reads' hR).2.2 (z04 (Below.refl _ _) (Obj.cells #[.int .i64 0,.int .i64 2,.int .i64 1] 3))) (Kd.R_reads' hR).2.1 (ints_lit [0,2,1] (by decide) (z21 w1' (Obj.cells #[.int .i64 0,.int .i64 2,.int .i64 1] 3))) (Nat.le_refl 3) (by decide) (by decide));clear hR hd hG hF
 go_wp2_with fail
 refine HI.out.mono ?_;rintro e w' ⟨rfl,nd,rfl⟩;have HGn:=Aside0.mk (HG.out.below (z2f (z04 (Below.refl _ _) (Obj.cells #[.int .i64 0,.int .i64 2,.int .i64 1] 3)) nd));have HBn:=Aside0.mk (z2f (z04 HBw.out (Obj.cells #[.int .i64 0,.int .i64 2,.int .i64 1] 3)) nd);clear HG HBw HI;have HG:=HGn;have HBw:=HBn;generalize (w1'.alloc (Obj.cells #[.int .i64 0,.int .i64 2,.int .i64 1] 3)).drewN nd=w1 at HG HBw ⊢;clear HGn HBn;have HROW:=Aside0.mk (farTo p20_rt HG.out (fun v _ _=>prev_in) (by decide) (by decide) (a:=1))
 go_wp2_with fail
 refine HROW.out.mono ?_;rintro e w2' ⟨v,d,rfl,hR,hd,_,hG,hF⟩;have HGn:=Aside0.mk hG;have HBn:=Aside0.mk (fr_below hF HBw.out HBw.out.size HLG.out);clear HG HBw HROW;have HG:=HGn;have HBw:=HBn;clear HGn HBn;rw [to20 (hd (by decide)).1] at hR;obtain ⟨A,c,rfl⟩:=Kd.R_slice hR;have HI:=Aside0.mk (ints_calls true (Kd.C_below (Kd.R_reads' hR).2.2 (z04 (Below.refl _ _) (Obj.cells #[.int .i64 2,.int .i64 0,.int .i64 1] 3))) (Kd.R_reads' hR).2.1 (ints_lit [2,0,1] (by decide) (z21 w2' (Obj.cells #[.int .i64 2,.int .i64 0,.int .i64 1] 3))) (Nat.le_refl 3) (by decide) (by decide));clear hR hd hG hF
 go_wp2_with fail
 refine HI.out.mono ?_;rintro e w' ⟨rfl,nd,rfl⟩;have HGn:=Aside0.mk (HG.out.below (z2f (z04 (Below.refl _ _) (Obj.cells #[.int .i64 2,.int .i64 0,.int .i64 1] 3)) nd));have HBn:=Aside0.mk (z2f (z04 HBw.out (Obj.cells #[.int .i64 2,.int .i64 0,.int .i64 1] 3)) nd);clear HG HBw HI;have HG:=HGn;have HBw:=HBn;generalize (w2'.alloc (Obj.cells #[.int .i64 2,.int .i64 0,.int .i64 1] 3)).drewN nd=w2 at HG HBw ⊢;clear HGn HBn;go_wp2;go_ret
 exact ⟨rfl,HBw.out⟩
end Go.Proofs.YtcbnhfnnjkkceaaGreat.X
end
section
namespace Go.Proofs.YtcbnhfnnjkkceaaGreat.X
open Go.RowKit Go.Proofs.YtcbnhfnnjkkceaaGreatW.PrintWords Go.Proofs.YtcbnhfnnjkkceaaGreat.Gr
theorem ref_fun_l0 (p:Im) (x:Int) (hl:p.f4.length≤40):∀ (d k j:Nat),j+d=p.f4.length→d < k→z0i.l0 k x (funUp p.f4 x j) j p.f0 p.f1 p.f2 p.f3 p.f4 p.f5=some (funUp p.f4 x p.f4.length)
 | 0,k,j,h,hk=>by
  obtain ⟨k,rfl⟩:∃ i,k=i+1:=⟨k - 1,by omega⟩;rw [z0i.l0,if_neg (by omega),show j=p.f4.length by omega]
 | d+1,k,j,h,hk=>by
  obtain ⟨k,rfl⟩:∃ i,k=i+1:=⟨k - 1,by omega⟩;have ih:=ref_fun_l0 p x hl d k (j+1) (by omega) (by omega);rw [z0i.l0,if_pos (by omega),if_pos (by omega),show wrap64 ((j:Int)+1)=((j+1:Nat):Int) by unfold wrap64;omega];have e:funUp p.f4 x (j+1)=if rd p.f4 j≤x then (j:Int) else funUp p.f4 x j:=rfl
  by_cases h1:rd p.f4 j≤x
  ·rw [if_pos h1] at e ⊢;rw [← e];exact ih
  ·rw [if_neg h1] at e ⊢;rw [← e];exact ih
theorem ref_fun (p:Im) (hl:p.f4.length≤40) {k:Nat} (hk:50≤k) (x:Int):z0i.f k p.f0 p.f1 p.f2 p.f3 p.f4 p.f5 x=some (funP p.f4 p.f5.length x):=by
 obtain ⟨k,rfl⟩:∃ i,k=i+1:=⟨k - 1,by omega⟩;unfold z0i.f funP
 by_cases h0:x < 0
 ·rw [if_pos h0,if_pos (.inl h0),z0i.j0,if_pos rfl]
 ·rw [if_neg h0]
  by_cases h1:(p.f5.length:Int)≤x
  ·rw [if_pos (.inr h1),z0i.j0,if_pos (decide_eq_true h1)]
  ·rw [if_neg (by omega),z0i.j0,if_neg (by simpa using h1)];have:=ref_fun_l0 p x hl p.f4.length k 0 (by omega) (by omega)
   simpa [funUp] using this
theorem ref_goes (a:Int):z1n.f a=some (goesB a):=by
 unfold z1n.f goesB
 by_cases h0:a ≥ 0
 ·rw [if_pos h0]
  by_cases h1:a≤25
  ·rw [if_pos h1]
   by_cases h2:a=0
   ·simp [h2]
   by_cases h3:a=21
   ·simp [h3]
   by_cases h4:a=24
   ·simp [h4]
   rw [if_neg h2,if_neg h3,if_neg h4]
   by_cases h5:a=25
   ·simp [h5]
   ·have h0':0≤a:=h0;simp [h2,h3,h4,h5,h1,h0']
  ·rw [if_neg h1];simp [h1]
 ·rw [if_neg h0];have h0':¬ 0≤a:=h0;simp [h0']
theorem funUp_ge (funs:List Int) (x:Int) {j:Nat} (hj:rd funs j≤x):∀ m:Nat,j < m→(j:Int)≤funUp funs x m
 | 0,h=>by omega
 | m+1,h=>by
  unfold funUp
  split
  ·omega
  ·rename_i h1
   by_cases e:j=m
   ·subst e;exact absurd hj h1
   ·exact funUp_ge funs x hj m (by omega)
theorem funUp_le (funs:List Int) (x:Int):∀ m:Nat,0≤funUp funs x m→rd funs (funUp funs x m)≤x
 | 0,h=>by simp [funUp] at h
 | m+1,h=>by
  unfold funUp at h ⊢
  split
  ·rename_i h1
   exact h1
  ·rename_i h1
   rw [if_neg h1] at h;exact funUp_le funs x m h
theorem hi_next {funs:List Int} {n:Nat} {x:Int} (h0:0≤x) (h1:x < n) (hf:0≤funP funs n x) (h:hiP funs n (funP funs n x)≤x+1):x+1=n∨funP funs n (x+1)≠funP funs n x:=by
 by_cases e:x+1=n
 ·exact .inl e
 ·refine .inr fun he=>?_
  unfold hiP at h
  split at h
  ·rename_i h2
   have h3:=funUp_ge funs (x+1) (j:=(funP funs n x+1).toNat) (by rw [show (((funP funs n x+1).toNat:Nat):Int)=funP funs n x+1 by omega];exact h) funs.length (by omega);have h4:funP funs n (x+1)=funUp funs (x+1) funs.length:=by
    unfold funP;rw [if_neg (by omega)]
   rw [he] at h4;omega
  ·omega
theorem lo_hi {funs:List Int} {n:Nat} {x:Int} (h0:0≤x) (h1:x < n) (hf:0≤funP funs n x):loP funs (funP funs n x)≤x∧x < hiP funs n (funP funs n x):=by
 have e:funP funs n x=funUp funs x funs.length:=by
  unfold funP;rw [if_neg (by omega)]
 constructor
 ·unfold loP;rw [e] at hf ⊢;exact funUp_le funs x _ hf
 ·unfold hiP
  split
  ·rename_i h2
   rcases Int.lt_or_le x (rd funs (funP funs n x+1)) with h3|h3
   ·exact h3
   ·have h4:=funUp_ge funs x (j:=(funP funs n x+1).toNat) (by rw [show (((funP funs n x+1).toNat:Nat):Int)=funP funs n x+1 by omega];exact h3) funs.length (by omega);omega
  ·exact h1
theorem u64w {n:Nat} (h:n≤1000000):IntKind.u64.wrap (n:Int)=n:=by
 unfold IntKind.wrap;simp [IntKind.bits,IntKind.signed];omega
theorem ref_stray_l0 (p:Im) (hw:wfP p) (hf:Fits p.f4 p.f5.length):∀ (d k x:Nat),x+d=p.f5.length→4 * d+60≤k →
  ∃ r,z0c.l0 k x p.f0 p.f1 p.f2 p.f3 p.f4 p.f5=some r∧(r < 0→∀ y:Int,(x:Int)≤y→y < p.f5.length→z26 p.f4 p.f5 y=false)
 | 0,k,x,h,hk=>by
  obtain ⟨k,rfl⟩:∃ i,k=i+1:=⟨k - 1,by omega⟩;rw [z0c.l0,if_neg (by omega)];exact ⟨_,rfl,fun _ y h0 h1=>by omega⟩
 | d+1,k,x,h,hk=>by
  obtain ⟨k,rfl⟩:∃ i,k=i+4:=⟨k - 4,by omega⟩;have hl:=hf.2.1;have hn:=hf.2.2.1;have ih:=fun k' (h':4 * d+60≤k')=>ref_stray_l0 p hw hf d k' (x+1) (by omega) h'
  have hww:wrap64 ((x:Int)+1)=((x+1:Nat):Int):=by unfold wrap64;omega
  have hx0:(0:Int)≤x:=by omega
  have hx1:(x:Int) < p.f5.length:=by omega
  have hfp:=funP_in hf hx0 hx1;have hi4:=hw.2 _ (rdI_mem (l:=p.f5) hx0 hx1);obtain ⟨i,hi⟩:∃ i,z06 p.f5 x=i:=⟨_,rfl⟩;rw [hi] at hi4;have hbad:∃ r:Int,some (x:Int)=some r∧(r < 0→∀ y:Int,(x:Int)≤y→y < p.f5.length→z26 p.f4 p.f5 y=false):=⟨x,rfl,fun h=>by omega⟩;have hnext:z26 p.f4 p.f5 x=false→∀ k',4 * d+60≤k'→∃ r,z0c.l0 k' ((x+1:Nat):Int) p.f0 p.f1 p.f2 p.f3 p.f4 p.f5=some r∧(r < 0→∀ y:Int,(x:Int)≤y→y < p.f5.length→z26 p.f4 p.f5 y=false):=fun hs k' hk'=>by
   obtain ⟨r,hr,hp⟩:=ih k' hk';refine ⟨r,hr,fun h0 y h1 h2=>?_⟩
   by_cases e:y=x
   ·rw [e];exact hs
   ·exact hp h0 y (by omega) h2
  have hfin:(goesB i.f0=true→¬ hiP p.f4 p.f5.length (funP p.f4 p.f5.length x)≤(x:Int)+1)→(i.f0=21∨i.f0=22→loP p.f4 (funP p.f4 p.f5.length x)≤i.f4∧i.f4 < hiP p.f4 p.f5.length (funP p.f4 p.f5.length x))→(i.f0=23→i.f4 < p.f4.length)→z26 p.f4 p.f5 x=false:=fun h1 h2 h3=>by
   unfold z26 z2s;simp only [hi];rw [Bool.or_eq_false_iff];constructor
   ·by_cases hg:goesB i.f0=true
    ·rw [hg,Bool.true_and];exact decide_eq_false (by have:=h1 hg;simpa using this)
    ·simp [hg]
   ·by_cases h4:i.f0=21∨i.f0=22
    ·rw [if_pos h4];have:=h2 h4;rw [decide_eq_false (by omega),decide_eq_false (by omega)];rfl
    ·rw [if_neg h4]
     by_cases h5:i.f0=23
     ·rw [if_pos h5];exact decide_eq_false (by have:=h3 h5;omega)
     ·rw [if_neg h5]
  have h3:∀ b:Bool,(goesB i.f0=true→¬ hiP p.f4 p.f5.length (funP p.f4 p.f5.length x)≤(x:Int)+1)→(i.f0=21∨i.f0=22)→(b=false→loP p.f4 (funP p.f4 p.f5.length x)≤i.f4∧i.f4 < hiP p.f4 p.f5.length (funP p.f4 p.f5.length x)) →
    ∃ r,z0c.j3 (k+1) x b p.f0 p.f1 p.f2 p.f3 p.f4 p.f5 i.f0 i.f1 i.f2 i.f3 i.f4=some r∧(r < 0→∀ y:Int,(x:Int)≤y→y < p.f5.length→z26 p.f4 p.f5 y=false):=fun b hg ho hb=>by
   rw [z0c.j3,hww];cases b with
   | true=>exact hbad
   | false =>
    rw [if_neg (by simp),if_neg (by omega)];exact hnext (hfin hg (fun _=>hb rfl) (fun h=>by omega)) k (by omega)
  have h2:∀ b:Bool,(goesB i.f0=true→¬ hiP p.f4 p.f5.length (funP p.f4 p.f5.length x)≤(x:Int)+1)→(b=true↔i.f0=21∨i.f0=22) →
    ∃ r,z0c.j2 (k+2) x (funP p.f4 p.f5.length x) b p.f0 p.f1 p.f2 p.f3 p.f4 p.f5 i.f0 i.f1 i.f2 i.f3 i.f4=some r∧(r < 0→∀ y:Int,(x:Int)≤y→y < p.f5.length→z26 p.f4 p.f5 y=false):=fun b hg hb=>by
   rw [z0c.j2,hww,u64w (by omega),u64w (by omega),ref_fun p (by omega) (by omega),Option.bind_some];cases b with
   | true =>
    rw [if_pos rfl]
    by_cases h5:i.f4 ≥ p.f5.length
    ·rw [if_pos h5];exact h3 true hg (hb.1 rfl) (fun h=>by simp at h)
    ·rw [if_neg h5,show wrap64 i.f4=i.f4 by unfold wrap64;omega];refine h3 _ hg (hb.1 rfl) (fun h=>?_);have h6:funP p.f4 p.f5.length i.f4=funP p.f4 p.f5.length x:=(by simpa using h);have:=lo_hi (funs:=p.f4) (n:=p.f5.length) hi4 (by omega) (by rw [h6];exact hfp.1);rw [h6] at this;exact this
   | false =>
    have hno:¬ (i.f0=21∨i.f0=22):=fun h=>by simpa using hb.2 h
    rw [if_neg (by simp)]
    by_cases h5:i.f0=23
    ·rw [if_pos h5]
     by_cases h6:i.f4 ≥ p.f4.length
     ·rw [if_pos h6];exact hbad
     ·rw [if_neg h6];exact hnext (hfin hg (fun h=>absurd h hno) (fun _=>by omega)) (k+1) (by omega)
    ·rw [if_neg h5];exact hnext (hfin hg (fun h=>absurd h hno) (fun h=>absurd h h5)) (k+1) (by omega)
  have h1:∀ b:Bool,(b=false→goesB i.f0=true→¬ hiP p.f4 p.f5.length (funP p.f4 p.f5.length x)≤(x:Int)+1) →
    ∃ r,z0c.j1 (k+3) x (funP p.f4 p.f5.length x) b p.f0 p.f1 p.f2 p.f3 p.f4 p.f5 i.f0 i.f1 i.f2 i.f3 i.f4=some r∧(r < 0→∀ y:Int,(x:Int)≤y→y < p.f5.length→z26 p.f4 p.f5 y=false):=fun b hb=>by
   rw [z0c.j1];cases b with
   | true=>exact hbad
   | false =>
    rw [if_neg (by simp)]
    by_cases h5:i.f0=21
    ·rw [if_pos h5];exact h2 true (hb rfl) ⟨fun _=>.inl h5,fun _=>rfl⟩
    ·rw [if_neg h5];exact h2 _ (hb rfl) ⟨fun h=>.inr (by simpa using h),fun h=>by rcases h with h|h;exact absurd h h5;simpa using h⟩
  rw [z0c.l0,if_pos hx1,if_pos hx0,ref_fun p (by omega) (by omega),Option.bind_some,hi,ref_goes,Option.bind_some,hww];cases hg:goesB i.f0 with
  | true =>
   rw [if_pos rfl]
   by_cases e:((x+1:Nat):Int)=p.f5.length
   ·rw [if_pos e];exact h1 true (fun h=>by simp at h)
   ·rw [if_neg e,ref_fun p (by omega) (by omega),Option.bind_some];refine h1 _ (fun h _ hh=>?_);have h6:funP p.f4 p.f5.length ((x+1:Nat):Int)=funP p.f4 p.f5.length x:=(by simpa using h)
    rcases hi_next hx0 hx1 hfp.1 hh with h7|h7
    ·omega
    ·exact h7 (by rw [← h6];congr 1)
  | false =>
   rw [if_neg (by simp)];exact h1 false (fun _ h=>by rw [hg] at h;simp at h)
def OkI (ha hb hc hw hi:Bool) (a b c d:Int):Prop :=
 (if ha=true then 0≤a∧a≤7 else a=0)∧(if hb=true then 0≤b∧b≤7 else b=0)∧(if hw=true then c=1∨c=2∨c=4∨c=8 else if hc=true then 0≤c∧c≤7 else c=0)∧(hi=true∨d=0)
def z2m:List S166:=(z2t.f).getD []
theorem formsL_eq:z2t.f=some z2m:=rfl
structure TabI (op:Int) (s:ByteArray) (ha hb hc hw hi:Bool):Prop where
 has:z0k.f 11 op=some s
 a:z0j.f 11 s 97=some ha
 b:z0j.f 11 s 98=some hb
 c:z0j.f 11 s 99=some hc
 w:z0j.f 11 s 119=some hw
 i:z0j.f 11 s 105=some hi
 w10:hw=true→z0j.f 10 s 105=some hi
 ma:Go.bits .and .i64 (z1g z2m op).f1 1=0↔ha=false
 mb:Go.bits .and .i64 (z1g z2m op).f1 2=0↔hb=false
 mc:Go.bits .and .i64 (z1g z2m op).f1 12=0↔hc=false∧hw=false
 mw:Go.bits .and .i64 (z1g z2m op).f1 8=0↔hw=false
 mi:Go.bits .and .i64 (z1g z2m op).f1 16=0↔hi=false
theorem tabI (op:Int) (h0:0≤op) (h1:op≤25):∃ s ha hb hc hw hi,TabI op s ha hb hc hw hi:=by
 have:op=0∨op=1∨op=2∨op=3∨op=4∨op=5∨op=6∨op=7∨op=8∨op=9∨op=10∨op=11∨op=12∨op=13∨op=14∨op=15∨op=16∨op=17∨op=18∨op=19∨op=20∨op=21∨op=22∨op=23∨op=24∨op=25:=by omega
 rcases this with rfl|rfl|rfl|rfl|rfl|rfl|rfl|rfl|rfl|rfl|rfl|rfl|rfl|rfl|rfl|rfl|rfl|rfl|rfl|rfl|rfl|rfl|rfl|rfl|rfl|rfl
 ·exact ⟨⟨#[]⟩,false,false,false,false,false,rfl,by decide +kernel,by decide +kernel,by decide +kernel,by decide +kernel,by decide +kernel,by decide +kernel,by decide +kernel,by decide +kernel,by decide +kernel,by decide +kernel,by decide +kernel⟩
 ·exact ⟨⟨#[97,105]⟩,true,false,false,false,true,rfl,by decide +kernel,by decide +kernel,by decide +kernel,by decide +kernel,by decide +kernel,by decide +kernel,by decide +kernel,by decide +kernel,by decide +kernel,by decide +kernel,by decide +kernel⟩
 ·exact ⟨⟨#[97,98]⟩,true,true,false,false,false,rfl,by decide +kernel,by decide +kernel,by decide +kernel,by decide +kernel,by decide +kernel,by decide +kernel,by decide +kernel,by decide +kernel,by decide +kernel,by decide +kernel,by decide +kernel⟩
 iterate 14 exact ⟨⟨#[97,98,99]⟩,true,true,true,false,false,rfl,by decide +kernel,by decide +kernel,by decide +kernel,by decide +kernel,by decide +kernel,by decide +kernel,by decide +kernel,by decide +kernel,by decide +kernel,by decide +kernel,by decide +kernel⟩
 ·exact ⟨⟨#[97,98,119,105]⟩,true,true,false,true,true,rfl,by decide +kernel,by decide +kernel,by decide +kernel,by decide +kernel,by decide +kernel,by decide +kernel,by decide +kernel,by decide +kernel,by decide +kernel,by decide +kernel,by decide +kernel⟩
 ·exact ⟨⟨#[97,98,119,105]⟩,true,true,false,true,true,rfl,by decide +kernel,by decide +kernel,by decide +kernel,by decide +kernel,by decide +kernel,by decide +kernel,by decide +kernel,by decide +kernel,by decide +kernel,by decide +kernel,by decide +kernel⟩
 ·exact ⟨⟨#[97,98,105]⟩,true,true,false,false,true,rfl,by decide +kernel,by decide +kernel,by decide +kernel,by decide +kernel,by decide +kernel,by decide +kernel,by decide +kernel,by decide +kernel,by decide +kernel,by decide +kernel,by decide +kernel⟩
 ·exact ⟨⟨#[97]⟩,true,false,false,false,false,rfl,by decide +kernel,by decide +kernel,by decide +kernel,by decide +kernel,by decide +kernel,by decide +kernel,by decide +kernel,by decide +kernel,by decide +kernel,by decide +kernel,by decide +kernel⟩
 ·exact ⟨⟨#[105]⟩,false,false,false,false,true,rfl,by decide +kernel,by decide +kernel,by decide +kernel,by decide +kernel,by decide +kernel,by decide +kernel,by decide +kernel,by decide +kernel,by decide +kernel,by decide +kernel,by decide +kernel⟩
 ·exact ⟨⟨#[97,105]⟩,true,false,false,false,true,rfl,by decide +kernel,by decide +kernel,by decide +kernel,by decide +kernel,by decide +kernel,by decide +kernel,by decide +kernel,by decide +kernel,by decide +kernel,by decide +kernel,by decide +kernel⟩
 ·exact ⟨⟨#[105]⟩,false,false,false,false,true,rfl,by decide +kernel,by decide +kernel,by decide +kernel,by decide +kernel,by decide +kernel,by decide +kernel,by decide +kernel,by decide +kernel,by decide +kernel,by decide +kernel,by decide +kernel⟩
 ·exact ⟨⟨#[]⟩,false,false,false,false,false,rfl,by decide +kernel,by decide +kernel,by decide +kernel,by decide +kernel,by decide +kernel,by decide +kernel,by decide +kernel,by decide +kernel,by decide +kernel,by decide +kernel,by decide +kernel⟩
 ·exact ⟨⟨#[]⟩,false,false,false,false,false,rfl,by decide +kernel,by decide +kernel,by decide +kernel,by decide +kernel,by decide +kernel,by decide +kernel,by decide +kernel,by decide +kernel,by decide +kernel,by decide +kernel,by decide +kernel⟩
theorem ref_reg {s:ByteArray} {x y:Int} {h:Bool} (hi:z0j.f 11 s x=some h):z0l.f 11 s x y=some (if h=true then decide (0≤y∧y≤7) else y == 0):=by
 unfold z0l.f;rw [hi,Option.bind_some];cases h with
 | true =>
  rw [if_pos rfl,if_pos rfl]
  by_cases h0:y ≥ 0
  ·rw [if_pos h0];simp [h0]
  ·rw [if_neg h0];simp [h0]
 | false =>
  rw [if_neg (by simp),if_neg (by simp)]
theorem ref_ok {op a b c d:Int} {s:ByteArray} {ha hb hc hw hi:Bool} (T:TabI op s ha hb hc hw hi) (h0:0≤op) (h1:op≤25) {t:Int} (h:z0e.f 12 op a b c d=some t) (ht:t < 0):OkI ha hb hc hw hi a b c d:=by
 unfold z0e.f at h;rw [if_neg (by omega),decide_eq_false (by omega),z0e.j0,if_neg (by simp),T.has,Option.bind_some,ref_reg T.a,Option.bind_some] at h;have fin:∀ {q:Int},some q=some t→0≤q→False:=fun e hq=>by
  injection e with e
  omega
 have e1:(if ha=true then decide (0≤a∧a≤7) else a == 0)=true:=by
  rcases Bool.eq_false_or_eq_true (if ha=true then decide (0≤a∧a≤7) else a == 0) with e|e
  ·exact e
  ·rw [e,if_neg (by simp)] at h;exact (fin h (by omega)).elim
 rw [e1,if_pos rfl,ref_reg T.b,Option.bind_some] at h;have e2:(if hb=true then decide (0≤b∧b≤7) else b == 0)=true:=by
  rcases Bool.eq_false_or_eq_true (if hb=true then decide (0≤b∧b≤7) else b == 0) with e|e
  ·exact e
  ·rw [e,if_neg (by simp)] at h;exact (fin h (by omega)).elim
 rw [e2,if_pos rfl,T.w,Option.bind_some] at h;have hA:if ha=true then 0≤a∧a≤7 else a=0:=by
  cases ha with
  | true=>simpa using e1
  | false=>simpa using e1
 have hB:if hb=true then 0≤b∧b≤7 else b=0:=by
  cases hb with
  | true=>simpa using e2
  | false=>simpa using e2
 cases hw with
 | true =>
  rw [if_pos rfl] at h;have hj:∀ x:Bool,z0e.j1 11 s x op a b c d=some t→x=false∧(hi=true∨d=0):=fun x hx=>by
   rw [z0e.j1] at hx;cases x with
   | true =>
    rw [if_pos rfl] at hx;exact (fin hx (by omega)).elim
   | false =>
    refine ⟨rfl,?_⟩;rw [if_neg (by simp),T.w10 rfl,Option.bind_some] at hx;cases hi with
    | true=>exact .inl rfl
    | false =>
     rw [if_neg (by simp)] at hx
     by_cases hd:d=0
     ·exact .inr hd
     ·rw [if_neg hd] at hx;exact (fin hx (by omega)).elim
  refine ⟨hA,hB,?_,?_⟩
  ·rw [if_pos rfl]
   by_cases c1:c=1
   ·exact .inl c1
   by_cases c2:c=2
   ·exact .inr (.inl c2)
   by_cases c4:c=4
   ·exact .inr (.inr (.inl c4))
   rw [if_neg c1,if_neg c2,if_neg c4] at h;exact .inr (.inr (.inr (by simpa using (hj _ h).1)))
  ·split at h
   ·exact (hj _ h).2
   split at h
   ·exact (hj _ h).2
   split at h
   ·exact (hj _ h).2
   ·exact (hj _ h).2
 | false =>
  rw [if_neg (by simp),ref_reg T.c,Option.bind_some] at h;have e3:(if hc=true then decide (0≤c∧c≤7) else c == 0)=true:=by
   rcases Bool.eq_false_or_eq_true (if hc=true then decide (0≤c∧c≤7) else c == 0) with e|e
   ·exact e
   ·rw [e,if_neg (by simp)] at h;exact (fin h (by omega)).elim
  rw [e3,if_pos rfl,T.i,Option.bind_some] at h;refine ⟨hA,hB,?_,?_⟩
  ·rw [if_neg (by simp)];cases hc with
   | true=>simpa using e3
   | false=>simpa using e3
  ·cases hi with
   | true=>exact .inl rfl
   | false =>
    rw [if_neg (by simp)] at h
    by_cases hd:d=0
    ·exact .inr hd
    ·rw [if_neg hd] at h;exact (fin h (by omega)).elim
theorem code_reg {y:Int} (h:0≤y∧y≤7):z1t.f y=some true:=by
 unfold z1t.f;rw [if_pos h.1,decide_eq_true (by omega)]
theorem code_ok {op a b c d:Int} {s:ByteArray} {ha hb hc hw hi:Bool} (T:TabI op s ha hb hc hw hi) (h0:0≤op) (h1:op≤25) (h:OkI ha hb hc hw hi a b c d):z0n.f 20 op a b c d=some 0:=by
 obtain ⟨hA,hB,hC,hD⟩:=h;have rA:0≤a∧a≤7:=by
  cases ha with
  | true=>simpa using hA
  | false=>(have:a=0:=by simpa using hA);omega
 have rB:0≤b∧b≤7:=by
  cases hb with
  | true=>simpa using hB
  | false=>(have:b=0:=by simpa using hB);omega
 have hk:z16.f 20 op a b c d (z1g z2m op).f1=some (op,a,b,c,d):=by
  have k1:∀ x y z:Int,z16.j1 19 (z1g z2m op).f1 op a b c d op x y 0 0=some (op,x,y,c,d):=fun x y z=>by
   rw [z16.j1]
   by_cases m12:Go.bits .and .i64 (z1g z2m op).f1 12=0
   ·rw [if_pos m12];obtain ⟨c0,w0⟩:=T.mc.1 m12;have hc0:c=0:=by
     rw [c0,w0] at hC
     simpa using hC
    by_cases m16:Go.bits .and .i64 (z1g z2m op).f1 16=0
    ·rw [if_pos m16];have:=T.mi.1 m16;have hd0:d=0:=by rcases hD with e|e;rw [e] at this;simp at this;exact e
     rw [hc0,hd0]
    ·rw [if_neg m16,hc0]
   ·rw [if_neg m12]
    by_cases m16:Go.bits .and .i64 (z1g z2m op).f1 16=0
    ·rw [if_pos m16];have:=T.mi.1 m16;have hd0:d=0:=by rcases hD with e|e;rw [e] at this;simp at this;exact e
     rw [hd0]
    ·rw [if_neg m16]
  have k0:∀ x:Int,z16.j0 20 (z1g z2m op).f1 op a b c d op x 0 0 0=some (op,x,b,c,d):=fun x=>by
   rw [z16.j0]
   by_cases m2:Go.bits .and .i64 (z1g z2m op).f1 2=0
   ·rw [if_pos m2,k1 x 0 0];have:=T.mb.1 m2;rw [this] at hB;have:b=0:=(by simpa using hB);rw [this]
   ·rw [if_neg m2,k1 x b 0]
  unfold z16.f
  by_cases m1:Go.bits .and .i64 (z1g z2m op).f1 1=0
  ·rw [if_pos m1,k0 0];have:=T.ma.1 m1;rw [this] at hA;have:a=0:=by simpa using hA
   rw [this]
  ·rw [if_neg m1,k0 a]
 have j3:z0n.j3 17 false op a b c d op a b c d=some 0:=by
  rw [z0n.j3,if_neg (by simp),if_neg (by simp)]
 have j2:∀ x5:Bool,(hw=true→x5=true)→z0n.j2 18 (z1g z2m op).f1 x5 false op a b c d op a b c d=some 0:=fun x5 hx=>by
  rw [z0n.j2,if_neg (by simp),if_pos rfl]
  by_cases m8:Go.bits .and .i64 (z1g z2m op).f1 8=0
  ·rw [if_pos m8];have w0:=T.mw.1 m8;rw [w0,if_neg (by simp)] at hC;have rC:0≤c∧c≤7:=by
    cases hc with
    | true=>simpa using hC
    | false=>(have:c=0:=by simpa using hC);omega
   rw [code_reg rC,Option.bind_some];exact j3
  ·rw [if_neg m8];have w1:hw=true:=by
    cases hw with
    | true=>rfl
    | false=>exact absurd (T.mw.2 rfl) m8
   rw [if_pos (hx w1)];exact j3
 have j1:∀ x5:Bool,(hw=true→x5=true)→z0n.j1 19 (z1g z2m op).f1 x5 false op a b c d op a b c d=some 0:=fun x5 hx=>by
  rw [z0n.j1,if_neg (by simp),if_pos rfl,code_reg rB,Option.bind_some];exact j2 x5 hx
 have j0:∀ x5:Bool,(hw=true→x5=true)→z0n.j0 20 (z1g z2m op).f1 x5 op a b c d op a b c d=some 0:=fun x5 hx=>by
  rw [z0n.j0,if_pos rfl,code_reg rA,Option.bind_some];exact j1 x5 hx
 have hlen:(z2m.length:Int)=26:=rfl;unfold z0n.f;rw [formsL_eq,Option.bind_some,if_pos h0,if_pos (by rw [hlen];omega),hk,Option.bind_some]
 by_cases c1:c=1
 ·rw [if_pos c1];exact j0 true (fun _=>rfl)
 by_cases c2:c=2
 ·rw [if_neg c1,if_pos c2];exact j0 true (fun _=>rfl)
 by_cases c4:c=4
 ·rw [if_neg c1,if_neg c2,if_pos c4];exact j0 true (fun _=>rfl)
 rw [if_neg c1,if_neg c2,if_neg c4];refine j0 _ (fun hw1=>?_);rw [hw1,if_pos rfl] at hC;have:c=8:=by omega
 simp [this]
theorem ref_put {i:In} {k:Nat} (hk:12≤k) {r:List Int × Int} (h:z0u.f k i.f0 i.f1 i.f2 i.f3 i.f4=some r) (h0:r.2=0):(putV i).2=0:=by
 obtain ⟨t,ht⟩:=chk_wrong (k:=12) (by omega) i.f0 i.f1 i.f2 i.f3 i.f4;have htk:=at_rounds (fun k=>z0e.mono i.f0 i.f1 i.f2 i.f3 i.f4 k) hk ht;unfold z0u.f at h;rw [htk,Option.bind_some] at h;have hneg:t < 0:=by
  split at h
  ·injection h with h
   rw [← h] at h0;simp at h0
  ·split at h
   ·injection h with h
    rw [← h] at h0;simp at h0
   ·omega
 have hop:0≤i.f0∧i.f0≤25:=by
  unfold z0e.f at ht
  by_cases c0:i.f0 < 0
  ·rw [if_pos c0,z0e.j0,if_pos rfl] at ht;injection ht with ht
   omega
  ·by_cases c1:i.f0 > 25
   ·rw [if_neg c0,decide_eq_true c1,z0e.j0,if_pos rfl] at ht;injection ht with ht
    omega
   ·omega
 obtain ⟨s,ha,hb,hc,hw,hi,T⟩:=tabI i.f0 hop.1 hop.2;have hcw:=code_ok T hop.1 hop.2 (ref_ok T hop.1 hop.2 ht hneg);obtain ⟨r',hr',_⟩:=put_l0 8 20 [i.f0 % 256,i.f1 % 256,i.f2 % 256,i.f3 % 256] i.f0 i.f1 i.f2 i.f3 i.f4 (by omega) (by omega) (by simp);have hp:z1h.f 20 i.f0 i.f1 i.f2 i.f3 i.f4=some (r',0):=by
  unfold z1h.f z2i.f;rw [if_pos hop.1,Option.bind_some,if_pos (decide_eq_true hop.2),hcw,Option.bind_some,if_pos rfl];exact hr'
 rw [put_f i (by omega)] at hp;injection hp with hp
 rw [hp]
theorem ref_l1 (p:Im) (hw:wfP p) (hf:Fits p.f4 p.f5.length):∀ (d k x:Nat),x+d=p.f5.length→d+1300≤k →
  ∃ r,z0b.l1 k x p.f0 p.f1 p.f2 p.f3 p.f4 p.f5=some r∧(r=0→(∀ j:Int,(x:Int)≤j→j < p.f5.length→(putV (z06 p.f5 j)).2=0)∧∀ y:Int,0≤y→y < p.f5.length→z26 p.f4 p.f5 y=false)
 | 0,k,x,h,hk=>by
  obtain ⟨k,rfl⟩:∃ i,k=i+1:=⟨k - 1,by omega⟩;have hn:=hf.2.2.1;obtain ⟨t,ht,hs⟩:=ref_stray_l0 p hw hf p.f5.length k 0 (by omega) (by omega);rw [z0b.l1,if_neg (by omega)];unfold z0c.f;have ht:z0c.l0 k 0 p.f0 p.f1 p.f2 p.f3 p.f4 p.f5=some t:=by simpa using ht
  rw [ht,Option.bind_some]
  by_cases h0:t ≥ 0
  ·rw [if_pos h0];exact ⟨7,rfl,fun h=>by omega⟩
  ·rw [if_neg h0];exact ⟨0,rfl,fun _=>⟨fun j h1 h2=>by omega,fun y h1 h2=>hs (by omega) y (by omega) h2⟩⟩
 | d+1,k,x,h,hk=>by
  obtain ⟨k,rfl⟩:∃ i,k=i+1:=⟨k - 1,by omega⟩;have hn:=hf.2.2.1;obtain ⟨t,ht⟩:=chk_put (k:=k) (by omega) (z06 p.f5 x).f0 (z06 p.f5 x).f1 (z06 p.f5 x).f2 (z06 p.f5 x).f3 (z06 p.f5 x).f4;rw [z0b.l1,if_pos (by omega),if_pos (by omega),ht,Option.bind_some,show wrap64 ((x:Int)+1)=((x+1:Nat):Int) by unfold wrap64;omega]
  by_cases h0:t.2=0
  ·rw [if_pos h0];obtain ⟨r,hr,hp⟩:=ref_l1 p hw hf d k (x+1) (by omega) (by omega);refine ⟨r,hr,fun e=>⟨fun j h1 h2=>?_,(hp e).2⟩⟩
   by_cases hj:j=x
   ·rw [hj];exact ref_put (by omega) ht h0
   ·exact (hp e).1 j (by omega) h2
  ·rw [if_neg h0];exact ⟨t.2,rfl,fun e=>absurd e h0⟩
theorem ref_l0 (p:Im) (hw:wfP p) (hs:(0≤p.f0∧p.f0≤64)∧(0≤p.f1∧p.f1≤16)∧(0≤p.f2∧p.f2≤16)∧(p.f3.length:Int)≤p.f0∧(1≤p.f4.length∧p.f4.length≤16)) (hn:p.f5.length≤300):∀ (d k x:Nat),x+d=p.f4.length→d+1700≤k →
  (0 < x→rd p.f4 0=0)→(∀ j:Nat,j+1 < x→rd p.f4 j < rd p.f4 (j+1))→∃ r,z0b.l0 k x p.f0 p.f1 p.f2 p.f3 p.f4 p.f5=some r∧(r=0→encV p=0∧z2l p)
 | 0,k,x,h,hk,hz,ha=>by
  obtain ⟨k,rfl⟩:∃ i,k=i+2:=⟨k - 2,by omega⟩;have h1:=hs.2.2.2.2.1;rw [z0b.l0,if_neg (by omega),show wrap64 ((p.f4.length:Int) - 1)=(p.f4.length:Int) - 1 by have:=hs.2.2.2.2.2;unfold wrap64;omega,if_pos (show 0≤(p.f4.length:Int) - 1 by omega),if_pos (show (p.f4.length:Int) - 1 < p.f4.length by omega)]
  by_cases h256:(p.f5.length:Int) > 256
  ·rw [if_pos h256,z0b.j2,if_pos rfl];exact ⟨3,rfl,fun h=>by omega⟩
  ·rw [if_neg h256,z0b.j2]
   by_cases hc:rd p.f4 ((p.f4.length:Int) - 1) ≥ p.f5.length
   ·rw [if_pos (decide_eq_true hc)];exact ⟨3,rfl,fun h=>by omega⟩
   ·rw [if_neg (by simpa using hc)];have hlast:z2l p:=by
     unfold z2l;omega
    have hmem:rd p.f4 ((p.f4.length:Int) - 1) ∈ p.f4:=by
     unfold rd;rw [List.getD_eq_getElem?_getD,List.getElem?_eq_getElem (by omega)];exact List.getElem_mem _
    have hlo:=(hw.1 _ hmem).1;have hsz:z2p p:=by
     refine ⟨hs.1,hs.2.1,hs.2.2.1,hs.2.2.2.1,hs.2.2.2.2,hz (by omega),fun j hj=>ha j (by omega),?_,by omega⟩;unfold z2l at hlast;rw [show wrap64 (rd p.f4 ((p.f4.length:Int) - 1)+1)=rd p.f4 ((p.f4.length:Int) - 1)+1 by unfold wrap64;omega];omega
    obtain ⟨r,hr,hp⟩:=ref_l1 p hw (hsz.fits hw.1) p.f5.length k 0 (by omega) (by omega);refine ⟨r,by simpa using hr,fun e=>⟨z2v.2 ⟨hsz,fun i hi=>?_,fun x hx=>(hp e).2 x (z2e.1 hx).1 (z2e.1 hx).2⟩,hlast⟩⟩;obtain ⟨j,hj,rfl⟩:=List.mem_iff_getElem.1 hi;have:=(hp e).1 (j:Int) (by omega) (by omega);have e2:z06 p.f5 (j:Int)=p.f5[j]:=by
     unfold z06;simp [List.getD_eq_getElem?_getD,List.getElem?_eq_getElem hj]
    rw [e2] at this;exact this
 | d+1,k,x,h,hk,hz,ha=>by
  obtain ⟨k,rfl⟩:∃ i,k=i+1:=⟨k - 1,by omega⟩;have h16:=hs.2.2.2.2.2;rw [z0b.l0,if_pos (by omega),show wrap64 ((x:Int)+1)=((x+1:Nat):Int) by unfold wrap64;omega];have h3:∃ r:Int,some (3:Int)=some r∧(r=0→encV p=0∧z2l p):=⟨3,rfl,fun h=>by omega⟩
  by_cases hx:(x:Int)=0
  ·rw [if_pos hx,if_pos (by omega),if_neg (show ¬ ((x:Int) > 0) by omega)]
   by_cases h0:rd p.f4 x=0
   ·rw [if_pos h0];refine ref_l0 p hw hs hn d k (x+1) (by omega) (by omega) (fun _=>?_) (fun j hj=>by omega);rw [hx] at h0;exact h0
   ·rw [if_neg h0];exact h3
  ·rw [if_neg hx,if_pos (show (x:Int) > 0 by omega),if_pos (show 0≤(x:Int) by omega),show wrap64 ((x:Int) - 1)=(x:Int) - 1 by unfold wrap64;omega,if_pos (show 0≤(x:Int) - 1 by omega),if_pos (show (x:Int) - 1 < p.f4.length by omega)]
   by_cases h0:rd p.f4 x≤rd p.f4 ((x:Int) - 1)
   ·rw [if_pos h0];exact h3
   ·rw [if_neg h0];refine ref_l0 p hw hs hn d k (x+1) (by omega) (by omega) (fun _=>hz (by omega)) (fun j hj=>?_)
    by_cases e:j+1=x
    ·rw [show (x:Int) - 1=j by omega,show (x:Int)=(j:Int)+1 by omega] at h0;omega
    ·exact ha j (by omega)
theorem ref_f (p:Im) (hw:wfP p) (hl:p.f4.length≤40) (hn:p.f5.length≤300):∃ r,z0b.f 1800 p.f0 p.f1 p.f2 p.f3 p.f4 p.f5=some r∧(r=0→encV p=0∧z2l p):=by
 have hT:∃ r,z0b.j0 1800 true p.f0 p.f1 p.f2 p.f3 p.f4 p.f5=some r∧(r=0→encV p=0∧z2l p):=by
  rw [z0b.j0,if_pos rfl];exact ⟨3,rfl,fun h=>by omega⟩
 unfold z0b.f;simp only [chk_in3,Option.bind_some]
 by_cases c0:0≤p.f0∧p.f0≤64
 ·rw [if_pos (decide_eq_true c0)]
  by_cases c1:0≤p.f1∧p.f1≤16
  ·rw [if_pos (decide_eq_true c1)]
   by_cases c2:0≤p.f2∧p.f2≤16
   ·rw [if_pos (decide_eq_true c2)]
    by_cases c3:(p.f3.length:Int) > p.f0
    ·rw [if_pos c3];exact hT
    ·rw [if_neg c3]
     by_cases hc:1≤(p.f4.length:Int)∧(p.f4.length:Int)≤16
     ·rw [decide_eq_true hc];show ∃ r,z0b.j0 1800 false p.f0 p.f1 p.f2 p.f3 p.f4 p.f5=some r∧_;rw [z0b.j0,if_neg (by simp)];have:=ref_l0 p hw ⟨c0,c1,c2,by omega,by omega,by omega⟩ hn p.f4.length 1799 0 (by omega) (by omega) (fun h=>by omega) (fun j hj=>by omega)
      simpa using this
     ·rw [decide_eq_false hc];exact hT
   ·rw [if_neg (by simpa using c2)];exact hT
  ·rw [if_neg (by simpa using c1)];exact hT
 ·rw [if_neg (by simpa using c0)];exact hT
theorem ref_right (p:Im) (hw:wfP p) (hl:p.f4.length≤40) (hn:p.f5.length≤300):∃ b,z1o.f 1800 p.f0 p.f1 p.f2 p.f3 p.f4 p.f5=some b∧(b=true→encV p=0∧z2l p):=by
 obtain ⟨r,hr,h⟩:=ref_f p hw hl hn;unfold z1o.f;rw [hr,Option.bind_some];exact ⟨_,rfl,fun e=>h (by simpa using e)⟩
theorem jump_in {p:Im} (hw:wfP p) (h:encV p=0) (hl:z2l p) {v:Int} (hv:0≤v∧v < p.f5.length) (ho:(z06 p.f5 v).f0=21∨(z06 p.f5 v).f0=22):0≤(z06 p.f5 v).f4∧(z06 p.f5 v).f4 < p.f5.length:=by
 obtain ⟨hs,hp,hst⟩:=z2v.1 h;have hf:=hs.fits hw.1;have:=hst v (z2e.2 hv);unfold z26 z2s at this;rw [Bool.or_eq_false_iff] at this;have h2:=this.2;rw [if_pos ho] at h2;simp only [Bool.or_eq_false_iff,decide_eq_false_iff_not] at h2;have hfp:=funP_in hf hv.1 hv.2;have hlo:=rd_fits hf hfp.1 hfp.2;have hhi:=hi_in hs hl hfp.1;unfold loP at h2;omega
theorem mem_next {p:Im} {a b:Int}:b ∈ nextL p a↔b ∈ outL p a:=mem_uniq b _
theorem ref_is (p:Im) (hw:wfP p) (h:encV p=0) (hl:z2l p) {k:Nat} (hk:60≤k) {a b:Int} (ha:0≤a∧a < p.f5.length) (hb:0≤b∧b < p.f5.length) :
  z0s.f k p.f0 p.f1 p.f2 p.f3 p.f4 p.f5 a b=some (decide (b ∈ nextL p a)):=by
 obtain ⟨k,rfl⟩:∃ i,k=i+1:=⟨k - 1,by omega⟩;have hsz:=(z2v.1 h).1;have h16:=hsz.2.2.2.2.1.2;have h256:=hsz.2.2.2.2.2.2.2.2;unfold z0s.f;rw [if_neg (by omega),if_neg (by omega),if_neg (by omega),decide_eq_false (by omega),z0s.j0,if_neg (by simp),if_pos ha.1,if_pos ha.2];have hj:=jump_in hw h hl ha;have hc:=(encV_rt hw h).cal a ha.1 ha.2;have hc:(z06 p.f5 a).f0=23→0≤(z06 p.f5 a).f4∧(z06 p.f5 a).f4 < p.f4.length:=hc;have hm:(b ∈ nextL p a)↔b ∈ outL p a:=mem_next;unfold outL at hm;rw [if_pos ha] at hm;simp only at hm
 by_cases h21:(z06 p.f5 a).f0=21
 ·rw [if_pos h21] at hm ⊢;have:=hj (.inl h21);rw [show wrap64 (z06 p.f5 a).f4=(z06 p.f5 a).f4 by unfold wrap64;omega]
  congr 1
  rw [Bool.eq_iff_iff,decide_eq_true_eq,hm];simp
 rw [if_neg h21] at hm ⊢
 by_cases h22:(z06 p.f5 a).f0=22
 ·rw [if_pos h22] at hm ⊢;have:=hj (.inr h22);rw [show wrap64 (z06 p.f5 a).f4=(z06 p.f5 a).f4 by unfold wrap64;omega,show wrap64 (a+1)=a+1 by unfold wrap64;omega]
  by_cases e:b=(z06 p.f5 a).f4
  ·rw [if_pos e]
   congr 1
   symm
   rw [decide_eq_true_eq,hm];simp [e]
  ·rw [if_neg e]
   congr 1
   rw [Bool.eq_iff_iff,decide_eq_true_eq,hm];simp [e]
 rw [if_neg h22] at hm ⊢
 by_cases h23:(z06 p.f5 a).f0=23
 ·rw [if_pos h23] at hm ⊢;have:=hc h23;rw [if_pos this.1,if_pos this.2]
  congr 1
  rw [Bool.eq_iff_iff,decide_eq_true_eq,hm];simp
 rw [if_neg h23] at hm ⊢
 by_cases h24:(z06 p.f5 a).f0=24
 ·rw [if_pos h24] at hm ⊢;have hmm:b ∈ nextL p a↔0 < b∧(z06 p.f5 (b - 1)).f0=23∧(z06 p.f5 (b - 1)).f4=funP p.f4 p.f5.length a:=by
   rw [hm,List.mem_map];constructor
   ·rintro ⟨z,hz,e⟩;obtain ⟨z0,z1,z2,z3⟩:=mem_sites.1 hz;have:b - 1=z:=(by omega);rw [this];exact ⟨by omega,z2,z3⟩
   ·rintro ⟨b0,b1,b2⟩;exact ⟨b - 1,mem_sites.2 ⟨by omega,by omega,b1,b2⟩,by omega⟩
  by_cases b0:b > 0
  ·rw [if_pos b0,show wrap64 (b - 1)=b - 1 by unfold wrap64;omega,if_pos (show 0≤b - 1 by omega),if_pos (show b - 1 < p.f5.length by omega)]
   by_cases b1:(z06 p.f5 (b - 1)).f0=23
   ·have hcb:=(encV_rt hw h).cal (b - 1) (by omega) (by omega) b1;have hcb:0≤(z06 p.f5 (b - 1)).f4∧(z06 p.f5 (b - 1)).f4 < p.f4.length:=hcb;rw [if_pos b1,ref_fun p (by omega) (by omega),Option.bind_some,show wrap64 (z06 p.f5 (b - 1)).f4=(z06 p.f5 (b - 1)).f4 by unfold wrap64;omega]
    congr 1
    rw [Bool.eq_iff_iff,decide_eq_true_eq,hmm,beq_iff_eq];exact ⟨fun e=>⟨b0,b1,e⟩,fun e=>e.2.2⟩
   ·rw [if_neg b1]
    congr 1
    symm
    rw [decide_eq_false_iff_not,hmm];exact fun e=>b1 e.2.1
  ·rw [if_neg b0]
   congr 1
   symm
   rw [decide_eq_false_iff_not,hmm];exact fun e=>b0 e.1
 rw [if_neg h24] at hm ⊢;rw [ref_goes,Option.bind_some,show wrap64 (a+1)=a+1 by unfold wrap64;omega]
 by_cases hg:goesB (z06 p.f5 a).f0=true
 ·rw [if_pos hg] at hm ⊢
  congr 1
  rw [Bool.eq_iff_iff,decide_eq_true_eq,hm];simp
 ·rw [if_neg hg] at hm ⊢
  congr 1
  symm
  rw [decide_eq_false_iff_not,hm];simp
theorem ref_next_l0 (p:Im) (hw:wfP p) (h:encV p=0) (hl:z2l p) {a:Int} (ha:0≤a∧a < p.f5.length):∀ (d k x:Nat) (acc:List Int),x+d=p.f5.length→d+60≤k→acc.length≤x →
  z0t.l0 k a acc x p.f0 p.f1 p.f2 p.f3 p.f4 p.f5=some (acc ++ ((List.range' x d).map Int.ofNat).filter fun b=>decide (b ∈ nextL p a))
 | 0,k,x,acc,hx,hk,hc=>by
  obtain ⟨k,rfl⟩:∃ i,k=i+1:=⟨k - 1,by omega⟩;rw [z0t.l0,if_neg (by omega)];simp
 | d+1,k,x,acc,hx,hk,hc=>by
  obtain ⟨k,rfl⟩:∃ i,k=i+1:=⟨k - 1,by omega⟩;have h256:=(z2v.1 h).1.2.2.2.2.2.2.2.2;have hcons:((List.range' x (d+1)).map Int.ofNat)=(x:Int) :: ((List.range' (x+1) d).map Int.ofNat):=by
   rw [List.range'_succ];rfl
  rw [z0t.l0,if_pos (by omega),ref_is p hw h hl (by omega) ha ⟨by omega,by omega⟩,Option.bind_some,show wrap64 ((x:Int)+1)=((x+1:Nat):Int) by unfold wrap64;omega,hcons,List.filter_cons]
  by_cases e:decide ((x:Int) ∈ nextL p a)=true
  ·rw [if_pos e,if_pos e,if_pos (by omega),ref_next_l0 p hw h hl ha d k (x+1) _ (by omega) (by omega) (by rw [List.length_append,List.length_singleton];omega),List.append_assoc];rfl
  ·rw [if_neg e,if_neg e];exact ref_next_l0 p hw h hl ha d k (x+1) acc (by omega) (by omega) (by omega)
theorem ref_next (p:Im) (hw:wfP p) (h:encV p=0) (hl:z2l p) {a:Int} (ha:0≤a∧a < p.f5.length) {k:Nat} (hk:400≤k):z0t.f k p.f0 p.f1 p.f2 p.f3 p.f4 p.f5 a=some (nextL p a):=by
 have h256:=(z2v.1 h).1.2.2.2.2.2.2.2.2;unfold z0t.f;have:=ref_next_l0 p hw h hl ha p.f5.length k 0 [] (by omega) (by omega) (Nat.le_refl _);rw [show (0:Int)=((0:Nat):Int) from rfl,this]
 congr 1
 rw [List.nil_append];have hr:(List.range' 0 p.f5.length).map Int.ofNat=z1s p.f5.length:=by
  unfold z1s;rw [List.range_eq_range']
 rw [hr];refine asc_ext ((places_asc _).filter _) (uniq_asc _) fun z=>?_
 rw [List.mem_filter,z2e,decide_eq_true_eq];exact ⟨fun e=>e.2,fun e=>⟨next_in hw h hl ha z e,e⟩⟩
structure Lay (n:Nat) (nx:Int→List Int) (a:Int) (s:Nat) (out:List Int):Prop where
 len:out.length=n
 low:∀ v:Int,0≤v→v < n→-1≤rd out v
 way:∀ v:Int,0≤v→v < n→0≤rd out v→Way n nx a (rd out v).toNat v
 least:∀ (k:Nat) (v:Int),k≤s→0≤v→v < n→Way n nx a k v→0≤rd out v∧rd out v≤k
structure Mid (n:Nat) (nx:Int→List Int) (a:Int) (s:Nat) (out:List Int):Prop where
 lay:Lay n nx a s out
 top:∀ v:Int,0≤v→v < n→rd out v≤s+1
theorem Mid.set {n:Nat} {nx:Int→List Int} {a u w:Int} {s:Nat} {out:List Int} (h:Mid n nx a s out) (hu:0≤u∧u < n) (hus:rd out u=s) (hw:0≤w∧w < n) (hm:w ∈ nx u) (hn:rd out w < 0) :
  Mid n nx a s (out.set w.toNat ((s:Int)+1))∧∀ v:Int,0≤v→v < n→0≤rd out v→rd (out.set w.toNat ((s:Int)+1)) v=rd out v:=by
 have hwl:0≤w∧w < out.length:=by rw [h.lay.len];exact hw
 have hs:∀ v:Int,0≤v→rd (out.set w.toNat ((s:Int)+1)) v=if v=w then (s:Int)+1 else rd out v:=fun v h0=>rd_set hwl h0
 have hk:∀ v:Int,0≤v→v < n→0≤rd out v→rd (out.set w.toNat ((s:Int)+1)) v=rd out v:=fun v h0 h1 h2=>by
  rw [hs v h0,if_neg];intro e;rw [e] at h2;omega
 refine ⟨⟨⟨by rw [List.length_set];exact h.lay.len,fun v h0 h1=>?_,fun v h0 h1 h2=>?_,fun k v hks h0 h1 hv=>?_⟩,fun v h0 h1=>?_⟩,hk⟩
 ·rw [hs v h0];have:=h.lay.low v h0 h1
  split <;> omega
 ·rw [hs v h0] at h2 ⊢
  by_cases e:v=w
  ·rw [if_pos e,e];have hway:=h.lay.way u hu.1 hu.2 (by omega);rw [show ((s:Int)+1).toNat=(rd out u).toNat+1 by omega];exact ⟨u,hway,hu,hm⟩
  ·rw [if_neg e] at h2 ⊢;exact h.lay.way v h0 h1 h2
 ·have:=h.lay.least k v hks h0 h1 hv;rw [hk v h0 h1 this.1];exact this
 ·rw [hs v h0];have:=h.top v h0 h1
  split <;> omega
theorem Mid.up {n:Nat} {nx:Int→List Int} {a:Int} {s:Nat} {out:List Int} (h:Mid n nx a s out) (hp:∀ u:Int,0≤u→u < n→rd out u=s→∀ w ∈ nx u,0≤rd out w):Lay n nx a (s+1) out :=
 ⟨h.lay.len,h.lay.low,h.lay.way,fun k v hk h0 h1 hv=>by
  by_cases e:k≤s
  ·exact h.lay.least k v e h0 h1 hv
  ·obtain rfl:k=s+1:=by omega
   obtain ⟨u,hu,hur,huv⟩:=hv;have h2:=h.lay.least s u (Nat.le_refl _) hur.1 hur.2 hu;have h3:=h.top v h0 h1
   by_cases e2:rd out u=s
   ·have:=hp u hur.1 hur.2 e2 v huv;omega
   ·have h4:=h.lay.way u hur.1 hur.2 h2.1;have h5:=h.lay.least ((rd out u).toNat+1) v (by omega) h0 h1 ⟨u,h4,hur,huv⟩;omega⟩
theorem wsucc {x:Nat} (h:x < 1000000):wrap64 ((x:Int)+1)=((x+1:Nat):Int):=by
 unfold wrap64;omega
structure Rgt (p:Im):Prop where
 wf:wfP p
 enc:encV p=0
 last:z2l p
section
variable (p:Im) (R:Rgt p) {n:Nat} (hn:p.f5.length=n) (h60:n≤60) {a:Int}
include R hn h60
def Ans (p:Im) (n:Nat) (a:Int) (r:Option (List Int)):Prop:=∃ out,r=some out∧Lay n (nextL p) a n out
set_option maxRecDepth 20000 in
theorem lays:∀ (e:Nat),
  (∀ (s:Nat) (k:Nat) (out:List Int),s+e=n→e * 5000+500≤k→Lay n (nextL p) a s out→(∀ v:Int,0≤v→v < n→rd out v≤s)→Ans p n a (z0d.l1 k n out s p.f0 p.f1 p.f2 p.f3 p.f4 p.f5)):=by
 intro e
 induction e with
 | zero =>
  intro s k out hs hk hL ht;obtain ⟨k,rfl⟩:∃ i,k=i+1:=⟨k - 1,by omega⟩;rw [z0d.l1,if_neg (by omega)];exact ⟨out,rfl,by rw [show n=s by omega] at hL ⊢;exact hL⟩
 | succ e ih =>
  intro s k out hs hk hL ht;obtain ⟨k,rfl⟩:∃ i,k=i+1:=⟨k - 1,by omega⟩;rw [z0d.l1,if_pos (by omega)];have hs60:s < 60:=by omega
  -- the places of the layer,one by one
  have l2:∀ (d x k:Nat) (out:List Int),x+d=n→d * 80+e * 5000+600≤k→Mid n (nextL p) a s out→(∀ u:Int,0≤u→u < x→rd out u=s→∀ w ∈ nextL p u,0≤rd out w) →
    Ans p n a (z0d.l2 k n out s x p.f0 p.f1 p.f2 p.f3 p.f4 p.f5):=by
   intro d
   induction d with
   | zero =>
    intro x k out hx hk hM hd;obtain ⟨k,rfl⟩:∃ i,k=i+1:=⟨k - 1,by omega⟩;rw [z0d.l2,if_neg (by omega),wsucc (by omega)];refine ih (s+1) k out (by omega) (by omega) (hM.up fun u h0 h1=>hd u h0 (by omega)) (fun v h0 h1=>?_);have:=hM.top v h0 h1;omega
   | succ d ihd =>
    intro x k out hx hk hM hd;obtain ⟨k,rfl⟩:∃ i,k=i+1:=⟨k - 1,by omega⟩;have hx60:x < 60:=(by omega);have hxr:(0:Int)≤x∧(x:Int) < p.f5.length:=⟨by omega,by omega⟩;rw [z0d.l2,if_pos (by omega),if_pos (by omega),if_pos (by rw [hM.lay.len];omega)]
    by_cases hxs:rd out x=s
    ·rw [if_pos hxs,ref_next p R.wf R.enc R.last hxr (by omega),Option.bind_some];have hln:(nextL p x).length≤n:=by
      have:=nodup_le (n:=n) (zs:=nextL p x) ((uniq_asc _).imp fun h=>by omega) (fun z hz=>by rw [← hn];exact next_in R.wf R.enc R.last hxr z hz);exact this
     -- those that are next to it
     have l3:∀ (q j k:Nat) (out:List Int),j+q=(nextL p x).length→q+d * 80+e * 5000+610≤k→Mid n (nextL p) a s out→rd out x=s→(∀ u:Int,0≤u→u < x→rd out u=s→∀ w ∈ nextL p u,0≤rd out w)→(∀ w ∈ (nextL p x).take j,0≤rd out w) →
       Ans p n a (z0d.l3 k n out s x (nextL p x) j p.f0 p.f1 p.f2 p.f3 p.f4 p.f5):=by
      intro q
      induction q with
      | zero =>
       intro j k out hj hk hM hxs hd hq;obtain ⟨k,rfl⟩:∃ i,k=i+1:=⟨k - 1,by omega⟩;rw [z0d.l3,if_neg (by omega),wsucc (by omega)];refine ihd (x+1) k out (by omega) (by omega) hM (fun u h0 h1 h2 w hww=>?_)
       by_cases e1:u=x
       ·rw [e1] at hww;exact hq w (by rw [List.take_of_length_le (by omega)];exact hww)
       ·exact hd u h0 (by omega) h2 w hww
      | succ q ihq =>
       intro j k out hj hk hM hxs hd hq;obtain ⟨k,rfl⟩:∃ i,k=i+1:=⟨k - 1,by omega⟩;have hjl:j < (nextL p x).length:=(by omega);obtain ⟨w,hwe⟩:∃ w,rd (nextL p x) (j:Int)=w:=⟨_,rfl⟩;have hwj:(nextL p x)[j]=w:=by
        rw [← hwe];unfold rd;rw [Int.toNat_natCast,List.getD_eq_getElem?_getD,List.getElem?_eq_getElem hjl];rfl
       have hwm:w ∈ nextL p x:=hwj ▸ List.getElem_mem hjl;have hwr:=next_in R.wf R.enc R.last hxr w hwm;have hj60:j < 60:=(by omega);rw [z0d.l3,if_pos (by omega),if_pos (by omega),hwe,if_pos hwr.1,if_pos (by rw [hM.lay.len];omega),wsucc (show j < 1000000 by omega),wsucc (show s < 1000000 by omega)];have htk:(nextL p x).take (j+1)=(nextL p x).take j ++ [w]:=by
        rw [List.take_add_one,List.getElem?_eq_getElem hjl,hwj];rfl
       by_cases hneg:rd out w < 0
       ·rw [if_pos hneg];have hs1:(((s+1:Nat):Int))=(s:Int)+1:=(by omega);rw [hs1];obtain ⟨hM',hkeep⟩:=hM.set (u:=(x:Int)) ⟨by omega,by omega⟩ hxs ⟨hwr.1,by omega⟩ hwm hneg;refine ihq (j+1) k _ (by omega) (by omega) hM' ?_ ?_ ?_
        ·rw [hkeep x (by omega) (by omega) (by omega)];exact hxs
        ·intro u h0 h1 h2 z hz;have hz2:=next_in R.wf R.enc R.last (v:=u) ⟨h0,by omega⟩ z hz;have hu0:rd out u=s:=by
          by_cases hu1:0≤rd out u
          ·rw [← hkeep u h0 (by omega) hu1];exact h2
          ·have e3:=rd_set (l:=out) (u:=w) (v:=u) (x:=(s:Int)+1) ⟨hwr.1,by rw [hM.lay.len];omega⟩ h0;rw [h2] at e3
           split at e3 <;> omega
         rw [hkeep z hz2.1 (by omega) (hd u h0 h1 hu0 z hz)];exact hd u h0 h1 hu0 z hz
        ·intro z hz;rw [htk,List.mem_append] at hz
         rcases hz with hz|hz
         ·have hz2:=next_in R.wf R.enc R.last hxr z (List.mem_of_mem_take hz);rw [hkeep z hz2.1 (by omega) (hq z hz)];exact hq z hz
         ·have:z=w:=(by simpa using hz);rw [this,rd_set ⟨hwr.1,by rw [hM.lay.len];omega⟩ hwr.1,if_pos rfl];omega
       ·rw [if_neg hneg];refine ihq (j+1) k out (by omega) (by omega) hM hxs hd ?_;intro z hz;rw [htk,List.mem_append] at hz
        rcases hz with hz|hz
        ·exact hq z hz
        ·have:z=w:=(by simpa using hz);rw [this];omega
     exact l3 (nextL p x).length 0 k out (by omega) (by omega) hM hxs hd (by simp)
    ·rw [if_neg hxs,wsucc (by omega)];refine ihd (x+1) k out (by omega) (by omega) hM (fun u h0 h1 h2=>?_)
     by_cases e1:u=x
     ·rw [e1] at h2;exact absurd h2 hxs
     ·exact hd u h0 (by omega) h2
  refine l2 n 0 k out (by omega) (by omega) ⟨hL,fun v h0 h1=>by have:=ht v h0 h1;omega⟩ (fun u h0 h1=>by omega)
set_option maxRecDepth 20000 in
theorem ref_from (ha:0≤a∧a < n):Ans p n a (z0d.f 400000 p.f0 p.f1 p.f2 p.f3 p.f4 p.f5 a):=by
 unfold z0d.f;rw [if_neg (by omega),decide_eq_false (by omega),hn,z0d.j0,if_neg (by simp),if_pos (by omega),if_pos (by omega),Int.toNat_natCast];have l0:∀ (d x k:Nat) (out:List Int),x+d=n→d+390000≤k→out.length=n→(∀ v:Int,0≤v→v < x→rd out v=-1)→Ans p n a (z0d.l0 k a n out x p.f0 p.f1 p.f2 p.f3 p.f4 p.f5):=by
  intro d
  induction d with
  | zero =>
   intro x k out hx hk hlen hv;obtain ⟨k,rfl⟩:∃ i,k=i+1:=⟨k - 1,by omega⟩;rw [z0d.l0,if_neg (by omega),if_pos ha.1,if_pos (by omega)];have hs:∀ v:Int,0≤v→v < n→rd (out.set a.toNat 0) v=if v=a then 0 else -1:=fun v h0 h1=>by
    rw [rd_set ⟨ha.1,by omega⟩ h0,hv v h0 (by omega)]
   refine lays p R hn h60 n 0 k _ (by omega) (by omega) ⟨by rw [List.length_set];exact hlen,fun v h0 h1=>?_,fun v h0 h1 h2=>?_,fun q v hq h0 h1 hv=>?_⟩ (fun v h0 h1=>?_)
   ·rw [hs v h0 h1]
    split <;> omega
   ·rw [hs v h0 h1] at h2 ⊢
    by_cases e:v=a
    ·rw [if_pos e];exact e
    ·rw [if_neg e] at h2;omega
   ·obtain rfl:q=0:=by omega
    have hv:v=a:=hv;rw [hs v h0 h1,if_pos hv];omega
   ·rw [hs v h0 h1]
    split <;> omega
  | succ d ihd =>
   intro x k out hx hk hlen hv;obtain ⟨k,rfl⟩:∃ i,k=i+1:=⟨k - 1,by omega⟩;rw [z0d.l0,if_pos (by omega),if_pos (by omega),if_pos (by omega),Int.toNat_natCast,wsucc (by omega)];refine ihd (x+1) k _ (by omega) (by omega) (by rw [List.length_set];exact hlen) (fun v h0 h1=>?_);have e:=rd_set (l:=out) (u:=(x:Int)) (v:=v) (x:=-1) ⟨by omega,by omega⟩ h0;rw [Int.toNat_natCast] at e;rw [e]
   by_cases e1:v=x
   ·rw [if_pos e1]
   ·rw [if_neg e1];exact hv v h0 (by omega)
 exact l0 n 0 399999 _ (by omega) (by omega) (by simp) (fun v h0 h1=>by omega)
end
theorem Lay.eq {n:Nat} {nx:Int→List Int} {a:Int} {out d:List Int} (hL:Lay n nx a n out) (hd:DistOf n nx a d) (hb:∀ v:Int,0≤v→v < n→rd d v≤n) {v:Int} (h0:0≤v) (h1:v < n):rd out v=rd d v:=by
 have e1:=hL.low v h0 h1;have e2:=hd.low v h0 h1
 rcases Int.lt_or_le (rd d v) 0 with e3|e3
 ·rcases Int.lt_or_le (rd out v) 0 with e4|e4
  ·omega
  ·have:=hd.least _ v h0 h1 (hL.way v h0 h1 e4);omega
 ·have e5:=hL.least _ v (by have:=hb v h0 h1;omega) h0 h1 (hd.way v h0 h1 e3);have e6:=hd.least _ v h0 h1 (hL.way v h0 h1 e5.1);omega
theorem rd_ext {l m:List Int} {n:Nat} (hl:l.length=n) (hm:m.length=n) (h:∀ v:Int,0≤v→v < n→rd l v=rd m v):l=m:=by
 refine List.ext_getElem (by omega) fun i h1 h2=>?_
 have:=h (i:Int) (by omega) (by omega);unfold rd at this;rw [Int.toNat_natCast,List.getD_eq_getElem?_getD,List.getD_eq_getElem?_getD,List.getElem?_eq_getElem h1,List.getElem?_eq_getElem h2] at this;exact this
end Go.Proofs.YtcbnhfnnjkkceaaGreat.X
end
section
namespace Go.Proofs.YtcbnhfnnjkkceaaGreat.X
open Go.RowKit Go.Proofs.YtcbnhfnnjkkceaaGreatW.PrintWords Go.Proofs.YtcbnhfnnjkkceaaGreatW.PrintLast Go.Proofs.YtcbnhfnnjkkceaaGreatW.PrintMore Go.Proofs.YtcbnhfnnjkkceaaGreat.Gr
def BigR (p:Im):Prop:=60 < p.f5.length∨100 < p.f3.length∨40 < p.f4.length∨z1o.f 1800 p.f0 p.f1 p.f2 p.f3 p.f4 p.f5=some false
def MadePost2 (w:World) (p:Im) (e:Ending) (w':World):Prop :=
 (e=.returned (.tuple #[.pointer none,.bool false])∧Below w.heap.size w w'∧BigR p) ∨
 ∃ g B,e=.returned (.tuple #[.pointer (some ⟨g,0,none⟩),.bool true])∧w.heap.size≤g∧Gr w' g B p∧Below w.heap.size w w'∧encV p=0∧z2l p∧p.f5.length≤60∧p.f3.length≤100∧p.f4.length≤40
theorem made2_calls (p:Im) (A3:Option Addr) (c3:Nat) (A4:Option Addr) (c4:Nat) (A5:Option Addr) (c5:Nat) (w:World)
  (hr3:Kd.C (Kd.int .u8) w A3 p.f3.length p.f3) (hc3:p.f3.length≤c3) (hr4:Kd.C (Kd.int .i64) w A4 p.f4.length p.f4) (hc4:p.f4.length≤c4) (hr5:Kd.C k79 w A5 p.f5.length p.f5) (hc5:p.f5.length≤c5)
  (hw:wfP p) :
  Calls Tryz.prog 29 #[.agg #[.int .i64 p.f0,.int .i64 p.f1,.int .i64 p.f2,.slice A3 p.f3.length c3,.slice A4 p.f4.length c4,.slice A5 p.f5.length c5]] w (MadePost2 w p):=by
 have hb1:=z04 (Below.refl w.heap.size w) (Obj.cells #[.int .i64 p.f0,.int .i64 p.f1,.int .i64 p.f2,.slice A3 p.f3.length c3,.slice A4 p.f4.length c4,.slice A5 p.f5.length c5] 26);have BX1:=Aside0.mk (z21 w (Obj.cells #[.int .i64 p.f0,.int .i64 p.f1,.int .i64 p.f2,.slice A3 p.f3.length c3,.slice A4 p.f4.length c4,.slice A5 p.f5.length c5] 26));have HS1:Aside0 ((w.alloc (Obj.cells #[.int .i64 p.f0,.int .i64 p.f1,.int .i64 p.f2,.slice A3 p.f3.length c3,.slice A4 p.f4.length c4,.slice A5 p.f5.length c5] 26)).heap.size=w.heap.size+1):=⟨by show (w.heap.push _).size=_;simp⟩;have HC3:=Aside0.mk (Kd.C_below hr3 hb1);have HC4:=Aside0.mk (Kd.C_below hr4 hb1);have HC5:=Aside0.mk (Kd.C_below hr5 hb1);have HB1:=Aside0.mk hb1;clear hr3 hr4 hr5 hb1
 go_enter Tryz.func29,Tryz.ntmps29
 go_upto_region 1 with (fail)
 generalize w.alloc (Obj.cells #[.int .i64 p.f0,.int .i64 p.f1,.int .i64 p.f2,.slice A3 p.f3.length c3,.slice A4 p.f4.length c4,.slice A5 p.f5.length c5] 26)=W1 at BX1 HS1 HC3 HC4 HC5 HB1 ⊢;have k0:=z02 BX1.out 0;have k1:=z02 BX1.out 1;have k2:=z02 BX1.out 2;have k3:=z02 BX1.out 3;have k4:=z02 BX1.out 4;have k5:=z02 BX1.out 5
 by_cases h0:p.f5.length≤60
 rotate_left
 ·have hd0:decide ((p.f5.length:Int) > 60)=true:=decide_eq_true (by omega);have he0:decide (60 < (p.f5.length:Int))=true:=decide_eq_true (by omega);have HQ:Aside0 (BigR p):=⟨.inl (by omega)⟩;clear h0;go_wp2;go_ret2
  exact .inl ⟨rfl,HB1.out,HQ.out⟩
 have hd0:decide ((p.f5.length:Int) > 60)=false:=decide_eq_false (by omega);have he0:decide (60 < (p.f5.length:Int))=false:=decide_eq_false (by omega)
 by_cases h1:p.f3.length≤100
 rotate_left
 ·have hd1:decide ((p.f3.length:Int) > 100)=true:=decide_eq_true (by omega);have he1:decide (100 < (p.f3.length:Int))=true:=decide_eq_true (by omega);have HQ:Aside0 (BigR p):=⟨.inr (.inl (by omega))⟩;clear h1;go_wp2;go_ret2
  exact .inl ⟨rfl,HB1.out,HQ.out⟩
 have hd1:decide ((p.f3.length:Int) > 100)=false:=decide_eq_false (by omega);have he1:decide (100 < (p.f3.length:Int))=false:=decide_eq_false (by omega)
 by_cases h2:p.f4.length≤40
 rotate_left
 ·have hd2:decide ((p.f4.length:Int) > 40)=true:=decide_eq_true (by omega);have he2:decide (40 < (p.f4.length:Int))=true:=decide_eq_true (by omega);have HQ:Aside0 (BigR p):=⟨.inr (.inr (.inl (by omega)))⟩;clear h2;go_wp2;go_ret2
  exact .inl ⟨rfl,HB1.out,HQ.out⟩
 have hd2:decide ((p.f4.length:Int) > 40)=false:=decide_eq_false (by omega);have he2:decide (40 < (p.f4.length:Int))=false:=decide_eq_false (by omega);obtain ⟨r,hr,hrl⟩:=ref_right p hw h2 (by omega);have HR:=Aside0.mk (z1o.calls 1800 p.f0 p.f1 p.f2 A3 c3 p.f3 A4 c4 p.f4 A5 c5 p.f5 r W1 HC3.out hc3 HC4.out hc4 HC5.out hc5 hr);have HRL:=Aside0.mk hrl;have HRR:=Aside0.mk hr;have HH0:=Aside0.mk h0;have HH1:=Aside0.mk h1;have HH2:=Aside0.mk h2;clear hr hrl h0 h1 h2
 go_wp2_with fail
 refine HR.out.mono ?_;rintro e w3 ⟨rfl,hB⟩;have HC3:=Aside0.mk (Kd.C_below HC3.out hB);have HC4:=Aside0.mk (Kd.C_below HC4.out hB);have HC5:=Aside0.mk (Kd.C_below HC5.out hB);have BX3:=Aside0.mk ((hB.block w.heap.size (by rw [HS1.out];omega)).trans BX1.out);have HBn:=Aside0.mk (z1m HB1.out HB1.out.size hB);clear HB1 hB HR k0 k1 k2 k3 k4 k5;have HB1:=HBn;clear HBn;cases r with
 | false =>
  go_wp2;go_ret2
  exact .inl ⟨rfl,HB1.out,.inr (.inr (.inr HRR.out))⟩
 | true =>
  have k0:=z02 BX3.out 0;have k1:=z02 BX3.out 1;have k2:=z02 BX3.out 2;have k3:=z02 BX3.out 3;have k4:=z02 BX3.out 4;have k5:=z02 BX3.out 5;have h0:encV p=0:=(HRL.out rfl).1;have HLA:=Aside0.mk (HRL.out rfl).2;have HNEW:=Aside0.mk (new_yes' p A3 c3 A4 c4 A5 c5 w3 HC3.out hc3 HC4.out hc4 HC5.out hc5 hw h0);have HZ:=Aside0.mk h0;clear h0
  go_wp2_with fail
  refine HNEW.out.mono ?_;rintro e w4 ⟨g,rfl,hG,hB⟩;have HE:Aside0 (MadePost2 w p (.returned (.tuple #[.pointer (some ⟨g,0,none⟩),.bool true])) w4):=⟨.inr ⟨g,_,rfl,Nat.le_trans HB1.out.size hG.1,hG,z1m HB1.out HB1.out.size hB,HZ.out,HLA.out,HH0.out,HH1.out,HH2.out⟩⟩;clear hG hB HNEW;go_wp2;go_ret2
  exact HE.out
end Go.Proofs.YtcbnhfnnjkkceaaGreat.X
end
section
namespace Go.Proofs.YtcbnhfnnjkkceaaGreat.X
open Go.RowKit Go.Proofs.YtcbnhfnnjkkceaaGreatW.PrintWords Go.Proofs.YtcbnhfnnjkkceaaGreat.Gr
section
variable (p:Im) (R:Rgt p) (h60:p.f5.length≤60) (a:Int)
include R h60
theorem tells1:∃ o,z0d.f 400000 p.f0 p.f1 p.f2 p.f3 p.f4 p.f5 a=some o∧o.length≤60 ∧
  ∀ d:List Int,((0≤a∧a < p.f5.length)→DistOf p.f5.length (nextL p) a d∧∀ v:Int,0≤v→v < p.f5.length→rd d v≤p.f5.length)→(¬ (0≤a∧a < p.f5.length)→d=[])→d=o:=by
 by_cases ha:0≤a∧a < p.f5.length
 ·obtain ⟨o,ho,hL⟩:=ref_from p R rfl h60 ha;refine ⟨o,ho,by rw [hL.len];exact h60,fun d h1 _=>?_⟩;obtain ⟨hd,hb⟩:=h1 ha;exact rd_ext hd.len hL.len fun v h0 h1=>(hL.eq hd hb h0 h1).symm
 ·refine ⟨[],?_,by simp,fun d _ h=>h ha⟩;unfold z0d.f
  by_cases h0:a < 0
  ·rw [if_pos h0,z0d.j0,if_pos rfl]
  ·rw [if_neg h0,decide_eq_true (by omega),z0d.j0,if_pos rfl]
set_option maxRecDepth 20000 in
theorem to_l0 (ha:0≤a∧a < p.f5.length):∀ (e x k:Nat) (acc:List Int),x+e=p.f5.length→e+410000≤k→acc.length=x→(∀ v:Int,0≤v→v < x→∃ o,Lay p.f5.length (nextL p) v p.f5.length o∧rd acc v=rd o a) →
  ∃ out,z0w.l0 k a acc x p.f0 p.f1 p.f2 p.f3 p.f4 p.f5=some out∧out.length=p.f5.length∧∀ v:Int,0≤v→v < p.f5.length→∃ o,Lay p.f5.length (nextL p) v p.f5.length o∧rd out v=rd o a
 | 0,x,k,acc,hx,hk,hlen,hv=>by
  obtain ⟨k,rfl⟩:∃ i,k=i+1:=⟨k - 1,by omega⟩;rw [z0w.l0,if_neg (by omega)];exact ⟨acc,rfl,by omega,fun v h0 h1=>hv v h0 (by omega)⟩
 | e+1,x,k,acc,hx,hk,hlen,hv=>by
  obtain ⟨k,rfl⟩:∃ i,k=i+1:=⟨k - 1,by omega⟩;obtain ⟨o,ho,hL⟩:=ref_from p R rfl h60 (a:=(x:Int)) ⟨by omega,by omega⟩;have hok:=at_rounds (fun k=>z0d.mono p.f0 p.f1 p.f2 p.f3 p.f4 p.f5 (x:Int) k) (show 400000≤k by omega) ho;rw [z0w.l0,if_pos (by omega),hok,Option.bind_some,if_pos ha.1,if_pos (by rw [hL.len];exact ha.2),if_pos (by omega),wsucc (by omega)];refine to_l0 ha e (x+1) k _ (by omega) (by omega) (by rw [List.length_append,List.length_singleton,hlen]) (fun v h0 h1=>?_)
  by_cases ev:v=x
  ·refine ⟨o,by rw [ev];exact hL,?_⟩;rw [ev];have e1:rd (acc ++ [rd o a]) (x:Int)=(acc ++ [rd o a]).getD x 0:=by
    unfold rd;rw [Int.toNat_natCast]
   rw [e1,List.getD_eq_getElem?_getD,List.getElem?_append_right (by omega),hlen,Nat.sub_self];rfl
  ·obtain ⟨o',hL',he'⟩:=hv v h0 (by omega);refine ⟨o',hL',?_⟩;rw [← he'];have e2:(acc ++ [rd o a]).getD v.toNat 0=acc.getD v.toNat 0:=by rw [List.getD_eq_getElem?_getD,List.getD_eq_getElem?_getD,List.getElem?_append_left (by omega)]
   exact e2
theorem tells2:∃ o,z0w.f 500000 p.f0 p.f1 p.f2 p.f3 p.f4 p.f5 a=some o∧o.length≤60 ∧
  ∀ d:List Int,((0≤a∧a < p.f5.length)→DistOf p.f5.length (prevL p) a d∧∀ v:Int,0≤v→v < p.f5.length→rd d v≤p.f5.length)→(¬ (0≤a∧a < p.f5.length)→d=[])→d=o:=by
 by_cases ha:0≤a∧a < p.f5.length
 ·obtain ⟨o,ho,hlen,hv⟩:=to_l0 p R h60 a ha p.f5.length 0 499999 [] (by omega) (by omega) rfl (fun v h0 h1=>by omega);refine ⟨o,?_,by rw [hlen];exact h60,fun d h1 _=>?_⟩
  ·unfold z0w.f;rw [if_neg (by omega),decide_eq_false (by omega),z0w.j0,if_neg (by simp)];exact ho
  ·obtain ⟨hd,hb⟩:=h1 ha;refine rd_ext hd.len hlen fun v h0 h1=>?_
   obtain ⟨q,hL,e⟩:=hv v h0 h1;rw [e];have hN:∀ u w:Int,(0≤u∧u < p.f5.length)→(0≤w∧w < p.f5.length)→w ∈ nextL p u→u ∈ prevL p w:=fun u w hu _ h=>(far_next_prev u w hu).1 h
   have hP:∀ u w:Int,(0≤u∧u < p.f5.length)→(0≤w∧w < p.f5.length)→w ∈ prevL p u→u ∈ nextL p w:=fun u w _ hw h=>(far_next_prev w u hw).2 h
   have e1:=hL.low a ha.1 ha.2;have e2:=hd.low v h0 h1
   rcases Int.lt_or_le (rd d v) 0 with e3|e3
   ·rcases Int.lt_or_le (rd q a) 0 with e4|e4
    ·omega
    ·have:=hd.least _ v h0 h1 (way_rev hN _ a ha (hL.way a ha.1 ha.2 e4));omega
   ·have e5:=hL.least _ a (by have:=hb v h0 h1;omega) ha.1 ha.2 (way_rev hP _ v ⟨h0,h1⟩ (hd.way v h0 h1 e3));have e6:=hd.least _ v h0 h1 (way_rev hN _ a ha (hL.way a ha.1 ha.2 e5.1));omega
 ·refine ⟨[],?_,by simp,fun d _ h=>h ha⟩;unfold z0w.f
  by_cases h0:a < 0
  ·rw [if_pos h0,z0w.j0,if_pos rfl]
  ·rw [if_neg h0,decide_eq_true (by omega),z0w.j0,if_pos rfl]
end
end Go.Proofs.YtcbnhfnnjkkceaaGreat.X
end
section
namespace Go.Proofs.YtcbnhfnnjkkceaaGreat.X
open Go.RowKit Go.Proofs.YtcbnhfnnjkkceaaGreatW.PrintWords Go.Proofs.YtcbnhfnnjkkceaaGreatW.PrintLast Go.Proofs.YtcbnhfnnjkkceaaGreatW.PrintMore Go.Proofs.YtcbnhfnnjkkceaaGreat.Gr
structure Ft (n1:Nat) (W1:World) (g BB:Nat) (p:Im) (W:World):Prop where
 sz:n1≤W.heap.size
 gr:Gr W g BB p
 bel:Below n1 W1 W
theorem Ft.below {n1 g BB:Nat} {W1 W W':World} {p:Im} (h:Ft n1 W1 g BB p W) (hb:Below W.heap.size W W'):Ft n1 W1 g BB p W':=⟨Nat.le_trans h.sz hb.size,h.gr.below hb,z1m h.bel h.sz hb⟩
theorem Ft.fr {n1 g BB:Nat} {W1 W W':World} {p:Im} (h:Ft n1 W1 g BB p W) (hG:Gr W' g BB p) (hf:Fr W W' (fun i=>i=g)) (hg:n1≤g):Ft n1 W1 g BB p W':=⟨Nat.le_trans h.sz hf.size,hG,fr_below hf h.bel h.sz hg⟩
theorem farTells_law (p:Im) (A3:Option Addr) (c3:Nat) (A4:Option Addr) (c4:Nat) (A5:Option Addr) (c5:Nat) (a:Int) (w:World)
  (hr3:Kd.C (Kd.int .u8) w A3 p.f3.length p.f3) (hc3:p.f3.length≤c3) (hr4:Kd.C (Kd.int .i64) w A4 p.f4.length p.f4) (hc4:p.f4.length≤c4) (hr5:Kd.C k79 w A5 p.f5.length p.f5) (hc5:p.f5.length≤c5)
  (hw:wfP p) (hwa:Gr.wfI a) :
  Calls Tryz.prog 4 #[.agg #[.int .i64 p.f0,.int .i64 p.f1,.int .i64 p.f2,.slice A3 p.f3.length c3,.slice A4 p.f4.length c4,.slice A5 p.f5.length c5],.int .i64 a] w fun e w'=>e=.returned (.bool true)∧Below w.heap.size w w':=by
 have hb1:=z04 (Below.refl w.heap.size w) (Obj.cells #[.int .i64 p.f0,.int .i64 p.f1,.int .i64 p.f2,.slice A3 p.f3.length c3,.slice A4 p.f4.length c4,.slice A5 p.f5.length c5] 26);have BX1:=Aside0.mk (z21 w (Obj.cells #[.int .i64 p.f0,.int .i64 p.f1,.int .i64 p.f2,.slice A3 p.f3.length c3,.slice A4 p.f4.length c4,.slice A5 p.f5.length c5] 26));have HS1:Aside0 ((w.alloc (Obj.cells #[.int .i64 p.f0,.int .i64 p.f1,.int .i64 p.f2,.slice A3 p.f3.length c3,.slice A4 p.f4.length c4,.slice A5 p.f5.length c5] 26)).heap.size=w.heap.size+1):=⟨by show (w.heap.push _).size=_;simp⟩;have HC3:=Aside0.mk (Kd.C_below hr3 hb1);have HC4:=Aside0.mk (Kd.C_below hr4 hb1);have HC5:=Aside0.mk (Kd.C_below hr5 hb1);have HB1:=Aside0.mk hb1;clear hr3 hr4 hr5 hb1;have HAW:=Aside0.mk (awake21_calls (w.alloc (Obj.cells #[.int .i64 p.f0,.int .i64 p.f1,.int .i64 p.f2,.slice A3 p.f3.length c3,.slice A4 p.f4.length c4,.slice A5 p.f5.length c5] 26)))
 go_enter Tryz.func4,Tryz.ntmps4
 go_wp2_with fail
 generalize w.alloc (Obj.cells #[.int .i64 p.f0,.int .i64 p.f1,.int .i64 p.f2,.slice A3 p.f3.length c3,.slice A4 p.f4.length c4,.slice A5 p.f5.length c5] 26)=W1 at BX1 HS1 HC3 HC4 HC5 HB1 HAW ⊢;refine HAW.out.mono ?_;rintro e w2 ⟨rfl,hB⟩;rw [HS1.out] at hB;have HBw:=Aside0.mk hB;have hbk:=(hB.block w.heap.size (by omega)).trans BX1.out;have HC3W:=HC3;have HC4W:=HC4;have HC5W:=HC5;have HC3:=Aside0.mk (Kd.C_below HC3.out (by rw [HS1.out];exact hB));have HC4:=Aside0.mk (Kd.C_below HC4.out (by rw [HS1.out];exact hB));have HC5:=Aside0.mk (Kd.C_below HC5.out (by rw [HS1.out];exact hB));have k0:=z02 hbk 0;have k1:=z02 hbk 1;have k2:=z02 hbk 2;have k3:=z02 hbk 3;have k4:=z02 hbk 4;have k5:=z02 hbk 5;have HMD:=Aside0.mk (made2_calls p A3 c3 A4 c4 A5 c5 w2 HC3.out hc3 HC4.out hc4 HC5.out hc5 hw);have HSW:Aside0 (w.heap.size+1≤w2.heap.size):=⟨by rw [← HS1.out];exact hB.size⟩;clear hB hbk HAW
 go_wp2_with fail
 refine HMD.out.mono ?_;rintro e w3 (⟨rfl,hB,hbig⟩|⟨g,BB,rfl,hg0,hG,hB,h0,hla,h5,h3,h4⟩)
 ·have HBn:=Aside0.mk (z1m HBw.out (by rw [← HS1.out];exact HBw.out.size) hB);clear HBw hB HMD k0 k1 k2 k3 k4 k5;have HBK:=Aside0.mk ((HBn.out.block w.heap.size (Nat.lt_succ_self _)).trans BX1.out);have k0:=z02 HBK.out 0;have k1:=z02 HBK.out 1;have k2:=z02 HBK.out 2;have k3:=z02 HBK.out 3;have k4:=z02 HBK.out 4;have k5:=z02 HBK.out 5;have HC3:=Aside0.mk (Kd.C_below HC3W.out (by rw [HS1.out];exact HBn.out));have HC4:=Aside0.mk (Kd.C_below HC4W.out (by rw [HS1.out];exact HBn.out));have HC5:=Aside0.mk (Kd.C_below HC5W.out (by rw [HS1.out];exact HBn.out));have HEND:Aside0 (∀ w',Below (w.heap.size+1) W1 w'→Below w.heap.size w w'):=⟨fun w' h=>z1m HB1.out HB1.out.size (by rw [HS1.out];exact h)⟩;have HBIG:=Aside0.mk hbig;clear hbig
  by_cases h0:p.f5.length≤60
  rotate_left
  ·have hd0:decide ((p.f5.length:Int) > 60)=true:=decide_eq_true (by omega);have he0:decide (60 < (p.f5.length:Int))=true:=decide_eq_true (by omega);clear h0;go_wp2;go_ret
   exact ⟨rfl,HEND.out _ HBn.out⟩
  have hd0:decide ((p.f5.length:Int) > 60)=false:=decide_eq_false (by omega);have he0:decide (60 < (p.f5.length:Int))=false:=decide_eq_false (by omega)
  by_cases h1:p.f3.length≤100
  rotate_left
  ·have hd1:decide ((p.f3.length:Int) > 100)=true:=decide_eq_true (by omega);have he1:decide (100 < (p.f3.length:Int))=true:=decide_eq_true (by omega);clear h1;go_wp2;go_ret
   exact ⟨rfl,HEND.out _ HBn.out⟩
  have hd1:decide ((p.f3.length:Int) > 100)=false:=decide_eq_false (by omega);have he1:decide (100 < (p.f3.length:Int))=false:=decide_eq_false (by omega)
  by_cases h2:p.f4.length≤40
  rotate_left
  ·have hd2:decide ((p.f4.length:Int) > 40)=true:=decide_eq_true (by omega);have he2:decide (40 < (p.f4.length:Int))=true:=decide_eq_true (by omega);clear h2;go_wp2;go_ret
   exact ⟨rfl,HEND.out _ HBn.out⟩
  have hd2:decide ((p.f4.length:Int) > 40)=false:=decide_eq_false (by omega);have he2:decide (40 < (p.f4.length:Int))=false:=decide_eq_false (by omega);have hrf:z1o.f 1800 p.f0 p.f1 p.f2 p.f3 p.f4 p.f5=some false:=by
   rcases HBIG.out with h|h|h|h
   ·omega
   ·omega
   ·omega
   ·exact h
  have HRI:=Aside0.mk (z1o.calls 1800 p.f0 p.f1 p.f2 A3 c3 p.f3 A4 c4 p.f4 A5 c5 p.f5 false w3 HC3.out hc3 HC4.out hc4 HC5.out hc5 hrf);clear hrf h0 h1 h2
  go_wp2_with fail
  refine HRI.out.mono ?_;rintro e w4 ⟨rfl,hB⟩;have HB4:=Aside0.mk (z1m HBn.out (by rw [← HS1.out];exact HBn.out.size) hB);clear hB HRI;go_wp2;go_ret
  exact ⟨rfl,HEND.out _ HB4.out⟩
 have HLG:Aside0 (w.heap.size+1≤g):=⟨Nat.le_trans HSW.out hg0⟩;have HBn:=Aside0.mk (z1m HBw.out (by rw [← HS1.out];exact HBw.out.size) hB);have HG:=Aside0.mk hG;have hrt:=encV_rt hw h0;have HRT:=Aside0.mk hrt;have HNX:Aside0 (∀ v:Int,0≤v→v < p.f5.length→∀ u ∈ nextL p v,0≤u∧u < p.f5.length):=⟨fun v a b=>next_in hw h0 hla ⟨a,b⟩⟩;have H3:=Aside0.mk h3;have H4:=Aside0.mk h4;have H256:=Aside0.mk hrt.fits.2.2.1;have HRG:=Aside0.mk (Rgt.mk hw h0 hla);have H5:=Aside0.mk h5;clear HBw hB hG hg0 h0 hla h5 h3 h4 hrt HMD k0 k1 k2 k3 k4 k5;have HBw:=HBn;clear HBn;have HEND:Aside0 (∀ w',Below (w.heap.size+1) W1 w'→Below w.heap.size w w'):=⟨fun w' h=>z1m HB1.out HB1.out.size (by rw [HS1.out];exact h)⟩;have FT0:Aside0 (Ft (w.heap.size+1) W1 g BB p w3.drew):=⟨Ft.below ⟨by rw [← HS1.out];exact HBw.out.size,HG.out,HBw.out⟩ (z1z (Below.refl _ _))⟩;have HK:Aside0 (∀ W,Ft (w.heap.size+1) W1 g BB p W→W.cell? ⟨w.heap.size,0,none⟩=some (.int .i64 p.f0)∧W.cell? ⟨w.heap.size,1,none⟩=some (.int .i64 p.f1)∧W.cell? ⟨w.heap.size,2,none⟩=some (.int .i64 p.f2)∧W.cell? ⟨w.heap.size,3,none⟩=some (.slice A3 p.f3.length c3)∧W.cell? ⟨w.heap.size,4,none⟩=some (.slice A4 p.f4.length c4)∧W.cell? ⟨w.heap.size,5,none⟩=some (.slice A5 p.f5.length c5)):=⟨fun W h=>by
  have hb:=(h.bel.block w.heap.size (Nat.lt_succ_self _)).trans BX1.out;exact ⟨(z02 hb 0).trans rfl,(z02 hb 1).trans rfl,(z02 hb 2).trans rfl,(z02 hb 3).trans rfl,(z02 hb 4).trans rfl,(z02 hb 5).trans rfl⟩⟩
 have HCA:Aside0 (∀ W,Ft (w.heap.size+1) W1 g BB p W→Kd.C (Kd.int .u8) W A3 p.f3.length p.f3∧Kd.C (Kd.int .i64) W A4 p.f4.length p.f4∧Kd.C k79 W A5 p.f5.length p.f5):=⟨fun W h=>⟨Kd.C_below HC3W.out (by rw [HS1.out];exact h.bel),Kd.C_below HC4W.out (by rw [HS1.out];exact h.bel),Kd.C_below HC5W.out (by rw [HS1.out];exact h.bel)⟩⟩;obtain ⟨o1,ho1,hl1,hq1⟩:=tells1 p HRG.out H5.out a;obtain ⟨o2,ho2,hl2,hq2⟩:=tells2 p HRG.out H5.out a;have HRF1:=Aside0.mk ho1;have HRF2:=Aside0.mk ho2;have HOL1:=Aside0.mk hl1;have HOL2:=Aside0.mk hl2;have HQ1:=Aside0.mk hq1;have HQ2:=Aside0.mk hq2;clear ho1 ho2 hl1 hl2 hq1 hq2 HC3 HC4 HC5 HC3W HC4W HC5W HB1 HBw HG HRG H5
 go_upto_region 6 with (fail)
 refine z2u (n:=17) (S:=fun w'=>w'.cell? ⟨w.heap.size,0,none⟩=some (.int .i64 p.f0)∧w'.cell? ⟨w.heap.size,1,none⟩=some (.int .i64 p.f1)∧w'.cell? ⟨w.heap.size,2,none⟩=some (.int .i64 p.f2)∧w'.cell? ⟨w.heap.size,3,none⟩=some (.slice A3 p.f3.length c3)∧w'.cell? ⟨w.heap.size,4,none⟩=some (.slice A4 p.f4.length c4)∧w'.cell? ⟨w.heap.size,5,none⟩=some (.slice A5 p.f5.length c5)) (ds:=[]) #[zf,zf,zf,zf,zf,zf,zf,zf,zf,zf,zf,zf,zf,zf,zf,zf,zf] (by kernel_rfl) rfl rfl ⟨(HK.out _ FT0.out).1,(HK.out _ FT0.out).2.1,(HK.out _ FT0.out).2.2.1,(HK.out _ FT0.out).2.2.2.1,(HK.out _ FT0.out).2.2.2.2.1,(HK.out _ FT0.out).2.2.2.2.2⟩ (fun hHeld=>?_);refine pure_ (i:=0) (N:=some 37) (v:=?_) (a':=?_) #[zt,zf,zf,zf,zf,zf,zf,zf,zf,zf,zf,zf,zf,zf,zf,zf,zf] rfl rfl (by kernel_rfl) (fun _ _ _ h=>h) (Or.inl ⟨by rfl,?_⟩) ?_ ?_;rotate_left
 ·intro w';go_simp;with_reducible rfl
 rotate_left
 ·simp only [Act.put,zq1,zq2,zq3,i64_w,i32_w];rfl
 refine pure_ (i:=1) (N:=some 38) (v:=?_) (a':=?_) #[zt,zt,zf,zf,zf,zf,zf,zf,zf,zf,zf,zf,zf,zf,zf,zf,zf] rfl rfl (by kernel_rfl) (fun _ _ _ h=>h) (Or.inl ⟨by rfl,?_⟩) ?_ ?_;rotate_left
 ·intro w';go_simp;with_reducible rfl
 rotate_left
 ·simp only [Act.put,zq1,zq2,zq3,i64_w,i32_w];rfl
 refine pure_ (i:=4) (N:=some 41) (v:=?_) (a':=?_) #[zt,zt,zf,zf,zt,zf,zf,zf,zf,zf,zf,zf,zf,zf,zf,zf,zf] rfl rfl (by kernel_rfl) (fun _ _ _ h=>h) (Or.inl ⟨by rfl,?_⟩) ?_ ?_;rotate_left
 ·intro w';go_simp;with_reducible rfl
 rotate_left
 ·simp only [Act.put,zq1,zq2,zq3,i64_w,i32_w];rfl
 refine take_ (i:=3) (N:=some 40) (v:=?_) (a':=?_) #[zt,zt,zf,zt,zt,zf,zf,zf,zf,zf,zf,zf,zf,zf,zf,zf,zf] rfl rfl (by kernel_rfl) (fun _ _ _ h=>h) (Or.inl ⟨by rfl,?_⟩) hHeld ?_ ?_;rotate_left
 ·rintro w' ⟨s0,s1,s2,s3,s4,s5⟩;go_simp;with_reducible rfl
 rotate_left
 ·simp only [Act.put,zq1,zq2,zq3,i64_w,i32_w];rfl
 refine one_ (i:=2) (N:=some 39) #[zt,zt,zt,zt,zt,zf,zf,zf,zf,zf,zf,zf,zf,zf,zf,zf,zf] rfl rfl (by kernel_rfl) (by decide) (fun K hK=>?_);refine goes_ Tryz.func31 (by kernel_rfl) rfl #[.pointer (some ⟨g,0,none⟩),.int .i64 a] (by rfl) rfl rfl (by simp only [List.map_toArray,List.map_cons,List.map_nil];rfl) ?_;refine (farFrom HRT.out FT0.out.gr HNX.out H3.out H4.out (a:=a)).mono ?_;rintro e w4 ⟨v,d,rfl,hR,hd,hn_,hG,hF⟩;have hq:=HQ1.out d hd hn_;rw [hq] at hR;clear hq hd hn_;obtain ⟨A4_,c4_,rfl⟩:=Kd.R_slice hR;refine ⟨_,rfl,?_⟩;have FT4:=Aside0.mk (FT0.out.fr hG hF HLG.out);have HR4:=Aside0.mk (Kd.R_lower hR (Nat.zero_le _));clear hR hG hF;refine hK.out _ _ ⟨(HK.out _ FT4.out).1,(HK.out _ FT4.out).2.1,(HK.out _ FT4.out).2.2.1,(HK.out _ FT4.out).2.2.2.1,(HK.out _ FT4.out).2.2.2.2.1,(HK.out _ FT4.out).2.2.2.2.2⟩ (fun hHeld=>?_);clear hK K;refine norm_ (a':=?_) ?_ ?_;rotate_left
 ·show Act.put _ (some 39) _=_;simp only [Act.put,zq1,zq2,zq3,i64_w,i32_w];rfl
 refine one_ (i:=5) (N:=some 42) #[zt,zt,zt,zt,zt,zt,zf,zf,zf,zf,zf,zf,zf,zf,zf,zf,zf] rfl rfl (by kernel_rfl) (by decide) (fun K hK=>?_);refine goes_ Tryz.func32 (by kernel_rfl) rfl #[.agg #[.int .i64 p.f0,.int .i64 p.f1,.int .i64 p.f2,.slice A3 p.f3.length c3,.slice A4 p.f4.length c4,.slice A5 p.f5.length c5],.int .i64 a] (by rfl) rfl rfl (by simp only [List.map_toArray,List.map_cons,List.map_nil];rfl) ?_;refine (z0d.calls 400000 p.f0 p.f1 p.f2 A3 c3 p.f3 A4 c4 p.f4 A5 c5 p.f5 a o1 w4 (HCA.out _ FT4.out).1 hc3 (HCA.out _ FT4.out).2.1 hc4 (HCA.out _ FT4.out).2.2 hc5 HRF1.out).mono ?_;rintro e w5 ⟨v,rfl,hR,hB⟩;obtain ⟨A5_,c5_,rfl⟩:=Kd.R_slice hR;refine ⟨_,rfl,?_⟩;have FT5:=Aside0.mk (FT4.out.below hB);have HR4n:=Aside0.mk (r_below HR4.out hB);have HR5:=Aside0.mk (Kd.R_lower hR (Nat.zero_le _));clear hR hB;refine hK.out _ _ ⟨(HK.out _ FT5.out).1,(HK.out _ FT5.out).2.1,(HK.out _ FT5.out).2.2.1,(HK.out _ FT5.out).2.2.2.1,(HK.out _ FT5.out).2.2.2.2.1,(HK.out _ FT5.out).2.2.2.2.2⟩ (fun hHeld=>?_);clear hK K;refine norm_ (a':=?_) ?_ ?_;rotate_left
 ·show Act.put _ (some 42) _=_;simp only [Act.put,zq1,zq2,zq3,i64_w,i32_w];rfl
 refine one_ (i:=6) (N:=some 43) #[zt,zt,zt,zt,zt,zt,zt,zf,zf,zf,zf,zf,zf,zf,zf,zf,zf] rfl rfl (by kernel_rfl) (by decide) (fun K hK=>?_);refine goes_ Tryz.func19 (by kernel_rfl) rfl #[.slice A4_ o1.length c4_,.slice A5_ o1.length c5_] (by rfl) rfl rfl (by simp only [List.map_toArray,List.map_cons,List.map_nil];rfl) ?_;refine (ints_calls true (Kd.R_reads' HR4n.out).2.2 (Kd.R_reads' HR4n.out).2.1 (Kd.R_reads' HR5.out).2.2 (Kd.R_reads' HR5.out).2.1 (Nat.le_trans HOL1.out (by decide)) (by simp)).mono ?_;rintro e w_ ⟨rfl,nd1,rfl⟩;refine ⟨_,rfl,?_⟩;have FT6:=Aside0.mk (FT5.out.below (z2f (Below.refl _ _) nd1));refine hK.out _ _ ⟨(HK.out _ FT6.out).1,(HK.out _ FT6.out).2.1,(HK.out _ FT6.out).2.2.1,(HK.out _ FT6.out).2.2.2.1,(HK.out _ FT6.out).2.2.2.2.1,(HK.out _ FT6.out).2.2.2.2.2⟩ (fun hHeld=>?_);clear hK K;refine norm_ (a':=?_) ?_ ?_;rotate_left
 ·show Act.put _ (some 43) _=_;simp only [Act.put,zq1,zq2,zq3,i64_w,i32_w];rfl
 refine pure_ (i:=7) (N:=some 44) (v:=?_) (a':=?_) #[zt,zt,zt,zt,zt,zt,zt,zt,zf,zf,zf,zf,zf,zf,zf,zf,zf] rfl rfl (by kernel_rfl) (fun _ _ _ h=>h) (Or.inl ⟨by rfl,?_⟩) ?_ ?_;rotate_left
 ·intro w';go_simp;with_reducible rfl
 rotate_left
 ·simp only [Act.put,zq1,zq2,zq3,i64_w,i32_w];rfl
 refine pure_ (i:=8) (N:=some 45) (v:=?_) (a':=?_) #[zt,zt,zt,zt,zt,zt,zt,zt,zt,zf,zf,zf,zf,zf,zf,zf,zf] rfl rfl (by kernel_rfl) (fun _ _ _ h=>h) (Or.inl ⟨by rfl,?_⟩) ?_ ?_;rotate_left
 ·intro w';go_simp;with_reducible rfl
 rotate_left
 ·simp only [Act.put,zq1,zq2,zq3,i64_w,i32_w];rfl
 refine pure_ (i:=9) (N:=some 46) (v:=?_) (a':=?_) #[zt,zt,zt,zt,zt,zt,zt,zt,zt,zt,zf,zf,zf,zf,zf,zf,zf] rfl rfl (by kernel_rfl) (fun _ _ _ h=>h) (Or.inl ⟨by rfl,?_⟩) ?_ ?_;rotate_left
 ·intro w';go_simp;with_reducible rfl
 rotate_left
 ·simp only [Act.put,zq1,zq2,zq3,i64_w,i32_w];rfl
 refine pure_ (i:=12) (N:=some 49) (v:=?_) (a':=?_) #[zt,zt,zt,zt,zt,zt,zt,zt,zt,zt,zf,zf,zt,zf,zf,zf,zf] rfl rfl (by kernel_rfl) (fun _ _ _ h=>h) (Or.inl ⟨by rfl,?_⟩) ?_ ?_;rotate_left
 ·intro w';go_simp;with_reducible rfl
 rotate_left
 ·simp only [Act.put,zq1,zq2,zq3,i64_w,i32_w];rfl
 refine take_ (i:=11) (N:=some 48) (v:=?_) (a':=?_) #[zt,zt,zt,zt,zt,zt,zt,zt,zt,zt,zf,zt,zt,zf,zf,zf,zf] rfl rfl (by kernel_rfl) (fun _ _ _ h=>h) (Or.inl ⟨by rfl,?_⟩) hHeld ?_ ?_;rotate_left
 ·rintro w' ⟨s0,s1,s2,s3,s4,s5⟩;go_simp;with_reducible rfl
 rotate_left
 ·simp only [Act.put,zq1,zq2,zq3,i64_w,i32_w];rfl
 refine one_ (i:=10) (N:=some 47) #[zt,zt,zt,zt,zt,zt,zt,zt,zt,zt,zt,zt,zt,zf,zf,zf,zf] rfl rfl (by kernel_rfl) (by decide) (fun K hK=>?_);refine goes_ Tryz.func33 (by kernel_rfl) rfl #[.pointer (some ⟨g,0,none⟩),.int .i64 a] (by rfl) rfl rfl (by simp only [List.map_toArray,List.map_cons,List.map_nil];rfl) ?_;refine (farTo HRT.out FT6.out.gr (fun v _ _=>prev_in) H3.out H4.out (a:=a)).mono ?_;rintro e w7 ⟨v,d,rfl,hR,hd,hn_,hG,hF⟩;have hq:=HQ2.out d hd hn_;rw [hq] at hR;clear hq hd hn_;obtain ⟨A7_,c7_,rfl⟩:=Kd.R_slice hR;refine ⟨_,rfl,?_⟩;have FT7:=Aside0.mk (FT6.out.fr hG hF HLG.out);have HR7:=Aside0.mk (Kd.R_lower hR (Nat.zero_le _));clear hR hG hF;refine hK.out _ _ ⟨(HK.out _ FT7.out).1,(HK.out _ FT7.out).2.1,(HK.out _ FT7.out).2.2.1,(HK.out _ FT7.out).2.2.2.1,(HK.out _ FT7.out).2.2.2.2.1,(HK.out _ FT7.out).2.2.2.2.2⟩ (fun hHeld=>?_);clear hK K;refine norm_ (a':=?_) ?_ ?_;rotate_left
 ·show Act.put _ (some 47) _=_;simp only [Act.put,zq1,zq2,zq3,i64_w,i32_w];rfl
 refine one_ (i:=13) (N:=some 50) #[zt,zt,zt,zt,zt,zt,zt,zt,zt,zt,zt,zt,zt,zt,zf,zf,zf] rfl rfl (by kernel_rfl) (by decide) (fun K hK=>?_);refine goes_ Tryz.func34 (by kernel_rfl) rfl #[.agg #[.int .i64 p.f0,.int .i64 p.f1,.int .i64 p.f2,.slice A3 p.f3.length c3,.slice A4 p.f4.length c4,.slice A5 p.f5.length c5],.int .i64 a] (by rfl) rfl rfl (by simp only [List.map_toArray,List.map_cons,List.map_nil];rfl) ?_;refine (z0w.calls 500000 p.f0 p.f1 p.f2 A3 c3 p.f3 A4 c4 p.f4 A5 c5 p.f5 a o2 w7 (HCA.out _ FT7.out).1 hc3 (HCA.out _ FT7.out).2.1 hc4 (HCA.out _ FT7.out).2.2 hc5 HRF2.out).mono ?_;rintro e w8 ⟨v,rfl,hR,hB⟩;obtain ⟨A8_,c8_,rfl⟩:=Kd.R_slice hR;refine ⟨_,rfl,?_⟩;have FT8:=Aside0.mk (FT7.out.below hB);have HR7n:=Aside0.mk (r_below HR7.out hB);have HR8:=Aside0.mk (Kd.R_lower hR (Nat.zero_le _));clear hR hB;refine hK.out _ _ ⟨(HK.out _ FT8.out).1,(HK.out _ FT8.out).2.1,(HK.out _ FT8.out).2.2.1,(HK.out _ FT8.out).2.2.2.1,(HK.out _ FT8.out).2.2.2.2.1,(HK.out _ FT8.out).2.2.2.2.2⟩ (fun hHeld=>?_);clear hK K;refine norm_ (a':=?_) ?_ ?_;rotate_left
 ·show Act.put _ (some 50) _=_;simp only [Act.put,zq1,zq2,zq3,i64_w,i32_w];rfl
 refine one_ (i:=14) (N:=some 51) #[zt,zt,zt,zt,zt,zt,zt,zt,zt,zt,zt,zt,zt,zt,zt,zf,zf] rfl rfl (by kernel_rfl) (by decide) (fun K hK=>?_);refine goes_ Tryz.func19 (by kernel_rfl) rfl #[.slice A7_ o2.length c7_,.slice A8_ o2.length c8_] (by rfl) rfl rfl (by simp only [List.map_toArray,List.map_cons,List.map_nil];rfl) ?_;refine (ints_calls true (Kd.R_reads' HR7n.out).2.2 (Kd.R_reads' HR7n.out).2.1 (Kd.R_reads' HR8.out).2.2 (Kd.R_reads' HR8.out).2.1 (Nat.le_trans HOL2.out (by decide)) (by simp)).mono ?_;rintro e w_ ⟨rfl,nd2,rfl⟩;refine ⟨_,rfl,?_⟩;have FT9:=Aside0.mk (FT8.out.below (z2f (Below.refl _ _) nd2));refine hK.out _ _ ⟨(HK.out _ FT9.out).1,(HK.out _ FT9.out).2.1,(HK.out _ FT9.out).2.2.1,(HK.out _ FT9.out).2.2.2.1,(HK.out _ FT9.out).2.2.2.2.1,(HK.out _ FT9.out).2.2.2.2.2⟩ (fun hHeld=>?_);clear hK K;refine norm_ (a':=?_) ?_ ?_;rotate_left
 ·show Act.put _ (some 51) _=_;simp only [Act.put,zq1,zq2,zq3,i64_w,i32_w];rfl
 refine pure_ (i:=15) (N:=some 52) (v:=?_) (a':=?_) #[zt,zt,zt,zt,zt,zt,zt,zt,zt,zt,zt,zt,zt,zt,zt,zt,zf] rfl rfl (by kernel_rfl) (fun _ _ _ h=>h) (Or.inl ⟨by rfl,?_⟩) ?_ ?_;rotate_left
 ·intro w';go_simp;with_reducible rfl
 rotate_left
 ·simp only [Act.put,zq1,zq2,zq3,i64_w,i32_w];rfl
 refine pure_ (i:=16) (N:=some 4) (v:=?_) (a':=?_) #[zt,zt,zt,zt,zt,zt,zt,zt,zt,zt,zt,zt,zt,zt,zt,zt,zt] rfl rfl (by kernel_rfl) (fun _ _ _ h=>h) (Or.inl ⟨by rfl,?_⟩) ?_ ?_;rotate_left
 ·intro w';go_simp;with_reducible rfl
 rotate_left
 ·simp only [Act.put,zq1,zq2,zq3,i64_w,i32_w];rfl
 refine done_ (by kernel_rfl) ?_;go_wp2;go_ret
 exact ⟨rfl,HEND.out _ FT9.out.bel⟩
end Go.Proofs.YtcbnhfnnjkkceaaGreat.X
end
section
namespace Go.Proofs.YtcbnhfnnjkkceaaGreat.X
open Go.RowKit Go.Proofs.YtcbnhfnnjkkceaaGreatW.PrintWords Go.Proofs.YtcbnhfnnjkkceaaGreat.Gr
theorem add_add (a:Addr) (i j:Nat):(a.add i).add j=a.add (i+j):=by
 unfold Addr.add
 by_cases hi:i=0
 ·subst hi;simp
 ·rw [if_neg hi]
  by_cases hj:j=0
  ·subst hj;simp [hi]
  ·rw [if_neg hj,if_neg (by omega)];simp [Nat.add_assoc]
theorem open_K {α H:Type} (dk:Kd α) {enc:TypeId × Value→H} {P:Program} {W:World} {t e:TypeId} {fuel:Nat} {cs:List Value} {y:DataW H × List MemPlace} (Q:α→Prop) (ht:P.underlying t=some (.slice e)) (hc:P.cellsOf e=dk.sz)
  (hel:∀ n cs' y,DataW.trod enc P W 0 (fun _=>true) true n e cs'=some y→∃ x,dk.K W x cs'∧Q x)
  (h:DataW.trod enc P W 0 (fun _=>true) true fuel t cs=some y) :
  ∃ (A:Option Addr) (cap:Nat) (xs:List α),cs=[.slice A xs.length cap]∧dk.C W A xs.length xs∧xs.length≤cap∧∀ x ∈ xs,Q x:=by
 rcases Deep.open_slice ht h with ⟨h1,_⟩|⟨a,len,cap,m,n,D,Pl,h1,_,hl,hm,hmm,_,hx⟩
 ·exact ⟨none,0,[],h1,Kd.C_nil dk W,Nat.le_refl _,by simp⟩
 ·have hM:maxLen≤9223372036854775807:=by decide
  have hmm:m=cap:=hmm;have hex:∀ i,i < len→∃ x,(∃ cs',W.cells? 0 (a.add (i * dk.sz)) dk.sz=some cs'∧dk.K W x cs')∧Q x:=fun i hi=>by
   obtain ⟨cs',hcs,htr⟩:=hx i (by omega);rw [hc] at hcs;obtain ⟨x,hk,hq⟩:=hel n cs' _ htr;exact ⟨x,⟨cs',hcs,hk⟩,hq⟩
  have hlist:∀ k,k≤len→∃ xs:List α,xs.length=k∧∀ i x,xs[i]?=some x→(∃ cs',W.cells? 0 (a.add (i * dk.sz)) dk.sz=some cs'∧dk.K W x cs')∧Q x:=by
   intro k
   induction k with
   | zero=>exact fun _=>⟨[],rfl,fun i x hi=>by simp at hi⟩
   | succ k ih =>
    intro hk;obtain ⟨xs,hxl,hxs⟩:=ih (by omega);obtain ⟨x,hx'⟩:=hex k (by omega);refine ⟨xs ++ [x],by simp [hxl],fun i z hi=>?_⟩
    by_cases e:i < k
    ·rw [List.getElem?_append_left (by omega)] at hi;exact hxs i z hi
    ·rw [List.getElem?_append_right (by omega)] at hi;have hik:i - xs.length=0:=by
      have:=(List.getElem?_eq_some_iff.1 hi).1;simp at this;omega
     rw [hik] at hi;obtain rfl:x=z:=by simpa using hi
     obtain rfl:i=k:=by omega
     exact hx'
  obtain ⟨xs,hxl,hxs⟩:=hlist len (Nat.le_refl _);refine ⟨some a,cap,xs,by rw [hxl];exact h1,⟨rfl,by omega,fun _=>⟨a,rfl,fun j p hj=>?_⟩⟩,by omega,fun x hx1=>?_⟩
  ·obtain ⟨⟨cs',hcs,hk⟩,_⟩:=hxs j p hj;obtain ⟨_,hcl,hce⟩:=World.cells?_some hcs;refine ⟨cs',hcl,hk,fun i u hu=>?_⟩;have hi:i < dk.sz:=by have:=(List.getElem?_eq_some_iff.1 hu).1;omega
   rw [← add_add];exact (hce i hi).trans hu
  ·obtain ⟨i,hi⟩:=List.getElem?_of_mem hx1;exact (hxs i x hi).2
theorem lit_i64 {n:Int} (h:(Lit.int .i64 n).wf=true):-9223372036854775808≤n∧n≤9223372036854775807:=by
 simpa [Lit.wf,IntKind.min,IntKind.max,IntKind.bits,IntKind.signed] using h
theorem lit_u64 {n:Int} (h:(Lit.int .u64 n).wf=true):0≤n:=by
 have:0≤n∧n≤18446744073709551615:=by simpa [Lit.wf,IntKind.min,IntKind.max,IntKind.bits,IntKind.signed] using h
 exact this.1
theorem array6 {α:Type} {cs:Array α} (h:cs.size=6):∃ c0 c1 c2 c3 c4 c5,cs=#[c0,c1,c2,c3,c4,c5]:=by
 obtain ⟨l⟩:=cs
 match l,h with
 | [c0,c1,c2,c3,c4,c5],_=>exact ⟨c0,c1,c2,c3,c4,c5,rfl⟩
theorem list5 {α:Type} {cs:List α} (h:cs.length=5):∃ c0 c1 c2 c3 c4,cs=[c0,c1,c2,c3,c4]:=by
 match cs,h with
 | [c0,c1,c2,c3,c4],_=>exact ⟨c0,c1,c2,c3,c4,rfl⟩
theorem ci_int:Tryz.prog.cellsOf 3=1:=by kernel_rfl
theorem ci_u8:Tryz.prog.cellsOf 5=1:=by kernel_rfl
theorem ci_u64:Tryz.prog.cellsOf 43=1:=by kernel_rfl
theorem ci_bs:Tryz.prog.cellsOf 22=1:=by kernel_rfl
theorem ci_is:Tryz.prog.cellsOf 23=1:=by kernel_rfl
theorem ci_cs:Tryz.prog.cellsOf 24=1:=by kernel_rfl
theorem ci_ins:Tryz.prog.cellsOf 79=5:=by kernel_rfl
theorem ci_im:Tryz.prog.cellsOf 26=6:=by kernel_rfl
section
variable {H:Type} {enc:TypeId × Value→H} {W:World}
theorem el_ins (n:Nat) (cs:List Value) (y:DataW H × List MemPlace) (h:DataW.trod enc Tryz.prog W 0 (fun _=>true) true n 79 cs=some y):∃ x,k79.K W x cs∧0≤x.f4:=by
 obtain ⟨xs,m,_,_,hl,hn,hf⟩:=DataW.trod_struct Tryz.underlying79 h;rw [ci_ins] at hl;obtain ⟨c0,c1,c2,c3,c4,rfl⟩:=list5 hl
 match xs,hn with
 | [y0,y1,y2,y3,y4],_ =>
  have h0:=hf 0 _ rfl;have h1:=hf 1 _ rfl;have h2:=hf 2 _ rfl;have h3:=hf 3 _ rfl;have h4:=hf 4 _ rfl;simp only [ci_int,ci_u64,List.drop_zero,List.drop_succ_cons,List.take_succ_cons,List.take_zero,List.getElem?_cons_zero,List.getElem?_cons_succ] at h0 h1 h2 h3 h4;obtain ⟨a0,e0,_,_⟩:=DataW.trod_int Tryz.underlying3 h0;obtain ⟨a1,e1,_,_⟩:=DataW.trod_int Tryz.underlying3 h1;obtain ⟨a2,e2,_,_⟩:=DataW.trod_int Tryz.underlying3 h2;obtain ⟨a3,e3,_,_⟩:=DataW.trod_int Tryz.underlying3 h3;obtain ⟨a4,e4,_,w4⟩:=DataW.trod_int Tryz.underlying43 h4;cases e0;cases e1;cases e2;cases e3;cases e4;exact ⟨⟨a0,a1,a2,a3,a4⟩,k79_mk W _,lit_u64 w4⟩
theorem el_int (n:Nat) (cs:List Value) (y:DataW H × List MemPlace) (h:DataW.trod enc Tryz.prog W 0 (fun _=>true) true n 3 cs=some y):∃ x,(Kd.int .i64).K W x cs∧(-9223372036854775808≤x∧x≤9223372036854775807):=by
 obtain ⟨a,e,_,w⟩:=DataW.trod_int Tryz.underlying3 h;exact ⟨a,e,lit_i64 w⟩
theorem el_u8 (n:Nat) (cs:List Value) (y:DataW H × List MemPlace) (h:DataW.trod enc Tryz.prog W 0 (fun _=>true) true n 5 cs=some y):∃ x,(Kd.int .u8).K W x cs∧True:=by
 obtain ⟨a,e,_,w⟩:=DataW.trod_int Tryz.underlying5 h;exact ⟨a,e,trivial⟩
theorem open_image {r:Reach} {base:Nat} {v:Value} {d:DataW H} {ps:List MemPlace} (hv:Value.okWide Tryz.prog W r base 26 v) (h:DataW.Trod enc Tryz.prog W 0 (fun _=>true) true 26 v d ps) :
  ∃ (p:Im) (A3:Option Addr) (c3:Nat) (A4:Option Addr) (c4:Nat) (A5:Option Addr) (c5:Nat),v=.agg #[.int .i64 p.f0,.int .i64 p.f1,.int .i64 p.f2,.slice A3 p.f3.length c3,.slice A4 p.f4.length c4,.slice A5 p.f5.length c5] ∧
   Kd.C (Kd.int .u8) W A3 p.f3.length p.f3∧p.f3.length≤c3∧Kd.C (Kd.int .i64) W A4 p.f4.length p.f4∧p.f4.length≤c4∧Kd.C k79 W A5 p.f5.length p.f5∧p.f5.length≤c5∧wfP p:=by
 obtain ⟨cs,rfl,hsz⟩:=Go.WideShapes.okWide_struct Tryz.underlying26 hv;rw [ci_im] at hsz;obtain ⟨x0,x1,x2,x3,x4,x5,rfl⟩:=array6 hsz;obtain ⟨fuel,hfu⟩:=h;obtain ⟨xs,m,_,_,hl,hn,hf⟩:=DataW.trod_struct Tryz.underlying26 hfu
 match xs,hn with
 | [y0,y1,y2,y3,y4,y5],_ =>
  have h0:=hf 0 _ rfl;have h1:=hf 1 _ rfl;have h2:=hf 2 _ rfl;have h3:=hf 3 _ rfl;have h4:=hf 4 _ rfl;have h5:=hf 5 _ rfl;simp only [Value.cells,ci_int,ci_bs,ci_is,ci_cs,List.drop_zero,List.drop_succ_cons,List.take_succ_cons,List.take_zero,List.getElem?_cons_zero,List.getElem?_cons_succ] at h0 h1 h2 h3 h4 h5;obtain ⟨a0,e0,_,_⟩:=DataW.trod_int Tryz.underlying3 h0;obtain ⟨a1,e1,_,_⟩:=DataW.trod_int Tryz.underlying3 h1;obtain ⟨a2,e2,_,_⟩:=DataW.trod_int Tryz.underlying3 h2;obtain ⟨A3,c3,l3,e3,hC3,hc3,_⟩:=open_K (Kd.int .u8) _ Tryz.underlying22 ci_u8 el_u8 h3;obtain ⟨A4,c4,l4,e4,hC4,hc4,hw4⟩:=open_K (Kd.int .i64) _ Tryz.underlying23 ci_int el_int h4;obtain ⟨A5,c5,l5,e5,hC5,hc5,hw5⟩:=open_K k79 _ Tryz.underlying24 ci_ins el_ins h5;cases e0;cases e1;cases e2;cases e3;cases e4;cases e5;exact ⟨⟨a0,a1,a2,l3,l4,l5⟩,A3,c3,A4,c4,A5,c5,rfl,hC3,hc3,hC4,hc4,hC5,hc5,hw4,hw5⟩
end
end Go.Proofs.YtcbnhfnnjkkceaaGreat.X
end
section
namespace Go.Proofs.YtcbnhfnnjkkceaaGreat.farTells
open Go.ChangeShapes Go.WideShapes Go.ChangeAt Go.RowKit
theorem own:ownKnob Tryz.prog.godebug=none:=by kernel_rfl
theorem laidOut:laidOutB Tryz.prog=true:=by kernel_rfl
theorem lifted (os:Os) (started:os.Started) (H:Type) (enc:TypeId × Value→H) :
  ReturnsInHanded {} Tryz.checked os 4 .any (Rows.farTellsSpec.pre6 enc Tryz.prog Tryz.f4 Rows.farTellsRow.domain false) (Rows.farTellsSpec.post enc Tryz.prog Tryz.f4 false true false false):=by
 refine returnsInHanded_of_change_sized (C:=Tryz.checked) own started (by kernel_rfl) Tryz.func4
  (ChangeSpec.witness6 (enc:=enc) (C:=Tryz.checked) false ⟨#[],#[.agg #[.int .i64 0,.int .i64 0,.int .i64 0,.slice none 0 0,.slice none 0 0,.slice none 0 0],.int .i64 0],[]⟩ 8 (by kernel_rfl) (by kernel_rfl) (by kernel_rfl) (by kernel_rfl)) ?_
 intro W base args ds gs before hval0 hW hcnd hsz0 _;have hsz:(DataW.weightsEach Tryz.prog (Tryz.f4.params.toList ++ Rows.farTellsSpec.plain.varTypes Tryz.prog) (ds ++ gs)).all (·≤reachBytes)=true:=hsz0;have hval:∀ (j:Nat) t v,Tryz.f4.params[j]?=some t→args[j]?=some v→Value.okWide Tryz.prog W .any base t v:=hval0;have hW':=hW;obtain ⟨p,q,hA0,hV,rfl,hfz,hnd⟩:=hW;have hA:DataW.TrodAll enc Tryz.prog W 0 (fun _=>true) true Tryz.f4.params.toList args.toList ds p:=hA0;rw [Tryz.params4] at hA hval hsz;obtain ⟨v0,vs0,d0,ds0,p0,q0,hargs,rfl,rfl,h0,r0⟩:=trodAll_cons hA;obtain ⟨v1,vs1,d1,ds1,p1,q1,rfl,rfl,rfl,h1,r1⟩:=trodAll_cons r0;obtain ⟨rfl,rfl,rfl⟩:=trodAll_nil r1;obtain rfl:args=#[v0,v1]:=by cases args;simp_all
 obtain ⟨rfl,rfl⟩:=trodVars_none hV;have k0:=h0;have lt0:∀ x ∈ p0,x.block < W.heap.size:=by obtain ⟨m,hm⟩:=k0;exact DataW.trod_lt m _ _ _ hm
 obtain ⟨im0,A3_0,c3_0,A4_0,c4_0,A5_0,c5_0,rfl,hr3_0,hc3_0,hr4_0,hc4_0,hr5_0,hc5_0,hw0⟩:=X.open_image (hval 0 26 v0 rfl rfl) h0;obtain ⟨a1,rfl,rfl,rfl,w1⟩:=open_int Tryz.underlying3 (hval 1 3 v1 rfl rfl) h1;clear hA0 hval0 hsz0 hsz;refine (X.farTells_law im0 A3_0 c3_0 A4_0 c4_0 A5_0 c5_0 a1 W hr3_0 hc3_0 hr4_0 hc4_0 hr5_0 hc5_0 hw0 w1).mono fun e W' ⟨he,bel⟩=>?_
 subst he;exact ⟨_,rfl,_,_,_,[],_,[],hW',trodAll_mk1 (shut_bool Tryz.underlying4 _),(trodAll_cons_mk (Below.trod laidOut (by kernel_rfl) (of_decide_eq_true (by kernel_rfl)) k0 bel lt0) (trodAll_cons_mk (shut_int Tryz.underlying3 w1) trodAll_mk0)),rfl,bel.frame _,fun h=>by cases h⟩
theorem over:Rows.farTellsRow.holds Tryz.pinned (OpenSpec.ofChange Rows.farTellsSpec) :=
 OpenClaim.holds_of_wide 4 Tryz.f4 rfl rfl rfl rfl rfl rfl rfl ⟨rfl,rfl,rfl,rfl,rfl⟩ rfl rfl rfl rfl rfl (by kernel_rfl) Tryz.func4 (by kernel_rfl)
  (of_decide_eq_true (by kernel_rfl)) (by unfold Func.isWrapper;first|(rw [if_pos (by decide +kernel)];kernel_rfl)|(rw [if_neg (by decide +kernel)];exact ⟨rfl,rfl⟩))
  (fun os started H enc _=>lifted os started H enc)
theorem proved:Rows.FarTellsSaid:=over
#print axioms proved
end Go.Proofs.YtcbnhfnnjkkceaaGreat.farTells
namespace Go.Proofs.YtcbnhfnnjkkceaaGreat
theorem farTells_holds:Rows.FarTellsSaid:=farTells.proved
end Go.Proofs.YtcbnhfnnjkkceaaGreat
end
