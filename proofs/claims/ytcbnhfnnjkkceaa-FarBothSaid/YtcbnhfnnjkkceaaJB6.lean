/- For the statement of the row : what its proof needs of the text B6. -/
import Derived.Deep.Slices
import Derived.ChangeArms
import Derived.WideShapes
import Derived.DataReads
import Derived.Test.YtcbnhfnnjkkceaaJB1
import Derived.Test.YtcbnhfnnjkkceaaJB2
import Derived.Test.YtcbnhfnnjkkceaaJB3
import Derived.Test.YtcbnhfnnjkkceaaJB4
import Derived.Test.YtcbnhfnnjkkceaaJB5
set_option linter.constructorNameAsVariable false
set_option linter.unusedSimpArgs false
set_option linter.unusedVariables false

section
namespace Go.Proofs.Ytcbnhfnnjkkceaa.X
open Go.RowKit Go.Proofs.YtcbnhfnnjkkceaaW.PrintWords Go.Proofs.YtcbnhfnnjkkceaaW.PrintLast Go.Proofs.YtcbnhfnnjkkceaaW.PrintMore Go.Proofs.Ytcbnhfnnjkkceaa.Gr
theorem GrM.below {w w1 : World} {g B : Nat} {p : Im} (h : GrM w g B p) (hb : Below w.heap.size w w1) : GrM w1 g B p:=by
 obtain ⟨h0,dv,fv,cv,bs,n,V,h1,h2,h3,h4⟩:=h
 exact ⟨h0,dv,fv,cv,bs,n,V,h1.keep fun k hk=>hb.block k (h1.ne h2 hk).1,(hb.block g (blk_lt h2)).trans h2,h3.keep fun i hi=>hb.block i (h3.in_lt hi).2.1,h4⟩
theorem GrM.lt {w : World} {g B : Nat} {p : Im} (h : GrM w g B p) : g < w.heap.size:=by
 obtain ⟨h0,dv,fv,cv,bs,n,V,h1,h2,h3,h4⟩:=h
 exact blk_lt h2
/-- What a row leaves. -/
def RowPost (w : World) (g B : Nat) (p : Im) (l : List Int) (e : Ending) (w' : World) : Prop:=∃ v,e = .returned v ∧ Kd.R (Kd.int .i64) 3 w' w.heap.size (fun _=>True) v l ∧ GrM w' g B p ∧ Fr w w' (fun i=>i = g)
/-- .. and that its blocks are those that were its own, or new. -/
def RowPost2 (w : World) (g B : Nat) (p : Im) (l : List Int) (e : Ending) (w' : World) : Prop:=RowPost w g B p l e w' ∧ ∀ Y,GrY w g B p Y → GrY w' g B p (fun i=>Y i ∨ w.heap.size ≤ i)
set_option maxRecDepth 100000 in
set_option maxHeartbeats 4000000 in
theorem rowNext2 {w : World} {g B b : Nat} {p : Im} (hp : Rt p) (hg : Gr w g B p) (hb : w.heap[b]? = some (.cells #[.pointer (some ⟨g,0,none⟩)] 29 (0,0))) {x : Int} (hx : Gr.wfI x) :
  Calls Try.prog 23 #[.pointer (some ⟨g,0,none⟩),.func (.func 24) #[] #[.pointer (some ⟨b,0,none⟩)],.int .i64 x] w (RowPost2 w g B p (nextL p x)):=by
 have HDO:=Aside0.mk (do_calls2 hp hg)
 have HLT:=Aside0.mk hg.lt
 have hbg : b ≠ g:=fun e=>by
  obtain ⟨c,hc⟩:=hg.typed
  rw [e,hc] at hb
  injection hb with hb
  injection hb with _ hb
  exact absurd hb (by decide)
 have HB:=Aside0.mk hb
 have hmf : ∀ (fn : Fn) (first cap : Array Value) (w : World),(Instr.makeFunc fn first cap).run Try.prog w = .ok (.func fn first cap) w:=fun _ _ _ _=>rfl
 clear hg hb
 go_enter Try.func23,Try.ntmps23
 go_wp2_with fail
 refine HDO.out.mono ?_
 rintro e w1 ⟨rfl,hM,hF,hY⟩
 have HY:=Aside0.mk hY
 clear hY
 have HM:=Aside0.mk hM
 have HF:=Aside0.mk hF
 obtain ⟨_,dv,fv,cv,bs,n,V,hgp,hh,ht,hn⟩:=hM
 have c0:=cell_of_one ((hF.block b (blk_lt HB.out) hbg).trans HB.out)
 have c1 : w1.cell? ⟨g,9 + 0,none⟩ = some (.map (some (bs 0))):=(z02 hh (9 + 0)).trans rfl
 have hlk:=(ht.maps 0 (by omega)).look mt hx
 have hrow:=ints_R (ht.rows 0 x (by omega) hx)
 have hlen:=ht.len 0 x (by omega) hx
 obtain ⟨A,c,ev⟩:=Kd.R_slice hrow
 rw [ev] at hlk hrow
 have HCL:=Aside0.mk (clone_int A c (rowsG p 0 x) w1 (Kd.R_reads' hrow).2.2 (Kd.R_reads' hrow).2.1 (by omega))
 have HSZ:=Aside0.mk hF.size
 clear hF hgp hh ht hrow hlen ev
 go_wp2_with (first | (go_at_call 35; refine HCL.out.mono ?_; rintro e w2 ⟨v,rfl,hR,hB2⟩) | go_in)
 go_ret
 exact ⟨⟨_,rfl,Kd.R_lower hR HSZ.out,HM.out.below hB2,HF.out.trans (Fr.mono (Fr.of_below hB2) fun i h1 h2=>by omega)⟩,fun Y h=>(HY.out Y h).below hB2⟩
set_option maxRecDepth 100000 in
set_option maxHeartbeats 4000000 in
theorem graphNext2 {w : World} {g B : Nat} {p : Im} (hp : Rt p) (hg : Gr w g B p) {x : Int} (hx : Gr.wfI x) :
  Calls Try.prog 12 #[.pointer (some ⟨g,0,none⟩),.int .i64 x] w (RowPost2 w g B p (nextL p x)):=by
 have hbl:=z04 (Below.refl w.heap.size w) (.cells #[.pointer (some ⟨g,0,none⟩)] 29)
 have HR:=Aside0.mk (rowNext2 hp (hg.below hbl) (blk_new w (.cells #[.pointer (some ⟨g,0,none⟩)] 29)) hx)
 have HF:=Aside0.mk (Fr.mono (Fr.of_below hbl) (S':=fun i=>i = g) fun i h1 h2=>by omega)
 have HSZ:=Aside0.mk hbl.size
 have HBL:=Aside0.mk hbl
 have hmf : ∀ (fn : Fn) (first cap : Array Value) (w : World),(Instr.makeFunc fn first cap).run Try.prog w = .ok (.func fn first cap) w:=fun _ _ _ _=>rfl
 clear hg hbl
 go_enter Try.func12,Try.ntmps12
 go_wp2_with fail
 refine HR.out.mono ?_
 rintro e w2 ⟨⟨v,rfl,hR,hM,hF⟩,hY⟩
 have HY:=Aside0.mk hY
 clear hY
 have HRR:=Aside0.mk hR
 have HM:=Aside0.mk hM
 have HF2:=Aside0.mk hF
 clear hR hM hF
 go_wp2
 go_ret
 exact ⟨⟨_,rfl,Kd.R_lower HRR.out HSZ.out,HM.out,HF.out.trans HF2.out⟩,fun Y h=>(HY.out Y (h.below HBL.out)).mono fun i hi=>hi.elim .inl fun h2=>.inr (Nat.le_trans HSZ.out h2)⟩
set_option maxRecDepth 100000 in
set_option maxHeartbeats 4000000 in
theorem rowPrev2 {w : World} {g B b : Nat} {p : Im} (hp : Rt p) (hg : Gr w g B p) (hb : w.heap[b]? = some (.cells #[.pointer (some ⟨g,0,none⟩)] 29 (0,0))) {x : Int} (hx : Gr.wfI x) :
  Calls Try.prog 23 #[.pointer (some ⟨g,0,none⟩),.func (.func 25) #[] #[.pointer (some ⟨b,0,none⟩)],.int .i64 x] w (RowPost2 w g B p (prevL p x)):=by
 have HDO:=Aside0.mk (do_calls2 hp hg)
 have HLT:=Aside0.mk hg.lt
 have hbg : b ≠ g:=fun e=>by
  obtain ⟨c,hc⟩:=hg.typed
  rw [e,hc] at hb
  injection hb with hb
  injection hb with _ hb
  exact absurd hb (by decide)
 have HB:=Aside0.mk hb
 have hmf : ∀ (fn : Fn) (first cap : Array Value) (w : World),(Instr.makeFunc fn first cap).run Try.prog w = .ok (.func fn first cap) w:=fun _ _ _ _=>rfl
 clear hg hb
 go_enter Try.func23,Try.ntmps23
 go_wp2_with fail
 refine HDO.out.mono ?_
 rintro e w1 ⟨rfl,hM,hF,hY⟩
 have HY:=Aside0.mk hY
 clear hY
 have HM:=Aside0.mk hM
 have HF:=Aside0.mk hF
 obtain ⟨_,dv,fv,cv,bs,n,V,hgp,hh,ht,hn⟩:=hM
 have c0:=cell_of_one ((hF.block b (blk_lt HB.out) hbg).trans HB.out)
 have c1 : w1.cell? ⟨g,9 + 1,none⟩ = some (.map (some (bs 1))):=(z02 hh (9 + 1)).trans rfl
 have hlk:=(ht.maps 1 (by omega)).look mt hx
 have hrow:=ints_R (ht.rows 1 x (by omega) hx)
 have hlen:=ht.len 1 x (by omega) hx
 obtain ⟨A,c,ev⟩:=Kd.R_slice hrow
 rw [ev] at hlk hrow
 have HCL:=Aside0.mk (clone_int A c (rowsG p 1 x) w1 (Kd.R_reads' hrow).2.2 (Kd.R_reads' hrow).2.1 (by omega))
 have HSZ:=Aside0.mk hF.size
 clear hF hgp hh ht hrow hlen ev
 go_wp2_with (first | (go_at_call 35; refine HCL.out.mono ?_; rintro e w2 ⟨v,rfl,hR,hB2⟩) | go_in)
 go_ret
 exact ⟨⟨_,rfl,Kd.R_lower hR HSZ.out,HM.out.below hB2,HF.out.trans (Fr.mono (Fr.of_below hB2) fun i h1 h2=>by omega)⟩,fun Y h=>(HY.out Y h).below hB2⟩
set_option maxRecDepth 100000 in
set_option maxHeartbeats 4000000 in
theorem graphPrev2 {w : World} {g B : Nat} {p : Im} (hp : Rt p) (hg : Gr w g B p) {x : Int} (hx : Gr.wfI x) :
  Calls Try.prog 13 #[.pointer (some ⟨g,0,none⟩),.int .i64 x] w (RowPost2 w g B p (prevL p x)):=by
 have hbl:=z04 (Below.refl w.heap.size w) (.cells #[.pointer (some ⟨g,0,none⟩)] 29)
 have HR:=Aside0.mk (rowPrev2 hp (hg.below hbl) (blk_new w (.cells #[.pointer (some ⟨g,0,none⟩)] 29)) hx)
 have HF:=Aside0.mk (Fr.mono (Fr.of_below hbl) (S':=fun i=>i = g) fun i h1 h2=>by omega)
 have HSZ:=Aside0.mk hbl.size
 have HBL:=Aside0.mk hbl
 have hmf : ∀ (fn : Fn) (first cap : Array Value) (w : World),(Instr.makeFunc fn first cap).run Try.prog w = .ok (.func fn first cap) w:=fun _ _ _ _=>rfl
 clear hg hbl
 go_enter Try.func13,Try.ntmps13
 go_wp2_with fail
 refine HR.out.mono ?_
 rintro e w2 ⟨⟨v,rfl,hR,hM,hF⟩,hY⟩
 have HY:=Aside0.mk hY
 clear hY
 have HRR:=Aside0.mk hR
 have HM:=Aside0.mk hM
 have HF2:=Aside0.mk hF
 clear hR hM hF
 go_wp2
 go_ret
 exact ⟨⟨_,rfl,Kd.R_lower HRR.out HSZ.out,HM.out,HF.out.trans HF2.out⟩,fun Y h=>(HY.out Y (h.below HBL.out)).mono fun i hi=>hi.elim .inl fun h2=>.inr (Nat.le_trans HSZ.out h2)⟩
set_option maxRecDepth 100000 in
set_option maxHeartbeats 4000000 in
/-- A graph's image is handed back, a copy. -/
theorem graphImage {w : World} {g B : Nat} {p : Im} (hg : Gr w g B p) (hl3 : p.f3.length ≤ 100) (hl4 : p.f4.length ≤ 40) (hl5 : p.f5.length ≤ 300) :
  Calls Try.prog 30 #[.pointer (some ⟨g,0,none⟩)] w fun e w'=>∃ v3 v4 v5,e = .returned (.agg #[.int .i64 p.f0,.int .i64 p.f1,.int .i64 p.f2,v3,v4,v5]) ∧
   Kd.R (Kd.int .u8) 5 w' w.heap.size (fun _=>True) v3 p.f3 ∧ Kd.R (Kd.int .i64) 3 w' w.heap.size (fun _=>True) v4 p.f4 ∧ Kd.R k45 45 w' w.heap.size (fun _=>True) v5 p.f5 ∧ Below w.heap.size w w':=by
 obtain ⟨hB,dv,fv,cv,hgp,hh⟩:=hg
 have hcs : ∃ d st m,w.heap[g]? = some (.cells (GrCells p dv fv cv d st m) 63 (0,0)):=by
  rcases hh with hh | ⟨bs,n,V,hh,_⟩
  ·exact ⟨_,_,_,hh⟩
  ·exact ⟨_,_,_,hh⟩
 obtain ⟨d,st,m,hc⟩:=hcs
 clear hh
 obtain ⟨A3,n3,c3,e3⟩ : ∃ A n c,dv = .slice A n c:=by obtain ⟨A,c,h⟩:=Kd.R_slice hgp.d; exact ⟨_,_,_,h⟩
 obtain ⟨A4,n4,c4,e4⟩ : ∃ A n c,fv = .slice A n c:=by obtain ⟨A,c,h⟩:=Kd.R_slice hgp.f; exact ⟨_,_,_,h⟩
 obtain ⟨A5,n5,c5,e5⟩ : ∃ A n c,cv = .slice A n c:=by obtain ⟨A,c,h⟩:=Kd.R_slice hgp.c; exact ⟨_,_,_,h⟩
 subst e3
 subst e4
 subst e5
 obtain rfl:=(Kd.R_reads' hgp.d).1
 obtain rfl:=(Kd.R_reads' hgp.f).1
 obtain rfl:=(Kd.R_reads' hgp.c).1
 have hbl:=z04 (Below.refl w.heap.size w) (Obj.cells #[.int .i64 0,.int .i64 0,.int .i64 0,.slice none 0 0,.slice none 0 0,.slice none 0 0] 26)
 have HC:=Aside0.mk (copied_calls p.f0 p.f1 p.f2 A3 c3 p.f3 A4 c4 p.f4 A5 c5 p.f5 (w.alloc (Obj.cells #[.int .i64 0,.int .i64 0,.int .i64 0,.slice none 0 0,.slice none 0 0,.slice none 0 0] 26))
  (Kd.C_below (Kd.R_reads' hgp.d).2.2 hbl) (Kd.R_reads' hgp.d).2.1 (Kd.C_below (Kd.R_reads' hgp.f).2.2 hbl) (Kd.R_reads' hgp.f).2.1 (Kd.C_below (Kd.R_reads' hgp.c).2.2 hbl) (Kd.R_reads' hgp.c).2.1 hl3 hl4 hl5)
 have hc1:=z06 hc (Obj.cells #[.int .i64 0,.int .i64 0,.int .i64 0,.slice none 0 0,.slice none 0 0,.slice none 0 0] 26)
 have k0 : (w.alloc (Obj.cells #[.int .i64 0,.int .i64 0,.int .i64 0,.slice none 0 0,.slice none 0 0,.slice none 0 0] 26)).cell? ⟨g,0,none⟩ = some (.int .i64 p.f0):=(z02 hc1 0).trans rfl
 have k1 : (w.alloc (Obj.cells #[.int .i64 0,.int .i64 0,.int .i64 0,.slice none 0 0,.slice none 0 0,.slice none 0 0] 26)).cell? ⟨g,1,none⟩ = some (.int .i64 p.f1):=(z02 hc1 1).trans rfl
 have k2 : (w.alloc (Obj.cells #[.int .i64 0,.int .i64 0,.int .i64 0,.slice none 0 0,.slice none 0 0,.slice none 0 0] 26)).cell? ⟨g,2,none⟩ = some (.int .i64 p.f2):=(z02 hc1 2).trans rfl
 have k3 : (w.alloc (Obj.cells #[.int .i64 0,.int .i64 0,.int .i64 0,.slice none 0 0,.slice none 0 0,.slice none 0 0] 26)).cell? ⟨g,3,none⟩ = some (.slice A3 p.f3.length c3):=(z02 hc1 3).trans rfl
 have k4 : (w.alloc (Obj.cells #[.int .i64 0,.int .i64 0,.int .i64 0,.slice none 0 0,.slice none 0 0,.slice none 0 0] 26)).cell? ⟨g,4,none⟩ = some (.slice A4 p.f4.length c4):=(z02 hc1 4).trans rfl
 have k5 : (w.alloc (Obj.cells #[.int .i64 0,.int .i64 0,.int .i64 0,.slice none 0 0,.slice none 0 0,.slice none 0 0] 26)).cell? ⟨g,5,none⟩ = some (.slice A5 p.f5.length c5):=(z02 hc1 5).trans rfl
 have BZ1:=Aside0.mk (blk_new w (Obj.cells #[.int .i64 0,.int .i64 0,.int .i64 0,.slice none 0 0,.slice none 0 0,.slice none 0 0] 26))
 have HB1:=Aside0.mk hbl
 clear hc1 hgp hc hbl
 go_enter Try.func30,Try.ntmps30
 go_wp2_with fail
 refine HC.out.mono ?_
 rintro e w5 ⟨v3,v4,v5,rfl,h3,h4,h5,hB⟩
 obtain ⟨A3',n3',c3',e3⟩ : ∃ A n c,v3 = .slice A n c:=by obtain ⟨A,c,h⟩:=Kd.R_slice h3; exact ⟨_,_,_,h⟩
 obtain ⟨A4',n4',c4',e4⟩ : ∃ A n c,v4 = .slice A n c:=by obtain ⟨A,c,h⟩:=Kd.R_slice h4; exact ⟨_,_,_,h⟩
 obtain ⟨A5',n5',c5',e5⟩ : ∃ A n c,v5 = .slice A n c:=by obtain ⟨A,c,h⟩:=Kd.R_slice h5; exact ⟨_,_,_,h⟩
 subst e3
 subst e4
 subst e5
 have BZ5:=Aside0.mk ((hB.block _ (blk_lt BZ1.out)).trans BZ1.out)
 have HB5:=Aside0.mk (below_then HB1.out HB1.out.size hB)
 have HR3d:=Aside0.mk (Kd.R_lower h3 HB1.out.size)
 have HR4d:=Aside0.mk (Kd.R_lower h4 HB1.out.size)
 have HR5d:=Aside0.mk (Kd.R_lower h5 HB1.out.size)
 clear h3 h4 h5 hB k0 k1 k2 k3 k4 k5 HC
 have z0:=z02 BZ5.out 0
 have z1:=z02 BZ5.out 1
 have z2:=z02 BZ5.out 2
 have z3:=z02 BZ5.out 3
 have z4:=z02 BZ5.out 4
 have z5:=z02 BZ5.out 5
 have f0:=z01 BZ5.out 0
 have f1:=z01 BZ5.out 1
 have f2:=z01 BZ5.out 2
 have f3:=z01 BZ5.out 3
 have f4:=z01 BZ5.out 4
 have f5:=z01 BZ5.out 5
 go_wp2
 have y0:=BZ5.out
 have y1:=z0u y0 0 (.int .i64 p.f0) (cs':=#[.int .i64 p.f0,.int .i64 0,.int .i64 0,.slice none 0 0,.slice none 0 0,.slice none 0 0]) rfl
 have y2:=z0u y1 1 (.int .i64 p.f1) (cs':=#[.int .i64 p.f0,.int .i64 p.f1,.int .i64 0,.slice none 0 0,.slice none 0 0,.slice none 0 0]) rfl
 have y3:=z0u y2 2 (.int .i64 p.f2) (cs':=#[.int .i64 p.f0,.int .i64 p.f1,.int .i64 p.f2,.slice none 0 0,.slice none 0 0,.slice none 0 0]) rfl
 have y4:=z0u y3 3 (.slice A3' n3' c3') (cs':=#[.int .i64 p.f0,.int .i64 p.f1,.int .i64 p.f2,.slice A3' n3' c3',.slice none 0 0,.slice none 0 0]) rfl
 have y5:=z0u y4 4 (.slice A4' n4' c4') (cs':=#[.int .i64 p.f0,.int .i64 p.f1,.int .i64 p.f2,.slice A3' n3' c3',.slice A4' n4' c4',.slice none 0 0]) rfl
 have y6:=z0u y5 5 (.slice A5' n5' c5') (cs':=#[.int .i64 p.f0,.int .i64 p.f1,.int .i64 p.f2,.slice A3' n3' c3',.slice A4' n4' c4',.slice A5' n5' c5']) rfl
 have HR3df:=Aside0.mk (R_set rfl (R_set rfl (R_set rfl (R_set rfl (R_set rfl (R_set rfl (HR3d.out) y0 (by decide) 0 (.int .i64 p.f0)) y1 (by decide) 1 (.int .i64 p.f1)) y2 (by decide) 2 (.int .i64 p.f2)) y3 (by decide) 3 (.slice A3' n3' c3')) y4 (by decide) 4 (.slice A4' n4' c4')) y5 (by decide) 5 (.slice A5' n5' c5'))
 have HR4df:=Aside0.mk (R_set rfl (R_set rfl (R_set rfl (R_set rfl (R_set rfl (R_set rfl (HR4d.out) y0 (by decide) 0 (.int .i64 p.f0)) y1 (by decide) 1 (.int .i64 p.f1)) y2 (by decide) 2 (.int .i64 p.f2)) y3 (by decide) 3 (.slice A3' n3' c3')) y4 (by decide) 4 (.slice A4' n4' c4')) y5 (by decide) 5 (.slice A5' n5' c5'))
 have HR5df:=Aside0.mk (R_set rfl (R_set rfl (R_set rfl (R_set rfl (R_set rfl (R_set rfl (HR5d.out) y0 (by decide) 0 (.int .i64 p.f0)) y1 (by decide) 1 (.int .i64 p.f1)) y2 (by decide) 2 (.int .i64 p.f2)) y3 (by decide) 3 (.slice A3' n3' c3')) y4 (by decide) 4 (.slice A4' n4' c4')) y5 (by decide) 5 (.slice A5' n5' c5'))
 have HB6:=Aside0.mk (z07 (z07 (z07 (z07 (z07 (z07 (HB5.out) (Nat.le_refl w.heap.size) (j:=0) (v:=.int .i64 p.f0)) (Nat.le_refl w.heap.size) (j:=1) (v:=.int .i64 p.f1)) (Nat.le_refl w.heap.size) (j:=2) (v:=.int .i64 p.f2)) (Nat.le_refl w.heap.size) (j:=3) (v:=.slice A3' n3' c3')) (Nat.le_refl w.heap.size) (j:=4) (v:=.slice A4' n4' c4')) (Nat.le_refl w.heap.size) (j:=5) (v:=.slice A5' n5' c5'))
 have BZ6:=Aside0.mk y6
 generalize ((((((w5.setCell ⟨w.heap.size,0,none⟩ (.int .i64 p.f0)).setCell ⟨w.heap.size,1,none⟩ (.int .i64 p.f1)).setCell ⟨w.heap.size,2,none⟩ (.int .i64 p.f2)).setCell ⟨w.heap.size,3,none⟩ (.slice A3' n3' c3')).setCell ⟨w.heap.size,4,none⟩ (.slice A4' n4' c4')).setCell ⟨w.heap.size,5,none⟩ (.slice A5' n5' c5')) = w6 at HR3df HR4df HR5df HB6 BZ6 ⊢
 have x0:=z02 BZ6.out 0
 have x1:=z02 BZ6.out 1
 have x2:=z02 BZ6.out 2
 have x3:=z02 BZ6.out 3
 have x4:=z02 BZ6.out 4
 have x5:=z02 BZ6.out 5
 simp only [List.getElem?_toArray,List.getElem?_cons_zero,List.getElem?_cons_succ] at x0 x1 x2 x3 x4 x5
 exact bodyPost_ret (v:=.agg #[.int .i64 p.f0,.int .i64 p.f1,.int .i64 p.f2,.slice A3' n3' c3',.slice A4' n4' c4',.slice A5' n5' c5']) (by simp [results,Try.results30,go_sem,x0,x1,x2,x3,x4,x5]) rfl ⟨_,_,_,rfl,HR3df.out,HR4df.out,HR5df.out,HB6.out⟩
end Go.Proofs.Ytcbnhfnnjkkceaa.X
end
section
namespace Go.Proofs.Ytcbnhfnnjkkceaa.X
open Go.RowKit Go.Proofs.YtcbnhfnnjkkceaaW.PrintWords Go.Proofs.YtcbnhfnnjkkceaaW.PrintLast Go.Proofs.YtcbnhfnnjkkceaaW.PrintMore Go.Proofs.Ytcbnhfnnjkkceaa.Gr
theorem ints_l0 (a b : List Int) (hl : a.length = b.length) (hs : a.length < 4611686018427387904) : ∀ (d k j : Nat),j + d = a.length → d < k → z0w.l0 k a b j = some (a.drop j == b.drop j)
 | 0,k,j,hj,hk=>by
  obtain ⟨k,rfl⟩ : ∃ n,k = n + 1:=⟨k - 1,by omega⟩
  rw [z0w.l0,if_neg (by omega),List.drop_eq_nil_of_le (by omega),List.drop_eq_nil_of_le (by omega)]
  rfl
 | d + 1,k,j,hj,hk=>by
  obtain ⟨k,rfl⟩ : ∃ n,k = n + 1:=⟨k - 1,by omega⟩
  have hlt : j < a.length:=by omega
  have hlb : j < b.length:=by omega
  have e : rd a (j : Int) = a[j]:=by unfold rd; simp [List.getD_eq_getElem?_getD,List.getElem?_eq_getElem hlt]
  have e' : rd b (j : Int) = b[j]:=by unfold rd; simp [List.getD_eq_getElem?_getD,List.getElem?_eq_getElem hlb]
  rw [z0w.l0,if_pos (by omega),if_pos (by omega),if_pos (by omega),List.drop_eq_getElem_cons hlt,List.drop_eq_getElem_cons hlb,e,e',show (a[j] :: a.drop (j + 1) == b[j] :: b.drop (j + 1)) = (a[j] == b[j] && a.drop (j + 1) == b.drop (j + 1)) from rfl]
  by_cases h : a[j] = b[j]
  ·rw [if_pos h,beq_iff_eq.2 h,Bool.true_and,show wrap64 ((j : Int) + 1) = ((j + 1 : Nat) : Int) by unfold wrap64; omega,ints_l0 a b hl hs d k (j + 1) (by omega) (by omega)]
  ·rw [if_neg h,beq_eq_false_iff_ne.2 h,Bool.false_and]
theorem ints_f (a b : List Int) (hs : a.length < 4611686018427387904) : z0w.f (a.length + 1) a b = some (a == b):=by
 unfold z0w.f
 by_cases hl : a.length = b.length
 ·rw [if_pos (by omega)]
  have:=ints_l0 a b hl hs a.length (a.length + 1) 0 (by omega) (by omega)
  simpa using this
 ·rw [if_neg (by omega)]
  congr 1
  symm
  rw [beq_eq_false_iff_ne]
  exact fun e=>hl (by rw [e])
/-- graph.New. -/
theorem new_no' (p : Im) (A3 : Option Addr) (c3 : Nat) (A4 : Option Addr) (c4 : Nat) (A5 : Option Addr) (c5 : Nat) (w : World)
  (hr3 : Kd.C (Kd.int .u8) w A3 p.f3.length p.f3) (hc3 : p.f3.length ≤ c3) (hr4 : Kd.C (Kd.int .i64) w A4 p.f4.length p.f4) (hc4 : p.f4.length ≤ c4) (hr5 : Kd.C k45 w A5 p.f5.length p.f5) (hc5 : p.f5.length ≤ c5)
  (hw : wfP p) (h0 : encV p ≠ 0) :
  Calls Try.prog 10 #[.agg #[.int .i64 p.f0,.int .i64 p.f1,.int .i64 p.f2,.slice A3 p.f3.length c3,.slice A4 p.f4.length c4,.slice A5 p.f5.length c5]] w fun e w'=>e = .returned (.tuple #[.pointer none,.int .i64 (encV p)]) ∧ Below w.heap.size w w':=by
 obtain ⟨r,hr⟩:=enc_f p hw.1
 exact new_no p A3 c3 A4 c4 A5 c5 w 700 r (encV p) hr3 hc3 hr4 hc4 hr5 hc5 hr h0
theorem new_yes' (p : Im) (A3 : Option Addr) (c3 : Nat) (A4 : Option Addr) (c4 : Nat) (A5 : Option Addr) (c5 : Nat) (w : World)
  (hr3 : Kd.C (Kd.int .u8) w A3 p.f3.length p.f3) (hc3 : p.f3.length ≤ c3) (hr4 : Kd.C (Kd.int .i64) w A4 p.f4.length p.f4) (hc4 : p.f4.length ≤ c4) (hr5 : Kd.C k45 w A5 p.f5.length p.f5) (hc5 : p.f5.length ≤ c5)
  (hw : wfP p) (h0 : encV p = 0) :
  Calls Try.prog 10 #[.agg #[.int .i64 p.f0,.int .i64 p.f1,.int .i64 p.f2,.slice A3 p.f3.length c3,.slice A4 p.f4.length c4,.slice A5 p.f5.length c5]] w fun e w'=>∃ g,e = .returned (.tuple #[.pointer (some ⟨g,0,none⟩),.int .i64 0]) ∧ Gr w' g w.heap.size p ∧ Below w.heap.size w w':=by
 obtain ⟨r,hr⟩:=enc_f p hw.1
 rw [h0] at hr
 have hs:=(encV_zero.1 h0).1
 exact new_yes p A3 c3 A4 c4 A5 c5 w 700 r hr3 hc3 hr4 hc4 hr5 hc5 (by have:=hs.1; have:=hs.2.2.2.1; omega) (by have:=hs.2.2.2.2.1; omega) (by have:=hs.2.2.2.2.2.2.2.2; omega) hr
/-- The document's example. -/
def p20 : Im:=⟨0,1,0,[],[0,2],[⟨23,0,0,0,1⟩,⟨0,0,0,0,0⟩,⟨24,0,0,0,0⟩]⟩
theorem p20_wf : wfP p20:=⟨by unfold wfF p20; decide,by unfold p20; decide⟩
theorem p20_enc : encV p20 = 0:=encV_zero.2 ⟨by unfold SizesP p20; decide +kernel,by unfold p20; decide +kernel,by unfold p20; decide +kernel⟩
theorem p20_next : nextL p20 0 = [2] ∧ nextL p20 2 = [1] ∧ nextL p20 1 = [] ∧ prevL p20 2 = [0]:=by decide +kernel
/-- A row just laid. -/
theorem cell_add (w : World) (b n : Nat) : w.cell? ((⟨b,0,none⟩ : Addr).add n) = w.cell? ⟨b,n,none⟩:=by
 unfold Addr.add
 split
 ·rename_i h
  rw [h]
 ·simp
theorem C_lit {α : Type} (d : Kd α) {w : World} {b : Nat} {cs : Array Value} {t : TypeId} (hb : w.heap[b]? = some (.cells cs t (0,0))) (xs : List α) (hl : xs.length ≤ 1000)
  (h : ∀ j p,xs[j]? = some p → ∃ c,c.length = d.sz ∧ d.K w p c ∧ ∀ i u,c[i]? = some u → cs[j * d.sz + i]? = some u) : d.C w (some ⟨b,0,none⟩) xs.length xs :=
 ⟨rfl,by omega,fun _=>⟨_,rfl,fun j p hj=>by
  obtain ⟨c,h1,h2,h3⟩:=h j p hj
  exact ⟨c,h1,h2,fun i u hu=>by rw [cell_add]; exact (z02 hb _).trans (h3 i u hu)⟩⟩⟩
theorem ints_lit {w : World} {b : Nat} {t : TypeId} (xs : List Int) (hl : xs.length ≤ 1000) (hb : w.heap[b]? = some (.cells (xs.map (Value.int .i64)).toArray t (0,0))) : Kd.C (Kd.int .i64) w (some ⟨b,0,none⟩) xs.length xs :=
 C_lit _ hb xs hl fun j p hj=>⟨[.int .i64 p],rfl,rfl,fun i u hu=>by
  rcases i with _ | i
  ·show (xs.map (Value.int .i64)).toArray[j * 1 + 0]? = _
   rw [Nat.mul_one,Nat.add_zero,List.getElem?_toArray,List.getElem?_map,hj]
   exact hu
  ·simp at hu⟩
theorem code20_lit {w : World} {b : Nat} (hb : w.heap[b]? = some (.cells #[.int .i64 23,.int .i64 0,.int .i64 0,.int .i64 0,.int .u64 1,.int .i64 0,.int .i64 0,.int .i64 0,.int .i64 0,.int .u64 0,.int .i64 24,.int .i64 0,.int .i64 0,.int .i64 0,.int .u64 0] 45 (0,0))) :
  Kd.C k45 w (some ⟨b,0,none⟩) p20.f5.length p20.f5 :=
 C_lit _ hb p20.f5 (by decide) fun j p hj=>by
  rcases j with _ | _ | _ | j
  ·obtain rfl : (⟨23,0,0,0,1⟩ : In) = p:=by simpa [p20] using hj
   exact ⟨_,rfl,k45_mk w _,fun i u hu=>by rcases i with _ | _ | _ | _ | _ | i <;> first | exact hu | simp at hu⟩
  ·obtain rfl : (⟨0,0,0,0,0⟩ : In) = p:=by simpa [p20] using hj
   exact ⟨_,rfl,k45_mk w _,fun i u hu=>by rcases i with _ | _ | _ | _ | _ | i <;> first | exact hu | simp at hu⟩
  ·obtain rfl : (⟨24,0,0,0,0⟩ : In) = p:=by simpa [p20] using hj
   exact ⟨_,rfl,k45_mk w _,fun i u hu=>by rcases i with _ | _ | _ | _ | _ | i <;> first | exact hu | simp at hu⟩
  ·simp [p20] at hj
theorem p20_rt : Rt p20:=encV_rt p20_wf p20_enc
theorem ints_calls {a b : List Int} {A B : Option Addr} {cA cB : Nat} {w : World} (r : Bool) (hA : Kd.C (Kd.int .i64) w A a.length a) (hcA : a.length ≤ cA) (hB : Kd.C (Kd.int .i64) w B b.length b) (hcB : b.length ≤ cB) (hs : a.length ≤ 1000000) (hr : (a == b) = r) :
  Calls Try.prog 16 #[.slice A a.length cA,.slice B b.length cB] w fun e w'=>e = .returned (.bool r) ∧ Drawn0 w w' :=
 z0w.calls (a.length + 1) A cA a B cB b r w hA hcA hB hcB (by rw [ints_f a b (by omega),hr])
theorem fr_below {w0 w w' : World} {g B : Nat} (h : Fr w w' (fun i=>i = g)) (hb : Below B w0 w) (hB : B ≤ w.heap.size) (hg : B ≤ g) : Below B w0 w':=h.below hb hB fun i hi=>by omega
end Go.Proofs.Ytcbnhfnnjkkceaa.X
end
section
namespace Go.Proofs.Ytcbnhfnnjkkceaa.X
open Go.RowKit Go.Proofs.YtcbnhfnnjkkceaaW.PrintWords Go.Proofs.YtcbnhfnnjkkceaaW.PrintLast Go.Proofs.YtcbnhfnnjkkceaaW.PrintMore Go.Proofs.Ytcbnhfnnjkkceaa.Gr
theorem outL_len (p : Im) (hn : p.f5.length ≤ 256) (x : Int) : (outL p x).length ≤ 256:=by
 unfold outL
 split
 ·dsimp only
  repeat' split
  all_goals first
   | (simp; done)
   | (rw [List.length_map]; exact Nat.le_trans (List.length_filter_le _ _) (by rw [placesL_length]; exact hn))
 ·simp
theorem ins1_len (y : Int) : ∀ l : List Int,(ins1 y l).length ≤ l.length + 1
 | []=>by simp [ins1]
 | a :: r=>by
  unfold ins1
  split
  ·simp
  ·split
   ·simp
   ·have:=ins1_len y r
    simp
    omega
theorem uniq_len : ∀ l : List Int,(uniq l).length ≤ l.length
 | []=>by simp [uniq]
 | a :: r=>by
  have h1:=uniq_len r
  have h2:=ins1_len a (uniq r)
  show (ins1 a (uniq r)).length ≤ _
  simp
  omega
theorem next_len (p : Im) (hn : p.f5.length ≤ 256) (x : Int) : (nextL p x).length ≤ 256:=Nat.le_trans (uniq_len _) (outL_len p hn x)
theorem prev_len (p : Im) (hn : p.f5.length ≤ 256) (x : Int) : (prevL p x).length ≤ 256:=Nat.le_trans (List.length_filter_le _ _) (by rw [placesL_length]; exact hn)
end Go.Proofs.Ytcbnhfnnjkkceaa.X
end
section
namespace Go.Proofs.Ytcbnhfnnjkkceaa.X
open Go.RowKit Go.Proofs.YtcbnhfnnjkkceaaW.PrintWords Go.Proofs.Ytcbnhfnnjkkceaa.Gr
theorem add_add (a : Addr) (i j : Nat) : (a.add i).add j = a.add (i + j):=by
 unfold Addr.add
 by_cases hi : i = 0
 ·subst hi
  simp
 ·rw [if_neg hi]
  by_cases hj : j = 0
  ·subst hj
   simp [hi]
  ·rw [if_neg hj,if_neg (by omega)]
   simp [Nat.add_assoc]
/-- A slice whose elements are read. -/
theorem open_K {α H : Type} (dk : Kd α) {enc : TypeId × Value → H} {P : Program} {W : World} {t e : TypeId} {fuel : Nat} {cs : List Value} {y : DataW H × List MemPlace} (Q : α → Prop) (ht : P.underlying t = some (.slice e)) (hc : P.cellsOf e = dk.sz)
  (hel : ∀ n cs' y,DataW.trod enc P W 0 (fun _=>true) true n e cs' = some y → ∃ x,dk.K W x cs' ∧ Q x)
  (h : DataW.trod enc P W 0 (fun _=>true) true fuel t cs = some y) :
  ∃ (A : Option Addr) (cap : Nat) (xs : List α),cs = [.slice A xs.length cap] ∧ dk.C W A xs.length xs ∧ xs.length ≤ cap ∧ ∀ x ∈ xs,Q x:=by
 rcases Deep.open_slice ht h with ⟨h1,_⟩ | ⟨a,len,cap,m,n,D,Pl,h1,_,hl,hm,hmm,_,hx⟩
 ·exact ⟨none,0,[],h1,Kd.C_nil dk W,Nat.le_refl _,by simp⟩
 ·have hM : maxLen ≤ 9223372036854775807:=by decide
  have hmm : m = cap:=hmm
  have hex : ∀ i,i < len → ∃ x,(∃ cs',W.cells? 0 (a.add (i * dk.sz)) dk.sz = some cs' ∧ dk.K W x cs') ∧ Q x:=fun i hi=>by
   obtain ⟨cs',hcs,htr⟩:=hx i (by omega)
   rw [hc] at hcs
   obtain ⟨x,hk,hq⟩:=hel n cs' _ htr
   exact ⟨x,⟨cs',hcs,hk⟩,hq⟩
  have hlist : ∀ k,k ≤ len → ∃ xs : List α,xs.length = k ∧ ∀ i x,xs[i]? = some x → (∃ cs',W.cells? 0 (a.add (i * dk.sz)) dk.sz = some cs' ∧ dk.K W x cs') ∧ Q x:=by
   intro k
   induction k with
   | zero=>exact fun _=>⟨[],rfl,fun i x hi=>by simp at hi⟩
   | succ k ih =>
    intro hk
    obtain ⟨xs,hxl,hxs⟩:=ih (by omega)
    obtain ⟨x,hx'⟩:=hex k (by omega)
    refine ⟨xs ++ [x],by simp [hxl],fun i z hi=>?_⟩
    by_cases e : i < k
    ·rw [List.getElem?_append_left (by omega)] at hi
     exact hxs i z hi
    ·rw [List.getElem?_append_right (by omega)] at hi
     have hik : i - xs.length = 0:=by
      have:=(List.getElem?_eq_some_iff.1 hi).1
      simp at this
      omega
     rw [hik] at hi
     obtain rfl : x = z:=by simpa using hi
     obtain rfl : i = k:=by omega
     exact hx'
  obtain ⟨xs,hxl,hxs⟩:=hlist len (Nat.le_refl _)
  refine ⟨some a,cap,xs,by rw [hxl]; exact h1,⟨rfl,by omega,fun _=>⟨a,rfl,fun j p hj=>?_⟩⟩,by omega,fun x hx1=>?_⟩
  ·obtain ⟨⟨cs',hcs,hk⟩,_⟩:=hxs j p hj
   obtain ⟨_,hcl,hce⟩:=World.cells?_some hcs
   refine ⟨cs',hcl,hk,fun i u hu=>?_⟩
   have hi : i < dk.sz:=by have:=(List.getElem?_eq_some_iff.1 hu).1; omega
   rw [← add_add]
   exact (hce i hi).trans hu
  ·obtain ⟨i,hi⟩:=List.getElem?_of_mem hx1
   exact (hxs i x hi).2
theorem lit_i64 {n : Int} (h : (Lit.int .i64 n).wf = true) : -9223372036854775808 ≤ n ∧ n ≤ 9223372036854775807:=by
 simpa [Lit.wf,IntKind.min,IntKind.max,IntKind.bits,IntKind.signed] using h
theorem lit_u64 {n : Int} (h : (Lit.int .u64 n).wf = true) : 0 ≤ n:=by
 have : 0 ≤ n ∧ n ≤ 18446744073709551615:=by simpa [Lit.wf,IntKind.min,IntKind.max,IntKind.bits,IntKind.signed] using h
 exact this.1
theorem array6 {α : Type} {cs : Array α} (h : cs.size = 6) : ∃ c0 c1 c2 c3 c4 c5,cs = #[c0,c1,c2,c3,c4,c5]:=by
 obtain ⟨l⟩:=cs
 match l,h with
 | [c0,c1,c2,c3,c4,c5],_=>exact ⟨c0,c1,c2,c3,c4,c5,rfl⟩
theorem list5 {α : Type} {cs : List α} (h : cs.length = 5) : ∃ c0 c1 c2 c3 c4,cs = [c0,c1,c2,c3,c4]:=by
 match cs,h with
 | [c0,c1,c2,c3,c4],_=>exact ⟨c0,c1,c2,c3,c4,rfl⟩
theorem ci_int : Try.prog.cellsOf 3 = 1:=by kernel_rfl
theorem ci_u8 : Try.prog.cellsOf 5 = 1:=by kernel_rfl
theorem ci_u64 : Try.prog.cellsOf 43 = 1:=by kernel_rfl
theorem ci_bs : Try.prog.cellsOf 22 = 1:=by kernel_rfl
theorem ci_is : Try.prog.cellsOf 23 = 1:=by kernel_rfl
theorem ci_cs : Try.prog.cellsOf 24 = 1:=by kernel_rfl
theorem ci_ins : Try.prog.cellsOf 45 = 5:=by kernel_rfl
theorem ci_im : Try.prog.cellsOf 26 = 6:=by kernel_rfl
section
variable {H : Type} {enc : TypeId × Value → H} {W : World}
set_option maxRecDepth 100000 in
theorem el_ins (n : Nat) (cs : List Value) (y : DataW H × List MemPlace) (h : DataW.trod enc Try.prog W 0 (fun _=>true) true n 45 cs = some y) : ∃ x,k45.K W x cs ∧ 0 ≤ x.f4:=by
 obtain ⟨xs,m,_,_,hl,hn,hf⟩:=DataW.trod_struct Try.underlying45 h
 rw [ci_ins] at hl
 obtain ⟨c0,c1,c2,c3,c4,rfl⟩:=list5 hl
 match xs,hn with
 | [y0,y1,y2,y3,y4],_ =>
  have h0:=hf 0 _ rfl
  have h1:=hf 1 _ rfl
  have h2:=hf 2 _ rfl
  have h3:=hf 3 _ rfl
  have h4:=hf 4 _ rfl
  simp only [ci_int,ci_u64,List.drop_zero,List.drop_succ_cons,List.take_succ_cons,List.take_zero,List.getElem?_cons_zero,List.getElem?_cons_succ] at h0 h1 h2 h3 h4
  obtain ⟨a0,e0,_,_⟩:=DataW.trod_int Try.underlying3 h0
  obtain ⟨a1,e1,_,_⟩:=DataW.trod_int Try.underlying3 h1
  obtain ⟨a2,e2,_,_⟩:=DataW.trod_int Try.underlying3 h2
  obtain ⟨a3,e3,_,_⟩:=DataW.trod_int Try.underlying3 h3
  obtain ⟨a4,e4,_,w4⟩:=DataW.trod_int Try.underlying43 h4
  cases e0; cases e1; cases e2; cases e3; cases e4
  exact ⟨⟨a0,a1,a2,a3,a4⟩,k45_mk W _,lit_u64 w4⟩
set_option maxRecDepth 100000 in
theorem el_int (n : Nat) (cs : List Value) (y : DataW H × List MemPlace) (h : DataW.trod enc Try.prog W 0 (fun _=>true) true n 3 cs = some y) : ∃ x,(Kd.int .i64).K W x cs ∧ (-9223372036854775808 ≤ x ∧ x ≤ 9223372036854775807):=by
 obtain ⟨a,e,_,w⟩:=DataW.trod_int Try.underlying3 h
 exact ⟨a,e,lit_i64 w⟩
set_option maxRecDepth 100000 in
theorem el_u8 (n : Nat) (cs : List Value) (y : DataW H × List MemPlace) (h : DataW.trod enc Try.prog W 0 (fun _=>true) true n 5 cs = some y) : ∃ x,(Kd.int .u8).K W x cs ∧ True:=by
 obtain ⟨a,e,_,w⟩:=DataW.trod_int Try.underlying5 h
 exact ⟨a,e,trivial⟩
set_option maxRecDepth 100000 in
/-- An image. -/
theorem open_image {r : Reach} {base : Nat} {v : Value} {d : DataW H} {ps : List MemPlace} (hv : Value.okWide Try.prog W r base 26 v) (h : DataW.Trod enc Try.prog W 0 (fun _=>true) true 26 v d ps) :
  ∃ (p : Im) (A3 : Option Addr) (c3 : Nat) (A4 : Option Addr) (c4 : Nat) (A5 : Option Addr) (c5 : Nat),v = .agg #[.int .i64 p.f0,.int .i64 p.f1,.int .i64 p.f2,.slice A3 p.f3.length c3,.slice A4 p.f4.length c4,.slice A5 p.f5.length c5] ∧
   Kd.C (Kd.int .u8) W A3 p.f3.length p.f3 ∧ p.f3.length ≤ c3 ∧ Kd.C (Kd.int .i64) W A4 p.f4.length p.f4 ∧ p.f4.length ≤ c4 ∧ Kd.C k45 W A5 p.f5.length p.f5 ∧ p.f5.length ≤ c5 ∧ wfP p:=by
 obtain ⟨cs,rfl,hsz⟩:=Go.WideShapes.okWide_struct Try.underlying26 hv
 rw [ci_im] at hsz
 obtain ⟨x0,x1,x2,x3,x4,x5,rfl⟩:=array6 hsz
 obtain ⟨fuel,hfu⟩:=h
 obtain ⟨xs,m,_,_,hl,hn,hf⟩:=DataW.trod_struct Try.underlying26 hfu
 match xs,hn with
 | [y0,y1,y2,y3,y4,y5],_ =>
  have h0:=hf 0 _ rfl
  have h1:=hf 1 _ rfl
  have h2:=hf 2 _ rfl
  have h3:=hf 3 _ rfl
  have h4:=hf 4 _ rfl
  have h5:=hf 5 _ rfl
  simp only [Value.cells,ci_int,ci_bs,ci_is,ci_cs,List.drop_zero,List.drop_succ_cons,List.take_succ_cons,List.take_zero,List.getElem?_cons_zero,List.getElem?_cons_succ] at h0 h1 h2 h3 h4 h5
  obtain ⟨a0,e0,_,_⟩:=DataW.trod_int Try.underlying3 h0
  obtain ⟨a1,e1,_,_⟩:=DataW.trod_int Try.underlying3 h1
  obtain ⟨a2,e2,_,_⟩:=DataW.trod_int Try.underlying3 h2
  obtain ⟨A3,c3,l3,e3,hC3,hc3,_⟩:=open_K (Kd.int .u8) _ Try.underlying22 ci_u8 el_u8 h3
  obtain ⟨A4,c4,l4,e4,hC4,hc4,hw4⟩:=open_K (Kd.int .i64) _ Try.underlying23 ci_int el_int h4
  obtain ⟨A5,c5,l5,e5,hC5,hc5,hw5⟩:=open_K k45 _ Try.underlying24 ci_ins el_ins h5
  cases e0; cases e1; cases e2; cases e3; cases e4; cases e5
  exact ⟨⟨a0,a1,a2,l3,l4,l5⟩,A3,c3,A4,c4,A5,c5,rfl,hC3,hc3,hC4,hc4,hC5,hc5,hw4,hw5⟩
end
end Go.Proofs.Ytcbnhfnnjkkceaa.X
end
section
namespace Go.Proofs.Ytcbnhfnnjkkceaa.X
open Go.RowKit Go.Proofs.YtcbnhfnnjkkceaaW.PrintWords Go.Proofs.YtcbnhfnnjkkceaaW.PrintLast Go.Proofs.YtcbnhfnnjkkceaaW.PrintMore Go.Proofs.Ytcbnhfnnjkkceaa.Gr
/-- A row of whole numbers is kept while a graph's block turns. -/
theorem r_gr {w w' : World} {g B base : Nat} {p : Im} {v : Value} {l : List Int} (h : Kd.R (Kd.int .i64) 3 w base (fun _=>True) v l) (hg : Gr w g B p) (hf : Fr w w' (fun i=>i = g)) : Kd.R (Kd.int .i64) 3 w' base (fun _=>True) v l :=
 R_other rfl h fun k hk=>by
  obtain ⟨c,hc⟩:=Kd.R_typed h k hk
  obtain ⟨c',hc'⟩:=hg.typed
  exact hf.block k (blk_lt hc) fun e=>by
   rw [e,hc'] at hc
   injection hc with hc
   injection hc with _ hc
   exact absurd hc (by decide)
end Go.Proofs.Ytcbnhfnnjkkceaa.X
end
section
namespace Go.Proofs.Ytcbnhfnnjkkceaa.X
open Go.RowKit Go.Proofs.YtcbnhfnnjkkceaaW.PrintWords Go.Proofs.YtcbnhfnnjkkceaaW.PrintLast Go.Proofs.YtcbnhfnnjkkceaaW.PrintMore Go.Proofs.Ytcbnhfnnjkkceaa.Gr
/-- What is so all along: a graph, and two rows of whole numbers. -/
structure Cs (n1 : Nat) (W1 : World) (g BB : Nat) (p : Im) (v1 v2 : Value) (l1 l2 : List Int) (W : World) : Prop where
 sz : n1 ≤ W.heap.size
 gr : Gr W g BB p
 bel : Below n1 W1 W
 r1 : Kd.R (Kd.int .i64) 3 W 0 (fun _=>True) v1 l1
 r2 : Kd.R (Kd.int .i64) 3 W 0 (fun _=>True) v2 l2
theorem r_below {w w' : World} {base : Nat} {v : Value} {l : List Int} (h : Kd.R (Kd.int .i64) 3 w base (fun _=>True) v l) (hb : Below w.heap.size w w') : Kd.R (Kd.int .i64) 3 w' base (fun _=>True) v l :=
 R_other rfl h fun k hk=>by
  obtain ⟨c,hc⟩:=Kd.R_typed h k hk
  exact hb.block k (blk_lt hc)
section
variable {n1 g BB : Nat} {W1 W W' : World} {p : Im} {v1 v2 : Value} {l1 l2 : List Int}
theorem Cs.below (h : Cs n1 W1 g BB p v1 v2 l1 l2 W) (hb : Below W.heap.size W W') : Cs n1 W1 g BB p v1 v2 l1 l2 W':=⟨Nat.le_trans h.sz hb.size,h.gr.below hb,below_then h.bel h.sz hb,r_below h.r1 hb,r_below h.r2 hb⟩
theorem Cs.fr (h : Cs n1 W1 g BB p v1 v2 l1 l2 W) (hm : GrM W' g BB p) (hf : Fr W W' (fun i=>i = g)) (hg : n1 ≤ g) : Cs n1 W1 g BB p v1 v2 l1 l2 W' :=
 ⟨Nat.le_trans h.sz hf.size,hm.gr,fr_below hf h.bel h.sz hg,r_gr h.r1 h.gr hf,r_gr h.r2 h.gr hf⟩
end
theorem rd_mem {l : List Int} {i : Nat} (hi : i < l.length) : rd l (i : Int) ∈ l:=by
 unfold rd
 rw [Int.toNat_natCast,List.getD_eq_getElem?_getD,List.getElem?_eq_getElem hi]
 exact List.getElem_mem hi
end Go.Proofs.Ytcbnhfnnjkkceaa.X
end
section
namespace Go.Proofs.Ytcbnhfnnjkkceaa.X
open Go.RowKit Go.Proofs.YtcbnhfnnjkkceaaW.PrintWords Go.Proofs.YtcbnhfnnjkkceaaW.PrintLast Go.Proofs.YtcbnhfnnjkkceaaW.PrintMore Go.Proofs.Ytcbnhfnnjkkceaa.Gr
theorem row_l0 : ∀ (d k : Nat) (x : Int) (l : List Int) (j : Nat),j + d = l.length → d < k → l.length < 1000000 → far_row_int.l0 k x l (l.length : Int) j = some (l.take j ++ List.replicate d x)
 | 0,k,x,l,j,h,hk,hl=>by
  obtain ⟨k,rfl⟩ : ∃ i,k = i + 1:=⟨k - 1,by omega⟩
  rw [far_row_int.l0,if_neg (by omega),List.take_of_length_le (by omega)]
  simp
 | d + 1,k,x,l,j,h,hk,hl=>by
  obtain ⟨k,rfl⟩ : ∃ i,k = i + 1:=⟨k - 1,by omega⟩
  rw [far_row_int.l0,if_pos (by omega),if_pos (by omega),if_pos (by omega),Int.toNat_natCast,show wrap64 ((j : Int) + 1) = ((j + 1 : Nat) : Int) by unfold wrap64; omega]
  have:=row_l0 d k x (l.set j x) (j + 1) (by rw [List.length_set]; omega) (by omega) (by rw [List.length_set]; exact hl)
  rw [List.length_set] at this
  rw [this]
  congr 1
  rw [List.replicate_succ,List.take_add_one,List.getElem?_set_self (by omega),List.take_set_of_le (Nat.le_refl _)]
  simp
theorem row_f (n : Nat) (x : Int) (hn : n < 1000000) : far_row_int.f (n + 2) (n : Int) x = some (List.replicate n x):=by
 unfold far_row_int.f
 rw [if_pos (by omega),if_pos (by omega),Option.bind_some,Int.toNat_natCast]
 have:=row_l0 n (n + 2) x (List.replicate n 0) 0 (by simp) (by omega) (by simpa using hn)
 refine this.trans ?_
 simp
/-- One step of the search, whether the place is new or not. -/
theorem bfs_step {n : Nat} {nx : Int → List Int} {a c u dc : Int} {out work : List Int} (h : Bfs n nx a out (c :: work)) (hdc : rd out c = dc) (hm : u ∈ nx c) (hq : ∀ v : Int,0 ≤ v → v < n → rd out v + negs out ≤ n) :
  Bfs n nx a (if rd out u < 0 then out.set u.toNat (dc + 1) else out) (c :: (if rd out u < 0 then work ++ [u] else work)) ∧ rd (if rd out u < 0 then out.set u.toNat (dc + 1) else out) c = dc ∧
   (∀ v : Int,0 ≤ v → v < n → 0 ≤ rd out v → rd (if rd out u < 0 then out.set u.toNat (dc + 1) else out) v = rd out v) ∧ 0 ≤ rd (if rd out u < 0 then out.set u.toNat (dc + 1) else out) u ∧
   (∀ v : Int,0 ≤ v → v < n → rd (if rd out u < 0 then out.set u.toNat (dc + 1) else out) v + negs (if rd out u < 0 then out.set u.toNat (dc + 1) else out) ≤ n) ∧
   2 * negs (if rd out u < 0 then out.set u.toNat (dc + 1) else out) + (if rd out u < 0 then work ++ [u] else work).length ≤ 2 * negs out + work.length:=by
 have hc:=h.inw c (by simp)
 have hu:=h.nxr c hc.1.1 hc.1.2 u hm
 by_cases hn : rd out u < 0
 ·rw [if_pos hn,if_pos hn]
  subst hdc
  obtain ⟨h1,h2,h3⟩:=h.reach hu hm hn
  have hul : 0 ≤ u ∧ u < out.length:=by rw [h.len]; exact hu
  have hs : ∀ v : Int,0 ≤ v → rd (out.set u.toNat (rd out c + 1)) v = if v = u then rd out c + 1 else rd out v:=fun v h0=>rd_set hul h0
  have hng:=negs_set out u.toNat (rd out c + 1) (by omega) (by rw [show ((u.toNat : Nat) : Int) = u by omega]; exact hn) (by omega)
  refine ⟨h1,h2,h3,by rw [hs u hu.1,if_pos rfl]; omega,fun v h0 h4=>?_,by rw [List.length_append,List.length_singleton]; omega⟩
  rw [hs v h0]
  have:=hq c hc.1.1 hc.1.2
  have:=hq v h0 h4
  split <;> omega
 ·rw [if_neg hn,if_neg hn]
  exact ⟨h,hdc,fun _ _ _ _=>rfl,by omega,hq,Nat.le_refl _⟩
theorem fr_new {a b c : World} {S T : Nat → Prop} (h : Fr a b S) (k : Fr b c T) (hT : ∀ i,T i → a.heap.size ≤ i) : Fr a c S :=
 ⟨k.os.trans h.os,k.tape.trans h.tape,k.output.trans h.output,Nat.le_trans h.size k.size,fun i hi hn=>(k.block i (Nat.lt_of_lt_of_le hi h.size) fun ht=>by have:=hT i ht; omega).trans (h.block i hi hn)⟩
theorem GrY.lt {w : World} {g B : Nat} {p : Im} {Y : Nat → Prop} (h : GrY w g B p Y) : GrY w g B p (fun i=>Y i ∧ i < w.heap.size):=by
 obtain ⟨h0,dv,fv,cv,h1,h2,h3⟩:=h
 have hg : ∃ c,w.heap[g]? = some (.cells c 63 (0,0)):=by
  rcases h3 with h3 | ⟨bs,n,V,h3,_⟩
  ·exact ⟨_,h3⟩
  ·exact ⟨_,h3⟩
 obtain ⟨c,hc⟩:=hg
 refine ⟨h0,dv,fv,cv,h1,fun k hk=>⟨h2 k hk,(h1.ne hc hk).1⟩,?_⟩
 rcases h3 with h3 | ⟨bs,n,V,h3,h4,h5,h6⟩
 ·exact .inl h3
 ·exact .inr ⟨bs,n,V,h3,h4,h5,fun i hi=>⟨h6 i hi,(h4.in_lt hi).2.1⟩⟩
theorem R_only {w : World} {b ob n cap : Nat} {l : List Int} (h : Kd.R (Kd.int .i64) 3 w b (fun _=>True) (.slice (some ⟨ob,0,none⟩) n cap) l) : Kd.R (Kd.int .i64) 3 w b (fun k=>k = ob) (.slice (some ⟨ob,0,none⟩) n cap) l :=
 Kd.R_flat (fun h=>h) h fun k hk _=>by simpa [Value.ownBlock] using hk.symm
/-- What stands at the head of a round. -/
structure Sp (w wr : World) (g B n0 bo bw ob cap n : Nat) (p : Im) (nx : Int → List Int) (a : Int) (Y : Nat → Prop) (out work : List Int) : Prop where
 spr : Spr wr n0 bo bw ob cap Y out work
 gr : GrY wr g B p Y
 lt : ∀ i,Y i → i < wr.heap.size
 fr : Fr w wr (fun i=>i = g)
 q : ∀ v : Int,0 ≤ v → v < n → rd out v + negs out ≤ n
 z : rd out a = 0
theorem Sp.next {w wr wz : World} {g B n0 bo bw ob cap n : Nat} {p : Im} {nx : Int → List Int} {a : Int} {X : Nat → Prop} {out work out' work' : List Int} (h : Sp w wr g B n0 bo bw ob cap n p nx a X out work) (hg : g < n0) (hw : w.heap.size ≤ n0) (hS : Spr wz n0 bo bw ob cap X out' work')
  (hF : Fr wr wz (fun i=>n0 ≤ i ∧ ¬ X i)) (hq : ∀ v : Int,0 ≤ v → v < n → rd out' v + negs out' ≤ n) (hz : rd out' a = 0) : Sp w wz g B n0 bo bw ob cap n p nx a X out' work' :=
 ⟨hS,h.gr.keep fun j hj hh=>hF.block j hj fun h2=>by
   rcases hh with hh | hh
   ·omega
   ·exact h2.2 hh,
  fun j hj=>Nat.lt_of_lt_of_le (h.lt j hj) hF.size,fr_new h.fr hF fun j hj=>Nat.le_trans hw hj.1,hq,hz⟩
/-- What spread answers: how far each is; nothing where there is no such place. -/
def FarPost (w : World) (g B : Nat) (p : Im) (nx : Int → List Int) (a : Int) (e : Ending) (w' : World) : Prop :=
 ∃ v d,e = .returned v ∧ Kd.R (Kd.int .i64) 3 w' w.heap.size (fun _=>True) v d ∧ ((0 ≤ a ∧ a < p.f5.length) → DistOf p.f5.length nx a d ∧ ∀ v : Int,0 ≤ v → v < p.f5.length → rd d v ≤ p.f5.length) ∧ (¬ (0 ≤ a ∧ a < p.f5.length) → d = []) ∧ Gr w' g B p ∧ Fr w w' (fun i=>i = g)
set_option maxRecDepth 100000 in
set_option maxHeartbeats 8000000 in
theorem spreadNext {w : World} {g B : Nat} {p : Im} (hp : Rt p) (hg : Gr w g B p) (hnx : ∀ v : Int,0 ≤ v → v < p.f5.length → ∀ u ∈ nextL p v,0 ≤ u ∧ u < p.f5.length) (hln : ∀ v : Int,(nextL p v).length ≤ 100000) {a : Int} :
  Calls Try.prog 29 #[.int .i64 p.f5.length,.int .i64 a,.func (.func 12) #[.pointer (some ⟨g,0,none⟩)] #[]] w (FarPost w g B p (nextL p) a):=by
 have h256:=hp.fits.2.2.1
 obtain ⟨n,hn⟩ : ∃ n,p.f5.length = n:=⟨_,rfl⟩
 by_cases ha : 0 ≤ a ∧ a < n
 rotate_left
 ·have hE : ∀ w',w' = w → FarPost w g B p (nextL p) a (.returned (.slice none 0 0)) w':=fun w' e=>by
   subst e
   exact ⟨_,[],rfl,Kd.R_nil _ _ _ _ _,fun h=>absurd (hn ▸ h) ha,fun _=>rfl,hg,Fr.refl _ _⟩
  have HE:=Aside0.mk hE
  rw [hn]
  clear hE hp hnx hg hn hln
  by_cases h0 : a < 0
  ·have hd0 : decide (a < 0) = true:=decide_eq_true h0
   clear ha h0
   go_enter Try.func29,Try.ntmps29
   go_wp2
   go_ret
   exact HE.out _ rfl
  ·have hd0 : decide (a < 0) = false:=decide_eq_false h0
   have hd1 : decide (a ≥ (n : Int)) = true:=decide_eq_true (by omega)
   have hd2 : decide ((n : Int) ≤ a) = true:=decide_eq_true (by omega)
   clear ha h0
   go_enter Try.func29,Try.ntmps29
   go_wp2
   go_ret
   exact HE.out _ rfl
 have hnx' : ∀ v : Int,0 ≤ v → v < n → ∀ u ∈ nextL p v,0 ≤ u ∧ u < n:=fun v h0 h1=>by rw [← hn] at h1 ⊢; exact hnx v h0 h1
 have HNX:=Aside0.mk hnx'
 have HLN:=Aside0.mk hln
 have HROW:=Aside0.mk (far_row_int.calls (n + 2) (n : Int) (-1) (List.replicate n (-1)) w (row_f n (-1) (by omega)))
 have HP:=Aside0.mk hp
 have HG:=Aside0.mk hg
 have HA:=Aside0.mk ha
 have HN:=Aside0.mk hn
 have H256 : Aside0 (n ≤ 256):=⟨by omega⟩
 have hd0 : decide (a < 0) = false:=decide_eq_false (by omega)
 have hd1 : decide (a ≥ (n : Int)) = false:=decide_eq_false (by omega)
 have hd2 : decide ((n : Int) ≤ a) = false:=decide_eq_false (by omega)
 rw [hn]
 clear hnx hnx' hg hp ha hn h256 hln
 go_enter Try.func29,Try.ntmps29
 go_wp2_with fail
 refine HROW.out.mono ?_
 rintro e w1 ⟨v0,rfl,hR,hB⟩
 have hnpos : 0 < n:=by have:=HA.out; omega
 obtain ⟨ob,cap,rfl,hob0,hob1,_⟩:=Kd.R_form hR (by simpa using hnpos)
 rw [List.length_replicate] at hR ⊢
 have HR:=Aside0.mk hR
 have HB:=Aside0.mk hB
 clear hR hB HROW hnpos
 have hS2 : Spr ((w1.alloc (.cells #[.slice (some ⟨ob,0,none⟩) n cap] 23)).alloc (.cells #[.slice none 0 0] 23)) w.heap.size w1.heap.size (w1.heap.size + 1) ob cap (fun i=>i < w.heap.size) (List.replicate n (-1)) []:=by
  have e1 : (w1.alloc (.cells #[.slice (some ⟨ob,0,none⟩) n cap] 23)).heap.size = w1.heap.size + 1:=by show (w1.heap.push _).size = _; simp
  have hb1:=blk_new w1 (.cells #[.slice (some ⟨ob,0,none⟩) n cap] 23)
  have hb2:=blk_new (w1.alloc (.cells #[.slice (some ⟨ob,0,none⟩) n cap] 23)) (.cells #[.slice none 0 0] 23)
  have hsz:=HB.out.size
  rw [e1] at hb2
  refine ⟨?_,⟨_,hb2,Que.nil _ _⟩,?_,by omega,⟨hsz,by omega⟩,by omega,by omega⟩
  ·rw [List.length_replicate]
   exact (Below.heap_alloc _ _ _ (blk_lt hb1)).trans hb1
  ·rw [List.length_replicate]
   exact R_only (Kd.R_alloc (Kd.R_alloc HR.out _) _)
 have hF2 : Fr w ((w1.alloc (.cells #[.slice (some ⟨ob,0,none⟩) n cap] 23)).alloc (.cells #[.slice none 0 0] 23)) (fun i=>i = g) :=
  ((Fr.of_below HB.out).mono (S':=fun i=>i = g) fun i h1 h2=>by omega).trans ((fr_alloc _ _ _).trans (fr_alloc _ _ _))
 have hY2 : GrY ((w1.alloc (.cells #[.slice (some ⟨ob,0,none⟩) n cap] 23)).alloc (.cells #[.slice none 0 0] 23)) g B p (fun i=>i < w.heap.size) :=
  (GrY.of_gr HG.out).keep fun i hi _=>(Below.heap_alloc _ _ _ (Nat.lt_of_lt_of_le (Nat.lt_of_lt_of_le hi HB.out.size) (fr_alloc w1 _ (fun _=>False)).size)).trans ((Below.heap_alloc _ _ _ (Nat.lt_of_lt_of_le hi HB.out.size)).trans (HB.out.block i hi))
 have HS2:=Aside0.mk hS2
 have HF2:=Aside0.mk hF2
 have HY2:=Aside0.mk hY2
 have HSZ1 : Aside0 (w.heap.size ≤ w1.heap.size):=⟨HB.out.size⟩
 have HSZ2 : Aside0 (w1.heap.size < ((w1.alloc (.cells #[.slice (some ⟨ob,0,none⟩) n cap] 23)).alloc (.cells #[.slice none 0 0] 23)).heap.size):=⟨by show _ < ((w1.heap.push _).push _).size; simp; omega⟩
 have HGL : Aside0 (g < w.heap.size):=⟨HG.out.lt⟩
 have HOB:=Aside0.mk hob0
 clear hS2 hF2 hY2 HR HB hob0 hob1
 go_upto_region 6 with (fail)
 generalize ((w1.alloc (.cells #[.slice (some ⟨ob,0,none⟩) n cap] 23)).alloc (.cells #[.slice none 0 0] 23)) = W2 at HS2 HF2 HY2 HSZ2 ⊢
 generalize w1.heap.size + 1 = bw at HS2 ⊢
 generalize w1.heap.size = bo at HS2 HSZ1 HSZ2 ⊢
 have HC0:=Aside0.mk (reach_calls HS2.out (by have:=HSZ1.out; have:=HSZ2.out; omega) (fun i h1 h2=>by have:=HSZ1.out; have:=HSZ2.out; omega) (t:=a) (s:=0) (by rw [List.length_replicate]; exact HA.out) (by simp))
 go_wp2_with fail
 refine HC0.out.mono ?_
 rintro e w3 ⟨rfl,hS3,hF3⟩
 have hneg : rd (List.replicate n (-1 : Int)) a < 0:=by rw [rd_rep n HA.out.1 HA.out.2]; omega
 rw [if_pos hneg,if_pos hneg] at hS3
 obtain ⟨hbf,hz0⟩:=Bfs.start HA.out HNX.out
 have hng:=negs_set (List.replicate n (-1 : Int)) a.toNat 0 (by rw [List.length_replicate]; have:=HA.out; omega) (by rw [show ((a.toNat : Nat) : Int) = a by have:=HA.out; omega]; exact hneg) (Int.le_refl _)
 rw [negs_rep] at hng
 have HSP3 : Aside0 (Sp w w3 g B w.heap.size bo bw ob cap n p (nextL p) a (fun i=>i < w.heap.size) ((List.replicate n (-1 : Int)).set a.toNat 0) [a]):=⟨⟨by simpa using hS3,
  HY2.out.keep fun i hi h=>hF3.block i hi fun h2=>by
   have:=HGL.out
   rcases h with h | h
   ·omega
   ·exact h2.2 h,
  fun i hi=>by have:=hF3.size; have:=HF2.out.size; omega,fr_new HF2.out hF3 fun i hi=>hi.1,fun v h0 h1=>by
   rw [rd_set (by rw [List.length_replicate]; exact HA.out) h0,rd_rep n h0 h1]
   split <;> omega,hz0⟩⟩
 have HBF3:=Aside0.mk hbf
 have HM3 : Aside0 (2 * negs ((List.replicate n (-1 : Int)).set a.toNat 0) + [a].length < 2 * n + 2):=⟨by simp only [List.length_singleton]; omega⟩
 clear hS3 hF3 hneg hbf hz0 hng HC0 HS2 HF2 HY2 HSZ2
 go_wp2
 go_loopg [] (2 * n + 2) (fun kq wr=>∃ (Y : Nat → Prop) (out work : List Int),Aside0 (Sp w wr g B w.heap.size bo bw ob cap n p (nextL p) a Y out work) ∧ Aside0 (Bfs n (nextL p) a out work) ∧ Aside0 (2 * negs out + work.length < kq) ∧ Aside0 (kq ≤ 2 * n + 2))
 case atStart=>exact ⟨_,_,_,HSP3,HBF3,HM3,⟨Nat.le_refl _⟩⟩
 case round =>
  clear HSP3 HBF3 HM3
  obtain ⟨Y,out,work,hsp,hbf,hk,HMX⟩:=hrel
  have c1:=cell_of_one hsp.out.spr.outBox
  obtain ⟨v,hv,hq⟩:=hsp.out.spr.wkBox
  cases work with
  | nil =>
   obtain ⟨av,cv,rfl,_⟩:=hq.slice
   have c2:=cell_of_one hv
   have HE : Aside0 (FarPost w g B p (nextL p) a (.returned (.slice (some ⟨ob,0,none⟩) out.length cap)) wr):=⟨⟨_,out,rfl,Kd.R_mono hsp.out.spr.row (fun _ _=>trivial),fun _=>by rw [HN.out]; exact ⟨hbf.out.done hsp.out.z,fun v h0 h1=>by have:=hsp.out.q v h0 h1; omega⟩,fun h=>absurd (HN.out ▸ HA.out) h,hsp.out.gr.gr,hsp.out.fr⟩⟩
   simp only [List.length_nil] at c2
   clear hv hq hsp hbf hk
   go_wp2
   go_ret
   exact HE.out
  | cons c work =>
   obtain ⟨av,cv,rfl,hcv⟩:=hq.slice
   have hcut:=hq.cut
   obtain ⟨bq,off,rfl,hbq,hhead⟩:=hq.head
   have c2:=cell_of_one hv
   have f2:=free_of_one hv
   have hc:=hbf.out.inw c (by simp)
   obtain ⟨i0,hi0,hz0_,hz1_,hz2_⟩:=info_parts infoC_int
   have hct:=cut_from (P:=Try.prog) 23 3 .i64 Try.underlying23 hi0 1 hz1_ (some ⟨bq,off,none⟩) (c :: work).length cv 1 (by omega) (by simp; omega)
   rw [show (1 : Int).toNat = 1 from rfl] at hct
   obtain ⟨a2,ha2⟩ : ∃ x : Option Addr,(if cv = 1 then (some ⟨bq,off,none⟩ : Option Addr) else (some (⟨bq,off,none⟩ : Addr)).map (·.add (1 * 1))) = x:=⟨_,rfl⟩
   rw [ha2] at hct hcut
   obtain ⟨lw,hlw⟩ : ∃ k,(c :: work).length = k:=⟨_,rfl⟩
   have hlw1 : work.length + 1 = lw:=by rw [← hlw]; rfl
   rw [hlw] at hct hcut hcv hv c2
   have hd0_ : decide ((lw : Int) > 0) = true:=decide_eq_true (by omega)
   have hd1_ : decide (0 < (lw : Int)) = true:=decide_eq_true (by omega)
   have hd2_ : decide (0 < lw) = true:=decide_eq_true (by omega)
   have hp0 : (0 < lw) = True:=eq_true (by omega)
   have hp1 : (0 < (lw : Int)) = True:=eq_true (by omega)
   have hfs:=fr_set wr ⟨bw,0,none⟩ (.slice a2 (lw - 1) (cv - 1))
   have HSPA : Aside0 (Spr (wr.setCell ⟨bw,0,none⟩ (.slice a2 (lw - 1) (cv - 1))) w.heap.size bo bw ob cap Y out work):=⟨⟨(hfs.block bo (blk_lt hsp.out.spr.outBox) hsp.out.spr.ne).trans hsp.out.spr.outBox,⟨_,one_setCell hv,hcut.fr hfs fun i hi e=>hi.2.2.1 e⟩,
    Kd.R_step hsp.out.spr.row (fun k hk hlt=>hfs.block k hlt (by rw [hk]; exact hsp.out.spr.ob_bw)),hsp.out.spr.ne,hsp.out.spr.lo,hsp.out.spr.nX⟩⟩
   have HYA : Aside0 (GrY (wr.setCell ⟨bw,0,none⟩ (.slice a2 (lw - 1) (cv - 1))) g B p Y):=⟨hsp.out.gr.keep fun i hi h=>hfs.block i hi fun e=>by
    have e : i = bw:=e
    rcases h with h | h
    ·have:=HGL.out
     have:=hsp.out.spr.lo
     omega
    ·exact hsp.out.spr.nX.1 (e ▸ h)⟩
   have HFA : Aside0 (Fr w (wr.setCell ⟨bw,0,none⟩ (.slice a2 (lw - 1) (cv - 1))) (fun i=>i = g)):=⟨fr_new hsp.out.fr hfs fun i (e : i = bw)=>by rw [e]; exact hsp.out.spr.lo.2⟩
   have HLA : Aside0 (∀ i,Y i → i < (wr.setCell ⟨bw,0,none⟩ (.slice a2 (lw - 1) (cv - 1))).heap.size):=⟨fun i hi=>Nat.lt_of_lt_of_le (hsp.out.lt i hi) hfs.size⟩
   have HZ:=Aside0.mk hsp.out.z
   have HQQ:=Aside0.mk hsp.out.q
   have HK : Aside0 (2 * negs out + work.length + 1 < gk):=⟨by have:=hk.out; simp only [List.length_cons] at this; omega⟩
   have HCW:=Aside0.mk hc
   clear hfs hq hcut hbq hc hsp hk ha2 hlw hlw1 hcv hv hz0_ hz1_ hz2_ hi0
   go_upto_region 10 with (fail)
   generalize wr.setCell ⟨bw,0,none⟩ (.slice a2 (lw - 1) (cv - 1)) = wa at HSPA HYA HFA HLA ⊢
   have HNC:=Aside0.mk (graphNext2 HP.out HYA.out.gr (x:=c) (Gr.wfI_of (by have:=HCW.out; have:=H256.out; omega)))
   clear c1 c2 f2 hhead hct hd0_ hd1_ hd2_ hp0 hp1
   go_wp2_with fail
   refine HNC.out.mono ?_
   rintro e wb ⟨⟨vr,rfl,hRr,hMr,hFr⟩,hYr⟩
   obtain ⟨ar,cr,rfl⟩:=Kd.R_slice hRr
   obtain ⟨X,hX⟩ : ∃ X : Nat → Prop,X = fun i=>(Y i ∨ wa.heap.size ≤ i) ∧ i < wb.heap.size:=⟨_,rfl⟩
   have HRB : Aside0 (Kd.R (Kd.int .i64) 3 wb wa.heap.size X (.slice ar (nextL p c).length cr) (nextL p c)):=⟨Kd.R_mono (Kd.R_bound hRr) fun k hk=>by rw [hX]; exact ⟨.inr hk.2.1,hk.2.2.1⟩⟩
   have HYB : Aside0 (GrY wb g B p X):=⟨(hYr Y HYA.out).lt.mono fun i hi=>by rw [hX]; exact hi⟩
   have HXL : Aside0 (∀ i,X i → i < wb.heap.size):=⟨fun i hi=>by rw [hX] at hi; exact hi.2⟩
   have HSB : Aside0 (Spr wb w.heap.size bo bw ob cap X out work):=⟨by
    obtain ⟨v0,hv0,_⟩:=HSPA.out.wkBox
    obtain ⟨c0,hc0⟩:=HSPA.out.obT
    have h1:=blk_lt hv0
    have h2:=blk_lt hc0
    refine (HSPA.out.mono (X':=X) (fun i hi hok h=>?_) (fun h=>?_) (fun h=>?_)).fr hFr (fun i hi e=>by have:=HGL.out; omega)
    ·rw [hX] at h
     exact h.1.elim hok.2.2.2.2 fun h=>by omega
    ·rw [hX] at h
     exact h.1.elim HSPA.out.nX.1 fun h=>by omega
    ·rw [hX] at h
     exact h.1.elim HSPA.out.nX.2 fun h=>by omega⟩
   have HSP4 : Aside0 (Sp w wb g B w.heap.size bo bw ob cap n p (nextL p) a X out work):=⟨⟨HSB.out,HYB.out,HXL.out,HFA.out.trans hFr,HQQ.out,HZ.out⟩⟩
   obtain ⟨dc,hdc⟩ : ∃ z,rd out c = z:=⟨_,rfl⟩
   have HDC:=Aside0.mk hdc
   have hll:=HLN.out c
   obtain ⟨l,hl⟩ : ∃ l,nextL p c = l:=⟨_,rfl⟩
   rw [hl] at HRB hll ⊢
   have HLM : Aside0 (∀ u,u ∈ l ↔ u ∈ nextL p c):=⟨fun u=>by rw [hl]⟩
   have HLL:=Aside0.mk hll
   clear hRr hMr hFr hYr hX HYB HSB HSPA HYA HFA HLA HNC HQQ HZ hdc hll hl
   go_wp2
   go_loopw [38] (fun v38 wi=>∃ (i : Nat) (out' work' : List Int),v38 = .int .i64 i ∧ Aside0 (i ≤ l.length) ∧ Aside0 (Sp w wi g B w.heap.size bo bw ob cap n p (nextL p) a X out' work') ∧ Aside0 (Bfs n (nextL p) a out' (c :: work')) ∧ Aside0 (rd out' c = dc) ∧ Aside0 (∀ u ∈ l.take i,0 ≤ rd out' u) ∧
     Aside0 (2 * negs out' + work'.length ≤ 2 * negs out + work.length) ∧ Aside0 (Kd.R (Kd.int .i64) 3 wi wa.heap.size X (.slice ar l.length cr) l) ∧ Aside0 (wb.heap.size ≤ wi.heap.size))
    (fun v _=>l.length - (intOf v).toNat)
   case atStart=>exact ⟨0,out,work,rfl,⟨Nat.zero_le _⟩,HSP4,hbf,HDC,⟨by simp⟩,⟨Nat.le_refl _⟩,HRB,⟨Nat.le_refl _⟩⟩
   case round =>
    clear HSP4 hbf HDC HRB
    obtain ⟨i,out',work',rfl,hi,hsp,hbf,hdc,htk,hms,hrw,hsz⟩:=hrel
    have hi:=hi.out
    have hl1:=HLL.out
    by_cases hil : i < l.length
    ·obtain ⟨u,hu⟩ : ∃ u,rd l (i : Int) = u:=⟨_,rfl⟩
     have hum : u ∈ l:=hu ▸ rd_mem hil
     obtain ⟨as_,ea,hx⟩:=Kd.at_int (Kd.R_reads' hrw.out).2.2 (i : Int) (by omega) (by omega)
     cases ea
     rw [Int.toNat_natCast,hu] at hx
     have hcr:=(hbf.out.inw c (by simp)).1
     have hln:=hbf.out.len
     obtain ⟨hxc0,_⟩:=Kd.R_celln 0 hsp.out.spr.row c hcr.1 (by omega)
     have hxc : wr.cell? ⟨ob,c.toNat,none⟩ = some (.int .i64 dc):=by rw [← hdc.out]; exact hxc0
     clear hxc0
     have c1:=cell_of_one hsp.out.spr.outBox
     have hdq:=hsp.out.q c hcr.1 hcr.2
     rw [hdc.out] at hdq
     have hd0:=(hbf.out.inw c (by simp)).2
     rw [hdc.out] at hd0
     have h256:=H256.out
     have hur:=HNX.out c hcr.1 hcr.2 u ((HLM.out u).1 hum)
     have hbl:=hbf.out.low
     have hwk : work'.length < 1000000:=by have:=hms.out; have:=HK.out; have:=HMX.out; omega
     have HC:=Aside0.mk (reach_calls hsp.out.spr (by have:=hsp.out.fr.size; omega) (fun j h1 h2=>by have:=HXL.out j h2; have:=hsz.out; omega) (t:=u) (s:=dc + 1) ⟨hur.1,by omega⟩ hwk)
     have HST:=Aside0.mk (bfs_step hbf.out hdc.out ((HLM.out u).1 hum) hsp.out.q)
     have hwr : IntKind.i64.wrap (dc + 1) = dc + 1:=IntWalk.i64_in _ (by omega)
     have HWR1:=Lib.hid hwr
     clear hwr
     have hwr2 : wrap64 (dc + 1) = dc + 1:=by
      have h1 : -9223372036854775808 ≤ dc + 1 ∧ dc + 1 ≤ 9223372036854775807:=by omega
      unfold wrap64
      omega
     have HWR:=Aside0.mk (And.intro HWR1.out hwr2)
     clear hwr2 HWR1
     have hp0 : (0 ≤ (i : Int)) = True:=eq_true (by omega)
     have hp1 : ((i : Int) < (l.length : Int)) = True:=eq_true (by omega)
     have hp2 : (0 ≤ c) = True:=eq_true hcr.1
     have hp3 : (c < (out'.length : Int)) = True:=eq_true (by omega)
     have hid : decide ((i : Int) < (l.length : Int)) = true:=decide_eq_true (by omega)
     have HU:=Lib.hid hu
     have HUR:=Aside0.mk hur
     have HIL:=Aside0.mk hil
     obtain ⟨hwr,hwr2⟩:=HWR.out
     clear hu hum hcr hln hdq hd0 hur hbl hwk hil
     go_wp2_with fail
     refine HC.out.mono ?_
     rintro e wz ⟨rfl,hS,hF⟩
     clear hwr hwr2 hp0 hp1 hp2 hp3 hid hx hxc c1
     have HSPZ:=Aside0.mk (hsp.out.next HGL.out (Nat.le_refl _) hS hF HST.out.2.2.2.2.1 ((HST.out.2.2.1 a HA.out.1 HA.out.2 (by rw [hsp.out.z]; exact Int.le_refl _)).trans hsp.out.z))
     have HRZ : Aside0 (Kd.R (Kd.int .i64) 3 wz wa.heap.size X (.slice (some as_) l.length cr) l):=⟨Kd.R_step hrw.out fun k hk hlt=>hF.block k hlt fun h=>h.2 hk⟩
     have HSZZ : Aside0 (wb.heap.size ≤ wz.heap.size):=⟨Nat.le_trans hsz.out hF.size⟩
     have HTKZ : Aside0 (∀ z ∈ l.take (i + 1),0 ≤ rd (if rd out' u < 0 then out'.set u.toNat (dc + 1) else out') z):=⟨fun z hz=>by
      rw [List.take_add_one,List.mem_append] at hz
      rcases hz with hz | hz
      ·have h1:=htk.out z hz
       have h2:=HNX.out c (hbf.out.inw c (by simp)).1.1 (hbf.out.inw c (by simp)).1.2 z ((HLM.out z).1 (List.mem_of_mem_take hz))
       rw [HST.out.2.2.1 z h2.1 h2.2 h1]
       exact h1
      ·rw [List.getElem?_eq_getElem HIL.out] at hz
       have h1 : z = u:=by
        have h2 : z = l[i]'HIL.out:=by simpa using hz
        rw [h2,← HU.out]
        unfold rd
        rw [Int.toNat_natCast,List.getD_eq_getElem?_getD,List.getElem?_eq_getElem HIL.out]
        rfl
       rw [h1]
       exact HST.out.2.2.2.1⟩
     have HBZ:=Aside0.mk HST.out.1
     have HDZ:=Aside0.mk HST.out.2.1
     have HMZ : Aside0 (2 * negs (if rd out' u < 0 then out'.set u.toNat (dc + 1) else out') + (if rd out' u < 0 then work' ++ [u] else work').length ≤ 2 * negs out + work.length):=⟨Nat.le_trans HST.out.2.2.2.2.2 hms.out⟩
     clear hS hF HC HST
     generalize (if rd out' u < 0 then out'.set u.toNat (dc + 1) else out') = outz at HSPZ HTKZ HBZ HDZ HMZ
     generalize (if rd out' u < 0 then work' ++ [u] else work') = workz at HSPZ HBZ HMZ
     go_wp2
     go_roundw
     case rel=>exact ⟨i + 1,outz,workz,by go_num,⟨HIL.out⟩,HSPZ,HBZ,HDZ,HTKZ,HMZ,HRZ,HSZZ⟩
     case measure=>have:=HIL.out; simp [intOf]; omega
    ·have hi' : i = l.length:=by omega
     subst hi'
     have hid : decide ((l.length : Int) < (l.length : Int)) = false:=decide_eq_false (by omega)
     have HBZ : Aside0 (Bfs n (nextL p) a out' work'):=⟨hbf.out.drop fun u hu=>⟨htk.out u (by rw [List.take_length]; exact (HLM.out u).2 hu),by
      have h1:=(hbf.out.inw c (by simp)).1
      have h2:=HNX.out c h1.1 h1.2 u hu
      exact hbf.out.top c (by simp) u h2.1 h2.2⟩⟩
     have HMZ : Aside0 (2 * negs out' + work'.length + 1 < gk):=⟨by have:=hms.out; have:=HK.out; omega⟩
     clear hbf hdc htk hms hrw hsz
     go_wp2
     go_roundg (2 * negs out' + work'.length + 1)
     case measure=>exact HMZ.out
     case rel=>exact ⟨X,out',work',hsp,HBZ,⟨Nat.lt_succ_self _⟩,⟨by have:=HMZ.out; have:=HMX.out; omega⟩⟩
set_option maxRecDepth 100000 in
set_option maxHeartbeats 4000000 in
theorem farFrom {w : World} {g B : Nat} {p : Im} (hp : Rt p) (hg : Gr w g B p) (hnx : ∀ v : Int,0 ≤ v → v < p.f5.length → ∀ u ∈ nextL p v,0 ≤ u ∧ u < p.f5.length) (hl3 : p.f3.length ≤ 100) (hl4 : p.f4.length ≤ 40) {a : Int} :
  Calls Try.prog 19 #[.pointer (some ⟨g,0,none⟩),.int .i64 a] w (FarPost w g B p (nextL p) a):=by
 have h256:=hp.fits.2.2.1
 have HIM:=Aside0.mk (graphImage hg hl3 hl4 (by omega))
 have HSP:=Aside0.mk (fun (w1 : World) (h : Below w.heap.size w w1)=>spreadNext hp (hg.below h) hnx (fun v=>Nat.le_trans (next_len p h256 v) (by omega)) (a:=a))
 have HGL:=Aside0.mk hg.lt
 have hmf : ∀ (fn : Fn) (first cap : Array Value) (w : World),(Instr.makeFunc fn first cap).run Try.prog w = .ok (.func fn first cap) w:=fun _ _ _ _=>rfl
 clear hg hnx hl3 hl4 h256
 go_enter Try.func19,Try.ntmps19
 go_wp2_with fail
 refine HIM.out.mono ?_
 rintro e w1 ⟨v3,v4,v5,rfl,h3,h4,h5,hB⟩
 obtain ⟨A3,c3,rfl⟩:=Kd.R_slice h3
 obtain ⟨A4,c4,rfl⟩:=Kd.R_slice h4
 obtain ⟨A5,c5,rfl⟩:=Kd.R_slice h5
 have HS1:=Aside0.mk (HSP.out w1 hB)
 have HB1:=Aside0.mk hB
 have hfd : ∀ w : World,(Instr.field 26 (.agg #[.int .i64 p.f0,.int .i64 p.f1,.int .i64 p.f2,.slice A3 p.f3.length c3,.slice A4 p.f4.length c4,.slice A5 p.f5.length c5]) 5).run Try.prog w = .ok (.slice A5 p.f5.length c5) w:=fun _=>by kernel_rfl
 clear h3 h4 h5 hB HSP HIM
 go_wp2_with fail
 refine HS1.out.mono ?_
 rintro e w2 ⟨v,d,rfl,hR,hd,hn,hG,hF⟩
 have HE : Aside0 (FarPost w g B p (nextL p) a (.returned v) w2):=⟨⟨v,d,rfl,Kd.R_lower hR HB1.out.size,hd,hn,hG,((Fr.of_below HB1.out).mono (S':=fun i=>i = g) fun i h1 h2=>by omega).trans hF⟩⟩
 obtain ⟨Ad,cd,rfl⟩:=Kd.R_slice hR
 clear hR hd hn hG hF HS1
 go_wp2
 go_ret
 exact HE.out
set_option maxRecDepth 100000 in
set_option maxHeartbeats 8000000 in
theorem spreadPrev {w : World} {g B : Nat} {p : Im} (hp : Rt p) (hg : Gr w g B p) (hnx : ∀ v : Int,0 ≤ v → v < p.f5.length → ∀ u ∈ prevL p v,0 ≤ u ∧ u < p.f5.length) (hln : ∀ v : Int,(prevL p v).length ≤ 100000) {a : Int} :
  Calls Try.prog 29 #[.int .i64 p.f5.length,.int .i64 a,.func (.func 13) #[.pointer (some ⟨g,0,none⟩)] #[]] w (FarPost w g B p (prevL p) a):=by
 have h256:=hp.fits.2.2.1
 obtain ⟨n,hn⟩ : ∃ n,p.f5.length = n:=⟨_,rfl⟩
 by_cases ha : 0 ≤ a ∧ a < n
 rotate_left
 ·have hE : ∀ w',w' = w → FarPost w g B p (prevL p) a (.returned (.slice none 0 0)) w':=fun w' e=>by
   subst e
   exact ⟨_,[],rfl,Kd.R_nil _ _ _ _ _,fun h=>absurd (hn ▸ h) ha,fun _=>rfl,hg,Fr.refl _ _⟩
  have HE:=Aside0.mk hE
  rw [hn]
  clear hE hp hnx hg hn hln
  by_cases h0 : a < 0
  ·have hd0 : decide (a < 0) = true:=decide_eq_true h0
   clear ha h0
   go_enter Try.func29,Try.ntmps29
   go_wp2
   go_ret
   exact HE.out _ rfl
  ·have hd0 : decide (a < 0) = false:=decide_eq_false h0
   have hd1 : decide (a ≥ (n : Int)) = true:=decide_eq_true (by omega)
   have hd2 : decide ((n : Int) ≤ a) = true:=decide_eq_true (by omega)
   clear ha h0
   go_enter Try.func29,Try.ntmps29
   go_wp2
   go_ret
   exact HE.out _ rfl
 have hnx' : ∀ v : Int,0 ≤ v → v < n → ∀ u ∈ prevL p v,0 ≤ u ∧ u < n:=fun v h0 h1=>by rw [← hn] at h1 ⊢; exact hnx v h0 h1
 have HNX:=Aside0.mk hnx'
 have HLN:=Aside0.mk hln
 have HROW:=Aside0.mk (far_row_int.calls (n + 2) (n : Int) (-1) (List.replicate n (-1)) w (row_f n (-1) (by omega)))
 have HP:=Aside0.mk hp
 have HG:=Aside0.mk hg
 have HA:=Aside0.mk ha
 have HN:=Aside0.mk hn
 have H256 : Aside0 (n ≤ 256):=⟨by omega⟩
 have hd0 : decide (a < 0) = false:=decide_eq_false (by omega)
 have hd1 : decide (a ≥ (n : Int)) = false:=decide_eq_false (by omega)
 have hd2 : decide ((n : Int) ≤ a) = false:=decide_eq_false (by omega)
 rw [hn]
 clear hnx hnx' hg hp ha hn h256 hln
 go_enter Try.func29,Try.ntmps29
 go_wp2_with fail
 refine HROW.out.mono ?_
 rintro e w1 ⟨v0,rfl,hR,hB⟩
 have hnpos : 0 < n:=by have:=HA.out; omega
 obtain ⟨ob,cap,rfl,hob0,hob1,_⟩:=Kd.R_form hR (by simpa using hnpos)
 rw [List.length_replicate] at hR ⊢
 have HR:=Aside0.mk hR
 have HB:=Aside0.mk hB
 clear hR hB HROW hnpos
 have hS2 : Spr ((w1.alloc (.cells #[.slice (some ⟨ob,0,none⟩) n cap] 23)).alloc (.cells #[.slice none 0 0] 23)) w.heap.size w1.heap.size (w1.heap.size + 1) ob cap (fun i=>i < w.heap.size) (List.replicate n (-1)) []:=by
  have e1 : (w1.alloc (.cells #[.slice (some ⟨ob,0,none⟩) n cap] 23)).heap.size = w1.heap.size + 1:=by show (w1.heap.push _).size = _; simp
  have hb1:=blk_new w1 (.cells #[.slice (some ⟨ob,0,none⟩) n cap] 23)
  have hb2:=blk_new (w1.alloc (.cells #[.slice (some ⟨ob,0,none⟩) n cap] 23)) (.cells #[.slice none 0 0] 23)
  have hsz:=HB.out.size
  rw [e1] at hb2
  refine ⟨?_,⟨_,hb2,Que.nil _ _⟩,?_,by omega,⟨hsz,by omega⟩,by omega,by omega⟩
  ·rw [List.length_replicate]
   exact (Below.heap_alloc _ _ _ (blk_lt hb1)).trans hb1
  ·rw [List.length_replicate]
   exact R_only (Kd.R_alloc (Kd.R_alloc HR.out _) _)
 have hF2 : Fr w ((w1.alloc (.cells #[.slice (some ⟨ob,0,none⟩) n cap] 23)).alloc (.cells #[.slice none 0 0] 23)) (fun i=>i = g) :=
  ((Fr.of_below HB.out).mono (S':=fun i=>i = g) fun i h1 h2=>by omega).trans ((fr_alloc _ _ _).trans (fr_alloc _ _ _))
 have hY2 : GrY ((w1.alloc (.cells #[.slice (some ⟨ob,0,none⟩) n cap] 23)).alloc (.cells #[.slice none 0 0] 23)) g B p (fun i=>i < w.heap.size) :=
  (GrY.of_gr HG.out).keep fun i hi _=>(Below.heap_alloc _ _ _ (Nat.lt_of_lt_of_le (Nat.lt_of_lt_of_le hi HB.out.size) (fr_alloc w1 _ (fun _=>False)).size)).trans ((Below.heap_alloc _ _ _ (Nat.lt_of_lt_of_le hi HB.out.size)).trans (HB.out.block i hi))
 have HS2:=Aside0.mk hS2
 have HF2:=Aside0.mk hF2
 have HY2:=Aside0.mk hY2
 have HSZ1 : Aside0 (w.heap.size ≤ w1.heap.size):=⟨HB.out.size⟩
 have HSZ2 : Aside0 (w1.heap.size < ((w1.alloc (.cells #[.slice (some ⟨ob,0,none⟩) n cap] 23)).alloc (.cells #[.slice none 0 0] 23)).heap.size):=⟨by show _ < ((w1.heap.push _).push _).size; simp; omega⟩
 have HGL : Aside0 (g < w.heap.size):=⟨HG.out.lt⟩
 have HOB:=Aside0.mk hob0
 clear hS2 hF2 hY2 HR HB hob0 hob1
 go_upto_region 6 with (fail)
 generalize ((w1.alloc (.cells #[.slice (some ⟨ob,0,none⟩) n cap] 23)).alloc (.cells #[.slice none 0 0] 23)) = W2 at HS2 HF2 HY2 HSZ2 ⊢
 generalize w1.heap.size + 1 = bw at HS2 ⊢
 generalize w1.heap.size = bo at HS2 HSZ1 HSZ2 ⊢
 have HC0:=Aside0.mk (reach_calls HS2.out (by have:=HSZ1.out; have:=HSZ2.out; omega) (fun i h1 h2=>by have:=HSZ1.out; have:=HSZ2.out; omega) (t:=a) (s:=0) (by rw [List.length_replicate]; exact HA.out) (by simp))
 go_wp2_with fail
 refine HC0.out.mono ?_
 rintro e w3 ⟨rfl,hS3,hF3⟩
 have hneg : rd (List.replicate n (-1 : Int)) a < 0:=by rw [rd_rep n HA.out.1 HA.out.2]; omega
 rw [if_pos hneg,if_pos hneg] at hS3
 obtain ⟨hbf,hz0⟩:=Bfs.start HA.out HNX.out
 have hng:=negs_set (List.replicate n (-1 : Int)) a.toNat 0 (by rw [List.length_replicate]; have:=HA.out; omega) (by rw [show ((a.toNat : Nat) : Int) = a by have:=HA.out; omega]; exact hneg) (Int.le_refl _)
 rw [negs_rep] at hng
 have HSP3 : Aside0 (Sp w w3 g B w.heap.size bo bw ob cap n p (prevL p) a (fun i=>i < w.heap.size) ((List.replicate n (-1 : Int)).set a.toNat 0) [a]):=⟨⟨by simpa using hS3,
  HY2.out.keep fun i hi h=>hF3.block i hi fun h2=>by
   have:=HGL.out
   rcases h with h | h
   ·omega
   ·exact h2.2 h,
  fun i hi=>by have:=hF3.size; have:=HF2.out.size; omega,fr_new HF2.out hF3 fun i hi=>hi.1,fun v h0 h1=>by
   rw [rd_set (by rw [List.length_replicate]; exact HA.out) h0,rd_rep n h0 h1]
   split <;> omega,hz0⟩⟩
 have HBF3:=Aside0.mk hbf
 have HM3 : Aside0 (2 * negs ((List.replicate n (-1 : Int)).set a.toNat 0) + [a].length < 2 * n + 2):=⟨by simp only [List.length_singleton]; omega⟩
 clear hS3 hF3 hneg hbf hz0 hng HC0 HS2 HF2 HY2 HSZ2
 go_wp2
 go_loopg [] (2 * n + 2) (fun kq wr=>∃ (Y : Nat → Prop) (out work : List Int),Aside0 (Sp w wr g B w.heap.size bo bw ob cap n p (prevL p) a Y out work) ∧ Aside0 (Bfs n (prevL p) a out work) ∧ Aside0 (2 * negs out + work.length < kq) ∧ Aside0 (kq ≤ 2 * n + 2))
 case atStart=>exact ⟨_,_,_,HSP3,HBF3,HM3,⟨Nat.le_refl _⟩⟩
 case round =>
  clear HSP3 HBF3 HM3
  obtain ⟨Y,out,work,hsp,hbf,hk,HMX⟩:=hrel
  have c1:=cell_of_one hsp.out.spr.outBox
  obtain ⟨v,hv,hq⟩:=hsp.out.spr.wkBox
  cases work with
  | nil =>
   obtain ⟨av,cv,rfl,_⟩:=hq.slice
   have c2:=cell_of_one hv
   have HE : Aside0 (FarPost w g B p (prevL p) a (.returned (.slice (some ⟨ob,0,none⟩) out.length cap)) wr):=⟨⟨_,out,rfl,Kd.R_mono hsp.out.spr.row (fun _ _=>trivial),fun _=>by rw [HN.out]; exact ⟨hbf.out.done hsp.out.z,fun v h0 h1=>by have:=hsp.out.q v h0 h1; omega⟩,fun h=>absurd (HN.out ▸ HA.out) h,hsp.out.gr.gr,hsp.out.fr⟩⟩
   simp only [List.length_nil] at c2
   clear hv hq hsp hbf hk
   go_wp2
   go_ret
   exact HE.out
  | cons c work =>
   obtain ⟨av,cv,rfl,hcv⟩:=hq.slice
   have hcut:=hq.cut
   obtain ⟨bq,off,rfl,hbq,hhead⟩:=hq.head
   have c2:=cell_of_one hv
   have f2:=free_of_one hv
   have hc:=hbf.out.inw c (by simp)
   obtain ⟨i0,hi0,hz0_,hz1_,hz2_⟩:=info_parts infoC_int
   have hct:=cut_from (P:=Try.prog) 23 3 .i64 Try.underlying23 hi0 1 hz1_ (some ⟨bq,off,none⟩) (c :: work).length cv 1 (by omega) (by simp; omega)
   rw [show (1 : Int).toNat = 1 from rfl] at hct
   obtain ⟨a2,ha2⟩ : ∃ x : Option Addr,(if cv = 1 then (some ⟨bq,off,none⟩ : Option Addr) else (some (⟨bq,off,none⟩ : Addr)).map (·.add (1 * 1))) = x:=⟨_,rfl⟩
   rw [ha2] at hct hcut
   obtain ⟨lw,hlw⟩ : ∃ k,(c :: work).length = k:=⟨_,rfl⟩
   have hlw1 : work.length + 1 = lw:=by rw [← hlw]; rfl
   rw [hlw] at hct hcut hcv hv c2
   have hd0_ : decide ((lw : Int) > 0) = true:=decide_eq_true (by omega)
   have hd1_ : decide (0 < (lw : Int)) = true:=decide_eq_true (by omega)
   have hd2_ : decide (0 < lw) = true:=decide_eq_true (by omega)
   have hp0 : (0 < lw) = True:=eq_true (by omega)
   have hp1 : (0 < (lw : Int)) = True:=eq_true (by omega)
   have hfs:=fr_set wr ⟨bw,0,none⟩ (.slice a2 (lw - 1) (cv - 1))
   have HSPA : Aside0 (Spr (wr.setCell ⟨bw,0,none⟩ (.slice a2 (lw - 1) (cv - 1))) w.heap.size bo bw ob cap Y out work):=⟨⟨(hfs.block bo (blk_lt hsp.out.spr.outBox) hsp.out.spr.ne).trans hsp.out.spr.outBox,⟨_,one_setCell hv,hcut.fr hfs fun i hi e=>hi.2.2.1 e⟩,
    Kd.R_step hsp.out.spr.row (fun k hk hlt=>hfs.block k hlt (by rw [hk]; exact hsp.out.spr.ob_bw)),hsp.out.spr.ne,hsp.out.spr.lo,hsp.out.spr.nX⟩⟩
   have HYA : Aside0 (GrY (wr.setCell ⟨bw,0,none⟩ (.slice a2 (lw - 1) (cv - 1))) g B p Y):=⟨hsp.out.gr.keep fun i hi h=>hfs.block i hi fun e=>by
    have e : i = bw:=e
    rcases h with h | h
    ·have:=HGL.out
     have:=hsp.out.spr.lo
     omega
    ·exact hsp.out.spr.nX.1 (e ▸ h)⟩
   have HFA : Aside0 (Fr w (wr.setCell ⟨bw,0,none⟩ (.slice a2 (lw - 1) (cv - 1))) (fun i=>i = g)):=⟨fr_new hsp.out.fr hfs fun i (e : i = bw)=>by rw [e]; exact hsp.out.spr.lo.2⟩
   have HLA : Aside0 (∀ i,Y i → i < (wr.setCell ⟨bw,0,none⟩ (.slice a2 (lw - 1) (cv - 1))).heap.size):=⟨fun i hi=>Nat.lt_of_lt_of_le (hsp.out.lt i hi) hfs.size⟩
   have HZ:=Aside0.mk hsp.out.z
   have HQQ:=Aside0.mk hsp.out.q
   have HK : Aside0 (2 * negs out + work.length + 1 < gk):=⟨by have:=hk.out; simp only [List.length_cons] at this; omega⟩
   have HCW:=Aside0.mk hc
   clear hfs hq hcut hbq hc hsp hk ha2 hlw hlw1 hcv hv hz0_ hz1_ hz2_ hi0
   go_upto_region 10 with (fail)
   generalize wr.setCell ⟨bw,0,none⟩ (.slice a2 (lw - 1) (cv - 1)) = wa at HSPA HYA HFA HLA ⊢
   have HNC:=Aside0.mk (graphPrev2 HP.out HYA.out.gr (x:=c) (Gr.wfI_of (by have:=HCW.out; have:=H256.out; omega)))
   clear c1 c2 f2 hhead hct hd0_ hd1_ hd2_ hp0 hp1
   go_wp2_with fail
   refine HNC.out.mono ?_
   rintro e wb ⟨⟨vr,rfl,hRr,hMr,hFr⟩,hYr⟩
   obtain ⟨ar,cr,rfl⟩:=Kd.R_slice hRr
   obtain ⟨X,hX⟩ : ∃ X : Nat → Prop,X = fun i=>(Y i ∨ wa.heap.size ≤ i) ∧ i < wb.heap.size:=⟨_,rfl⟩
   have HRB : Aside0 (Kd.R (Kd.int .i64) 3 wb wa.heap.size X (.slice ar (prevL p c).length cr) (prevL p c)):=⟨Kd.R_mono (Kd.R_bound hRr) fun k hk=>by rw [hX]; exact ⟨.inr hk.2.1,hk.2.2.1⟩⟩
   have HYB : Aside0 (GrY wb g B p X):=⟨(hYr Y HYA.out).lt.mono fun i hi=>by rw [hX]; exact hi⟩
   have HXL : Aside0 (∀ i,X i → i < wb.heap.size):=⟨fun i hi=>by rw [hX] at hi; exact hi.2⟩
   have HSB : Aside0 (Spr wb w.heap.size bo bw ob cap X out work):=⟨by
    obtain ⟨v0,hv0,_⟩:=HSPA.out.wkBox
    obtain ⟨c0,hc0⟩:=HSPA.out.obT
    have h1:=blk_lt hv0
    have h2:=blk_lt hc0
    refine (HSPA.out.mono (X':=X) (fun i hi hok h=>?_) (fun h=>?_) (fun h=>?_)).fr hFr (fun i hi e=>by have:=HGL.out; omega)
    ·rw [hX] at h
     exact h.1.elim hok.2.2.2.2 fun h=>by omega
    ·rw [hX] at h
     exact h.1.elim HSPA.out.nX.1 fun h=>by omega
    ·rw [hX] at h
     exact h.1.elim HSPA.out.nX.2 fun h=>by omega⟩
   have HSP4 : Aside0 (Sp w wb g B w.heap.size bo bw ob cap n p (prevL p) a X out work):=⟨⟨HSB.out,HYB.out,HXL.out,HFA.out.trans hFr,HQQ.out,HZ.out⟩⟩
   obtain ⟨dc,hdc⟩ : ∃ z,rd out c = z:=⟨_,rfl⟩
   have HDC:=Aside0.mk hdc
   have hll:=HLN.out c
   obtain ⟨l,hl⟩ : ∃ l,prevL p c = l:=⟨_,rfl⟩
   rw [hl] at HRB hll ⊢
   have HLM : Aside0 (∀ u,u ∈ l ↔ u ∈ prevL p c):=⟨fun u=>by rw [hl]⟩
   have HLL:=Aside0.mk hll
   clear hRr hMr hFr hYr hX HYB HSB HSPA HYA HFA HLA HNC HQQ HZ hdc hll hl
   go_wp2
   go_loopw [38] (fun v38 wi=>∃ (i : Nat) (out' work' : List Int),v38 = .int .i64 i ∧ Aside0 (i ≤ l.length) ∧ Aside0 (Sp w wi g B w.heap.size bo bw ob cap n p (prevL p) a X out' work') ∧ Aside0 (Bfs n (prevL p) a out' (c :: work')) ∧ Aside0 (rd out' c = dc) ∧ Aside0 (∀ u ∈ l.take i,0 ≤ rd out' u) ∧
     Aside0 (2 * negs out' + work'.length ≤ 2 * negs out + work.length) ∧ Aside0 (Kd.R (Kd.int .i64) 3 wi wa.heap.size X (.slice ar l.length cr) l) ∧ Aside0 (wb.heap.size ≤ wi.heap.size))
    (fun v _=>l.length - (intOf v).toNat)
   case atStart=>exact ⟨0,out,work,rfl,⟨Nat.zero_le _⟩,HSP4,hbf,HDC,⟨by simp⟩,⟨Nat.le_refl _⟩,HRB,⟨Nat.le_refl _⟩⟩
   case round =>
    clear HSP4 hbf HDC HRB
    obtain ⟨i,out',work',rfl,hi,hsp,hbf,hdc,htk,hms,hrw,hsz⟩:=hrel
    have hi:=hi.out
    have hl1:=HLL.out
    by_cases hil : i < l.length
    ·obtain ⟨u,hu⟩ : ∃ u,rd l (i : Int) = u:=⟨_,rfl⟩
     have hum : u ∈ l:=hu ▸ rd_mem hil
     obtain ⟨as_,ea,hx⟩:=Kd.at_int (Kd.R_reads' hrw.out).2.2 (i : Int) (by omega) (by omega)
     cases ea
     rw [Int.toNat_natCast,hu] at hx
     have hcr:=(hbf.out.inw c (by simp)).1
     have hln:=hbf.out.len
     obtain ⟨hxc0,_⟩:=Kd.R_celln 0 hsp.out.spr.row c hcr.1 (by omega)
     have hxc : wr.cell? ⟨ob,c.toNat,none⟩ = some (.int .i64 dc):=by rw [← hdc.out]; exact hxc0
     clear hxc0
     have c1:=cell_of_one hsp.out.spr.outBox
     have hdq:=hsp.out.q c hcr.1 hcr.2
     rw [hdc.out] at hdq
     have hd0:=(hbf.out.inw c (by simp)).2
     rw [hdc.out] at hd0
     have h256:=H256.out
     have hur:=HNX.out c hcr.1 hcr.2 u ((HLM.out u).1 hum)
     have hbl:=hbf.out.low
     have hwk : work'.length < 1000000:=by have:=hms.out; have:=HK.out; have:=HMX.out; omega
     have HC:=Aside0.mk (reach_calls hsp.out.spr (by have:=hsp.out.fr.size; omega) (fun j h1 h2=>by have:=HXL.out j h2; have:=hsz.out; omega) (t:=u) (s:=dc + 1) ⟨hur.1,by omega⟩ hwk)
     have HST:=Aside0.mk (bfs_step hbf.out hdc.out ((HLM.out u).1 hum) hsp.out.q)
     have hwr : IntKind.i64.wrap (dc + 1) = dc + 1:=IntWalk.i64_in _ (by omega)
     have HWR1:=Lib.hid hwr
     clear hwr
     have hwr2 : wrap64 (dc + 1) = dc + 1:=by
      have h1 : -9223372036854775808 ≤ dc + 1 ∧ dc + 1 ≤ 9223372036854775807:=by omega
      unfold wrap64
      omega
     have HWR:=Aside0.mk (And.intro HWR1.out hwr2)
     clear hwr2 HWR1
     have hp0 : (0 ≤ (i : Int)) = True:=eq_true (by omega)
     have hp1 : ((i : Int) < (l.length : Int)) = True:=eq_true (by omega)
     have hp2 : (0 ≤ c) = True:=eq_true hcr.1
     have hp3 : (c < (out'.length : Int)) = True:=eq_true (by omega)
     have hid : decide ((i : Int) < (l.length : Int)) = true:=decide_eq_true (by omega)
     have HU:=Lib.hid hu
     have HUR:=Aside0.mk hur
     have HIL:=Aside0.mk hil
     obtain ⟨hwr,hwr2⟩:=HWR.out
     clear hu hum hcr hln hdq hd0 hur hbl hwk hil
     go_wp2_with fail
     refine HC.out.mono ?_
     rintro e wz ⟨rfl,hS,hF⟩
     clear hwr hwr2 hp0 hp1 hp2 hp3 hid hx hxc c1
     have HSPZ:=Aside0.mk (hsp.out.next HGL.out (Nat.le_refl _) hS hF HST.out.2.2.2.2.1 ((HST.out.2.2.1 a HA.out.1 HA.out.2 (by rw [hsp.out.z]; exact Int.le_refl _)).trans hsp.out.z))
     have HRZ : Aside0 (Kd.R (Kd.int .i64) 3 wz wa.heap.size X (.slice (some as_) l.length cr) l):=⟨Kd.R_step hrw.out fun k hk hlt=>hF.block k hlt fun h=>h.2 hk⟩
     have HSZZ : Aside0 (wb.heap.size ≤ wz.heap.size):=⟨Nat.le_trans hsz.out hF.size⟩
     have HTKZ : Aside0 (∀ z ∈ l.take (i + 1),0 ≤ rd (if rd out' u < 0 then out'.set u.toNat (dc + 1) else out') z):=⟨fun z hz=>by
      rw [List.take_add_one,List.mem_append] at hz
      rcases hz with hz | hz
      ·have h1:=htk.out z hz
       have h2:=HNX.out c (hbf.out.inw c (by simp)).1.1 (hbf.out.inw c (by simp)).1.2 z ((HLM.out z).1 (List.mem_of_mem_take hz))
       rw [HST.out.2.2.1 z h2.1 h2.2 h1]
       exact h1
      ·rw [List.getElem?_eq_getElem HIL.out] at hz
       have h1 : z = u:=by
        have h2 : z = l[i]'HIL.out:=by simpa using hz
        rw [h2,← HU.out]
        unfold rd
        rw [Int.toNat_natCast,List.getD_eq_getElem?_getD,List.getElem?_eq_getElem HIL.out]
        rfl
       rw [h1]
       exact HST.out.2.2.2.1⟩
     have HBZ:=Aside0.mk HST.out.1
     have HDZ:=Aside0.mk HST.out.2.1
     have HMZ : Aside0 (2 * negs (if rd out' u < 0 then out'.set u.toNat (dc + 1) else out') + (if rd out' u < 0 then work' ++ [u] else work').length ≤ 2 * negs out + work.length):=⟨Nat.le_trans HST.out.2.2.2.2.2 hms.out⟩
     clear hS hF HC HST
     generalize (if rd out' u < 0 then out'.set u.toNat (dc + 1) else out') = outz at HSPZ HTKZ HBZ HDZ HMZ
     generalize (if rd out' u < 0 then work' ++ [u] else work') = workz at HSPZ HBZ HMZ
     go_wp2
     go_roundw
     case rel=>exact ⟨i + 1,outz,workz,by go_num,⟨HIL.out⟩,HSPZ,HBZ,HDZ,HTKZ,HMZ,HRZ,HSZZ⟩
     case measure=>have:=HIL.out; simp [intOf]; omega
    ·have hi' : i = l.length:=by omega
     subst hi'
     have hid : decide ((l.length : Int) < (l.length : Int)) = false:=decide_eq_false (by omega)
     have HBZ : Aside0 (Bfs n (prevL p) a out' work'):=⟨hbf.out.drop fun u hu=>⟨htk.out u (by rw [List.take_length]; exact (HLM.out u).2 hu),by
      have h1:=(hbf.out.inw c (by simp)).1
      have h2:=HNX.out c h1.1 h1.2 u hu
      exact hbf.out.top c (by simp) u h2.1 h2.2⟩⟩
     have HMZ : Aside0 (2 * negs out' + work'.length + 1 < gk):=⟨by have:=hms.out; have:=HK.out; omega⟩
     clear hbf hdc htk hms hrw hsz
     go_wp2
     go_roundg (2 * negs out' + work'.length + 1)
     case measure=>exact HMZ.out
     case rel=>exact ⟨X,out',work',hsp,HBZ,⟨Nat.lt_succ_self _⟩,⟨by have:=HMZ.out; have:=HMX.out; omega⟩⟩
set_option maxRecDepth 100000 in
set_option maxHeartbeats 4000000 in
theorem farTo {w : World} {g B : Nat} {p : Im} (hp : Rt p) (hg : Gr w g B p) (hnx : ∀ v : Int,0 ≤ v → v < p.f5.length → ∀ u ∈ prevL p v,0 ≤ u ∧ u < p.f5.length) (hl3 : p.f3.length ≤ 100) (hl4 : p.f4.length ≤ 40) {a : Int} :
  Calls Try.prog 20 #[.pointer (some ⟨g,0,none⟩),.int .i64 a] w (FarPost w g B p (prevL p) a):=by
 have h256:=hp.fits.2.2.1
 have HIM:=Aside0.mk (graphImage hg hl3 hl4 (by omega))
 have HSP:=Aside0.mk (fun (w1 : World) (h : Below w.heap.size w w1)=>spreadPrev hp (hg.below h) hnx (fun v=>Nat.le_trans (prev_len p h256 v) (by omega)) (a:=a))
 have HGL:=Aside0.mk hg.lt
 have hmf : ∀ (fn : Fn) (first cap : Array Value) (w : World),(Instr.makeFunc fn first cap).run Try.prog w = .ok (.func fn first cap) w:=fun _ _ _ _=>rfl
 clear hg hnx hl3 hl4 h256
 go_enter Try.func20,Try.ntmps20
 go_wp2_with fail
 refine HIM.out.mono ?_
 rintro e w1 ⟨v3,v4,v5,rfl,h3,h4,h5,hB⟩
 obtain ⟨A3,c3,rfl⟩:=Kd.R_slice h3
 obtain ⟨A4,c4,rfl⟩:=Kd.R_slice h4
 obtain ⟨A5,c5,rfl⟩:=Kd.R_slice h5
 have HS1:=Aside0.mk (HSP.out w1 hB)
 have HB1:=Aside0.mk hB
 have hfd : ∀ w : World,(Instr.field 26 (.agg #[.int .i64 p.f0,.int .i64 p.f1,.int .i64 p.f2,.slice A3 p.f3.length c3,.slice A4 p.f4.length c4,.slice A5 p.f5.length c5]) 5).run Try.prog w = .ok (.slice A5 p.f5.length c5) w:=fun _=>by kernel_rfl
 clear h3 h4 h5 hB HSP HIM
 go_wp2_with fail
 refine HS1.out.mono ?_
 rintro e w2 ⟨v,d,rfl,hR,hd,hn,hG,hF⟩
 have HE : Aside0 (FarPost w g B p (prevL p) a (.returned v) w2):=⟨⟨v,d,rfl,Kd.R_lower hR HB1.out.size,hd,hn,hG,((Fr.of_below HB1.out).mono (S':=fun i=>i = g) fun i h1 h2=>by omega).trans hF⟩⟩
 obtain ⟨Ad,cd,rfl⟩:=Kd.R_slice hR
 clear hR hd hn hG hF HS1
 go_wp2
 go_ret
 exact HE.out
end Go.Proofs.Ytcbnhfnnjkkceaa.X
end
section
namespace Go.Proofs.Ytcbnhfnnjkkceaa.X
open Go.RowKit Go.Proofs.YtcbnhfnnjkkceaaW.PrintWords Go.Proofs.Ytcbnhfnnjkkceaa.Gr
theorem way_first {n : Nat} {nx : Int → List Int} {b u : Int} (hb : 0 ≤ b ∧ b < n) (hu : u ∈ nx b) : ∀ (k : Nat) (a : Int),Way n nx u k a → Way n nx b (k + 1) a
 | 0,a,h=>by
  have h : a = u:=h
  subst h
  exact ⟨b,rfl,hb,hu⟩
 | k + 1,a,h=>by
  obtain ⟨t,h1,h2,h3⟩:=h
  exact ⟨t,way_first hb hu k t h1,h2,h3⟩
theorem way_rev {n : Nat} {nx pv : Int → List Int} (hT : ∀ u v : Int,(0 ≤ u ∧ u < n) → (0 ≤ v ∧ v < n) → v ∈ nx u → u ∈ pv v) {a : Int} : ∀ (k : Nat) (b : Int),(0 ≤ b ∧ b < n) → Way n nx a k b → Way n pv b k a
 | 0,b,_,h=>by
  have h : b = a:=h
  exact h.symm
 | k + 1,b,hb,h=>by
  obtain ⟨u,h1,h2,h3⟩:=h
  exact way_first hb (hT u b h2 hb h3) k a (way_rev hT k u h2 h1)
theorem way_app {n : Nat} {nx : Int → List Int} {a c : Int} {k : Nat} (h : Way n nx a k c) : ∀ (m : Nat) (b : Int),Way n nx c m b → Way n nx a (k + m) b
 | 0,b,h'=>by
  have h' : b = c:=h'
  rw [h']
  exact h
 | m + 1,b,h'=>by
  obtain ⟨u,h1,h2,h3⟩:=h'
  exact ⟨u,way_app h m u h1,h2,h3⟩
/-- Both tell alike. -/
theorem dist_both {n : Nat} {nx pv : Int → List Int} {a b : Int} {d e : List Int} (hT : ∀ u v : Int,(0 ≤ u ∧ u < n) → (0 ≤ v ∧ v < n) → (v ∈ nx u ↔ u ∈ pv v)) (ha : 0 ≤ a ∧ a < n) (hb : 0 ≤ b ∧ b < n) (hd : DistOf n nx a d) (he : DistOf n pv b e) : rd d b = rd e a:=by
 have h1:=hd.low b hb.1 hb.2
 have h2:=he.low a ha.1 ha.2
 rcases Int.lt_or_le (rd d b) 0 with h3 | h3
 ·rcases Int.lt_or_le (rd e a) 0 with h4 | h4
  ·omega
  ·have:=hd.least _ b hb.1 hb.2 (way_rev (fun u v hu hv h=>(hT v u hv hu).2 h) _ a ha (he.way a ha.1 ha.2 h4))
   omega
 ·have h5:=he.least _ a ha.1 ha.2 (way_rev (fun u v hu hv h=>(hT u v hu hv).1 h) _ b hb (hd.way b hb.1 hb.2 h3))
  have h6:=hd.least _ b hb.1 hb.2 (way_rev (fun u v hu hv h=>(hT v u hv hu).2 h) _ a ha (he.way a ha.1 ha.2 h5.1))
  omega
/-- By way of a third it is no less. -/
theorem dist_tri {n : Nat} {nx : Int → List Int} {a b c : Int} {d f : List Int} (hb : 0 ≤ b ∧ b < n) (hc : 0 ≤ c ∧ c < n) (hd : DistOf n nx a d) (hf : DistOf n nx c f) (h1 : 0 ≤ rd d c) (h2 : 0 ≤ rd f b) : 0 ≤ rd d b ∧ rd d b ≤ rd d c + rd f b:=by
 have:=hd.least _ b hb.1 hb.2 (way_app (hd.way c hc.1 hc.2 h1) _ b (hf.way b hb.1 hb.2 h2))
 omega
end Go.Proofs.Ytcbnhfnnjkkceaa.X
end
section
namespace Go.Proofs.Ytcbnhfnnjkkceaa.X
open Go.RowKit Go.Proofs.YtcbnhfnnjkkceaaW.PrintWords Go.Proofs.YtcbnhfnnjkkceaaW.PrintLast Go.Proofs.YtcbnhfnnjkkceaaW.PrintMore
attribute [local go_sem] max2_int min2_int max_two min_two max_three min_three max_four min_four
mutual
def z0e.j0 : Nat → Int → Bool → Option (ByteArray)
 | 0,_,_=>none
 | k + 1,x3,x4=>if x4 = true then (some (⟨#[]⟩ : ByteArray)) else (if x3 = 1 then (z0e.j1 k x3 (x3 == 1)) else (z0e.j1 k x3 (x3 == 22)))
def z0e.j1 : Nat → Int → Bool → Option (ByteArray)
 | 0,_,_=>none
 | k + 1,x3,x8=>if x8 = true then (some (⟨#[97,105]⟩ : ByteArray)) else (if x3 = 2 then (some (⟨#[97,98]⟩ : ByteArray)) else (if x3 = 17 then (z0e.j2 k x3 (x3 == 17)) else (z0e.j2 k x3 (x3 == 18))))
def z0e.j2 : Nat → Int → Bool → Option (ByteArray)
 | 0,_,_=>none
 | k + 1,x3,x13=>if x13 = true then (some (⟨#[97,98,119,105]⟩ : ByteArray)) else (if x3 = 19 then (some (⟨#[97,98,105]⟩ : ByteArray)) else (if x3 = 20 then (some (⟨#[97]⟩ : ByteArray)) else (if x3 = 21 then (some (⟨#[105]⟩ : ByteArray)) else (if x3 = 23 then (some (⟨#[105]⟩ : ByteArray)) else (some (⟨#[97,98,99]⟩ : ByteArray))))))
end
def z0e.f (k : Nat) (a0 : Int) : Option (ByteArray):=if a0 = 0 then (z0e.j0 k a0 (a0 == 0)) else (if a0 = 24 then (z0e.j0 k a0 (a0 == 24)) else (z0e.j0 k a0 (a0 == 25)))
theorem z0e.mono_l : ∀ k,(∀ y0 y1,LeO (z0e.j0 k y0 y1) (z0e.j0 (k + 1) y0 y1)) ∧ (∀ y0 y1,LeO (z0e.j1 k y0 y1) (z0e.j1 (k + 1) y0 y1)) ∧ (∀ y0 y1,LeO (z0e.j2 k y0 y1) (z0e.j2 (k + 1) y0 y1))
 | 0=>⟨fun _ _ r h=>by simp [z0e.j0] at h,fun _ _ r h=>by simp [z0e.j1] at h,fun _ _ r h=>by simp [z0e.j2] at h⟩
 | k + 1=>by
  obtain ⟨ih0,ih1,ih2⟩:=z0e.mono_l k
  refine ⟨?_,?_,?_⟩
  ·intro y0 y1
   unfold z0e.j0
   repeat' first
   | (with_reducible exact ih0 _ _)
   | (with_reducible exact ih1 _ _)
   | (with_reducible exact ih2 _ _)
   | (with_reducible exact LeO.refl _)
   | (with_reducible exact LeO.none _)
   | (with_reducible refine LeO.ite ?_ ?_)
   | (with_reducible refine LeO.bind ?_ (fun _=>?_))
   | exact ih0 _ _
   | exact ih1 _ _
   | exact ih2 _ _
   | exact LeO.none _
   | refine LeO.ite ?_ ?_
   | refine LeO.bind ?_ (fun _=>?_)
  ·intro y0 y1
   unfold z0e.j1
   repeat' first
   | (with_reducible exact ih0 _ _)
   | (with_reducible exact ih1 _ _)
   | (with_reducible exact ih2 _ _)
   | (with_reducible exact LeO.refl _)
   | (with_reducible exact LeO.none _)
   | (with_reducible refine LeO.ite ?_ ?_)
   | (with_reducible refine LeO.bind ?_ (fun _=>?_))
   | exact ih0 _ _
   | exact ih1 _ _
   | exact ih2 _ _
   | exact LeO.none _
   | refine LeO.ite ?_ ?_
   | refine LeO.bind ?_ (fun _=>?_)
  ·intro y0 y1
   unfold z0e.j2
   repeat' first
   | (with_reducible exact ih0 _ _)
   | (with_reducible exact ih1 _ _)
   | (with_reducible exact ih2 _ _)
   | (with_reducible exact LeO.refl _)
   | (with_reducible exact LeO.none _)
   | (with_reducible refine LeO.ite ?_ ?_)
   | (with_reducible refine LeO.bind ?_ (fun _=>?_))
   | exact ih0 _ _
   | exact ih1 _ _
   | exact ih2 _ _
   | exact LeO.none _
   | refine LeO.ite ?_ ?_
   | refine LeO.bind ?_ (fun _=>?_)
theorem z0e.mono : ∀ a0 k,LeO (z0e.f k a0) (z0e.f (k + 1) a0):=by
 intro a0 k
 obtain ⟨ih0,ih1,ih2⟩:=z0e.mono_l k
 unfold z0e.f
 repeat' first
   | (with_reducible exact ih0 _ _)
   | (with_reducible exact ih1 _ _)
   | (with_reducible exact ih2 _ _)
   | (with_reducible exact LeO.refl _)
   | (with_reducible exact LeO.none _)
   | (with_reducible refine LeO.ite ?_ ?_)
   | (with_reducible refine LeO.bind ?_ (fun _=>?_))
   | exact ih0 _ _
   | exact ih1 _ _
   | exact ih2 _ _
   | exact LeO.none _
   | refine LeO.ite ?_ ?_
   | refine LeO.bind ?_ (fun _=>?_)
set_option maxHeartbeats 8000000 in
set_option maxRecDepth 100000 in
theorem z0e.calls (k : Nat) (a0 : Int) (r : ByteArray) (w : World) (h : z0e.f k a0 = some r) :
  Calls Try.prog 78 #[.int .i64 a0] w fun e w'=>e = .returned (.string r) ∧ Drawn0 w w':=by
 have H : (if a0 = 0 then (z0e.j0 k a0 (a0 == 0)) else (if a0 = 24 then (z0e.j0 k a0 (a0 == 24)) else (z0e.j0 k a0 (a0 == 25)))) = some r:=h
 clear h
 have HC2:=Aside0.mk H
 clear H
 go_enter Try.func78,Try.ntmps78
 go_upto_if 4 with (fail)
 go_cut [4] (fun v4 wc=>∃ (kq : Nat) (x4_1 : Bool),v4 = .bool x4_1 ∧ Aside0 (z0e.j0 kq a0 x4_1 = some r) ∧ Aside0 (kq ≤ k) ∧ Drawn0 w wc)
 case first =>
  have H:=HC2.out
  clear HC2
  by_cases c3 : a0 = 0
  ·rw [if_pos c3] at H
   have c3b0 : (a0 == 0) = true:=beq_iff_eq.mpr c3
   have c3b1 : (a0 != 0) = false:=bne_eq_false_iff_eq.mpr c3
   clear c3
   (first | rw [c3b0] | (simp only [i64_w,i32_w]; rw [c3b0]) | skip)
   have H':=Aside0.mk H
   clear H
   go_wp2
   go_meet
   case rel=>exact ⟨_,((a0 == 0)),(by first | rfl | (simp; done) | (simp [*]; done)),H',⟨by first | omega | exact Nat.le_refl _⟩,by repeat (first | exact Drawn0.refl _ | apply Drawn0.step)⟩
  ·rw [if_neg c3] at H
   have c3b0 : (a0 == 0) = false:=beq_eq_false_iff_ne.mpr c3
   have c3b1 : (a0 != 0) = true:=bne_iff_ne.mpr c3
   (first | rw [c3b0] | (simp only [i64_w,i32_w]; rw [c3b0]) | skip)
   by_cases c4 : a0 = 24
   ·rw [if_pos c4] at H
    have c4b0 : (a0 == 24) = true:=beq_iff_eq.mpr c4
    have c4b1 : (a0 != 24) = false:=bne_eq_false_iff_eq.mpr c4
    clear c4
    have H':=Aside0.mk H
    clear H
    go_wp2
    go_meet
    case rel=>exact ⟨_,((a0 == 24)),(by first | rfl | (simp; done) | (simp [*]; done)),H',⟨by first | omega | exact Nat.le_refl _⟩,by repeat (first | exact Drawn0.refl _ | apply Drawn0.step)⟩
   ·rw [if_neg c4] at H
    have c4b0 : (a0 == 24) = false:=beq_eq_false_iff_ne.mpr c4
    have c4b1 : (a0 != 24) = true:=bne_iff_ne.mpr c4
    have H':=Aside0.mk H
    clear H
    go_wp2
    go_meet
    case rel=>exact ⟨_,((a0 == 25)),(by first | rfl | (simp; done) | (simp [*]; done)),H',⟨by first | omega | exact Nat.le_refl _⟩,by repeat (first | exact Drawn0.refl _ | apply Drawn0.step)⟩
 case rest =>
  clear HC2
  try clear p2
  try clear c3
  try clear c3b0
  try clear c3b1
  try clear c4
  try clear c4b0
  try clear c4b1
  obtain ⟨kq,x4_1,rfl,HA,HJ1,⟨mc1,rfl⟩⟩:=hcut
  cases kq with
  | zero=>exact absurd HA.out (by simp [z0e.j0])
  | succ kj1 =>
   have H:=HA.out
   clear HA
   simp only [z0e.j0] at H
   by_cases c5 : x4_1 = true
   ·subst c5
    have H1 : (some (⟨#[]⟩ : ByteArray)) = some r:=by rw [if_pos rfl] at H; exact H
    clear H
    have H:=H1
    clear H1
    obtain rfl:=Option.some.inj H
    go_wp2
    go_ret
    exact ⟨by first | rfl | (simp; done) | (simp [*]; done),by repeat (first | exact Drawn0.refl _ | apply Drawn0.step)⟩
   ·replace c5:=Bool.eq_false_iff.mpr c5
    subst c5
    have H1 : (if a0 = 1 then (z0e.j1 kj1 a0 (a0 == 1)) else (z0e.j1 kj1 a0 (a0 == 22))) = some r:=by rw [if_neg (show ¬ (false = true) by decide)] at H; exact H
    clear H
    have H:=H1
    clear H1
    have HC6:=Aside0.mk H
    clear H
    go_upto_if 8 with (fail)
    go_cut [8] (fun v8 wc=>∃ (kq : Nat) (x8_5 : Bool),v8 = .bool x8_5 ∧ Aside0 (z0e.j1 kq a0 x8_5 = some r) ∧ Aside0 (kq ≤ kj1) ∧ Drawn0 w wc)
    case first =>
     have H:=HC6.out
     clear HC6
     by_cases c7 : a0 = 1
     ·rw [if_pos c7] at H
      have c7b0 : (a0 == 1) = true:=beq_iff_eq.mpr c7
      have c7b1 : (a0 != 1) = false:=bne_eq_false_iff_eq.mpr c7
      clear c7
      (first | rw [c7b0] | (simp only [i64_w,i32_w]; rw [c7b0]) | skip)
      have H':=Aside0.mk H
      clear H
      go_wp2
      go_meet
      case rel=>exact ⟨_,((a0 == 1)),(by first | rfl | (simp; done) | (simp [*]; done)),H',⟨by have:=HJ1.out; first | omega | exact Nat.le_refl _⟩,by repeat (first | exact Drawn0.refl _ | apply Drawn0.step)⟩
     ·rw [if_neg c7] at H
      have c7b0 : (a0 == 1) = false:=beq_eq_false_iff_ne.mpr c7
      have c7b1 : (a0 != 1) = true:=bne_iff_ne.mpr c7
      (first | rw [c7b0] | (simp only [i64_w,i32_w]; rw [c7b0]) | skip)
      have H':=Aside0.mk H
      clear H
      go_wp2
      go_meet
      case rel=>exact ⟨_,((a0 == 22)),(by first | rfl | (simp; done) | (simp [*]; done)),H',⟨by have:=HJ1.out; first | omega | exact Nat.le_refl _⟩,by repeat (first | exact Drawn0.refl _ | apply Drawn0.step)⟩
    case rest =>
     clear HC6
     try clear c1
     try clear p2
     try clear c3
     try clear c3b0
     try clear c3b1
     try clear c4
     try clear c4b0
     try clear c4b1
     try clear c5
     try clear c7
     try clear c7b0
     try clear c7b1
     try clear p2
     obtain ⟨kq,x8_5,rfl,HA,HJ5,⟨mc5,rfl⟩⟩:=hcut
     cases kq with
     | zero=>exact absurd HA.out (by simp [z0e.j1])
     | succ kj5 =>
      have H:=HA.out
      clear HA
      simp only [z0e.j1] at H
      by_cases c8 : x8_5 = true
      ·subst c8
       have H1 : (some (⟨#[97,105]⟩ : ByteArray)) = some r:=by rw [if_pos rfl] at H; exact H
       clear H
       have H:=H1
       clear H1
       obtain rfl:=Option.some.inj H
       go_wp2
       go_ret
       exact ⟨by first | rfl | (simp; done) | (simp [*]; done),by repeat (first | exact Drawn0.refl _ | apply Drawn0.step)⟩
      ·replace c8:=Bool.eq_false_iff.mpr c8
       subst c8
       have H1 : (if a0 = 2 then (some (⟨#[97,98]⟩ : ByteArray)) else (if a0 = 17 then (z0e.j2 kj5 a0 (a0 == 17)) else (z0e.j2 kj5 a0 (a0 == 18)))) = some r:=by rw [if_neg (show ¬ (false = true) by decide)] at H; exact H
       clear H
       have H:=H1
       clear H1
       by_cases c9 : a0 = 2
       ·rw [if_pos c9] at H
        have c9b0 : (a0 == 2) = true:=beq_iff_eq.mpr c9
        have c9b1 : (a0 != 2) = false:=bne_eq_false_iff_eq.mpr c9
        clear c9
        obtain rfl:=Option.some.inj H
        go_wp2
        go_ret
        exact ⟨by first | rfl | (simp; done) | (simp [*]; done),by repeat (first | exact Drawn0.refl _ | apply Drawn0.step)⟩
       ·rw [if_neg c9] at H
        have c9b0 : (a0 == 2) = false:=beq_eq_false_iff_ne.mpr c9
        have c9b1 : (a0 != 2) = true:=bne_iff_ne.mpr c9
        have HC10:=Aside0.mk H
        clear H
        go_upto_if 13 with (fail)
        go_cut [13] (fun v13 wc=>∃ (kq : Nat) (x13_9 : Bool),v13 = .bool x13_9 ∧ Aside0 (z0e.j2 kq a0 x13_9 = some r) ∧ Aside0 (kq ≤ kj5) ∧ Drawn0 w wc)
        case first =>
         have H:=HC10.out
         clear HC10
         by_cases c11 : a0 = 17
         ·rw [if_pos c11] at H
          have c11b0 : (a0 == 17) = true:=beq_iff_eq.mpr c11
          have c11b1 : (a0 != 17) = false:=bne_eq_false_iff_eq.mpr c11
          clear c11
          (first | rw [c11b0] | (simp only [i64_w,i32_w]; rw [c11b0]) | skip)
          have H':=Aside0.mk H
          clear H
          go_wp2
          go_meet
          case rel=>exact ⟨_,((a0 == 17)),(by first | rfl | (simp; done) | (simp [*]; done)),H',⟨by have:=HJ1.out; have:=HJ5.out; first | omega | exact Nat.le_refl _⟩,by repeat (first | exact Drawn0.refl _ | apply Drawn0.step)⟩
         ·rw [if_neg c11] at H
          have c11b0 : (a0 == 17) = false:=beq_eq_false_iff_ne.mpr c11
          have c11b1 : (a0 != 17) = true:=bne_iff_ne.mpr c11
          (first | rw [c11b0] | (simp only [i64_w,i32_w]; rw [c11b0]) | skip)
          have H':=Aside0.mk H
          clear H
          go_wp2
          go_meet
          case rel=>exact ⟨_,((a0 == 18)),(by first | rfl | (simp; done) | (simp [*]; done)),H',⟨by have:=HJ1.out; have:=HJ5.out; first | omega | exact Nat.le_refl _⟩,by repeat (first | exact Drawn0.refl _ | apply Drawn0.step)⟩
        case rest =>
         clear HC10
         try clear c1
         try clear p2
         try clear c3
         try clear c3b0
         try clear c3b1
         try clear c4
         try clear c4b0
         try clear c4b1
         try clear c5
         try clear c7
         try clear c7b0
         try clear c7b1
         try clear c8
         try clear c9
         try clear c9b0
         try clear c9b1
         try clear c11
         try clear c11b0
         try clear c11b1
         try clear p2
         obtain ⟨kq,x13_9,rfl,HA,HJ9,⟨mc9,rfl⟩⟩:=hcut
         cases kq with
         | zero=>exact absurd HA.out (by simp [z0e.j2])
         | succ kj9 =>
          have H:=HA.out
          clear HA
          simp only [z0e.j2] at H
          by_cases c12 : x13_9 = true
          ·subst c12
           have H1 : (some (⟨#[97,98,119,105]⟩ : ByteArray)) = some r:=by rw [if_pos rfl] at H; exact H
           clear H
           have H:=H1
           clear H1
           obtain rfl:=Option.some.inj H
           go_wp2
           go_ret
           exact ⟨by first | rfl | (simp; done) | (simp [*]; done),by repeat (first | exact Drawn0.refl _ | apply Drawn0.step)⟩
          ·replace c12:=Bool.eq_false_iff.mpr c12
           subst c12
           have H1 : (if a0 = 19 then (some (⟨#[97,98,105]⟩ : ByteArray)) else (if a0 = 20 then (some (⟨#[97]⟩ : ByteArray)) else (if a0 = 21 then (some (⟨#[105]⟩ : ByteArray)) else (if a0 = 23 then (some (⟨#[105]⟩ : ByteArray)) else (some (⟨#[97,98,99]⟩ : ByteArray)))))) = some r:=by rw [if_neg (show ¬ (false = true) by decide)] at H; exact H
           clear H
           have H:=H1
           clear H1
           by_cases c13 : a0 = 19
           ·rw [if_pos c13] at H
            have c13b0 : (a0 == 19) = true:=beq_iff_eq.mpr c13
            have c13b1 : (a0 != 19) = false:=bne_eq_false_iff_eq.mpr c13
            clear c13
            obtain rfl:=Option.some.inj H
            go_wp2
            go_ret
            exact ⟨by first | rfl | (simp; done) | (simp [*]; done),by repeat (first | exact Drawn0.refl _ | apply Drawn0.step)⟩
           ·rw [if_neg c13] at H
            have c13b0 : (a0 == 19) = false:=beq_eq_false_iff_ne.mpr c13
            have c13b1 : (a0 != 19) = true:=bne_iff_ne.mpr c13
            by_cases c14 : a0 = 20
            ·rw [if_pos c14] at H
             have c14b0 : (a0 == 20) = true:=beq_iff_eq.mpr c14
             have c14b1 : (a0 != 20) = false:=bne_eq_false_iff_eq.mpr c14
             clear c14
             obtain rfl:=Option.some.inj H
             go_wp2
             go_ret
             exact ⟨by first | rfl | (simp; done) | (simp [*]; done),by repeat (first | exact Drawn0.refl _ | apply Drawn0.step)⟩
            ·rw [if_neg c14] at H
             have c14b0 : (a0 == 20) = false:=beq_eq_false_iff_ne.mpr c14
             have c14b1 : (a0 != 20) = true:=bne_iff_ne.mpr c14
             by_cases c15 : a0 = 21
             ·rw [if_pos c15] at H
              have c15b0 : (a0 == 21) = true:=beq_iff_eq.mpr c15
              have c15b1 : (a0 != 21) = false:=bne_eq_false_iff_eq.mpr c15
              clear c15
              obtain rfl:=Option.some.inj H
              go_wp2
              go_ret
              exact ⟨by first | rfl | (simp; done) | (simp [*]; done),by repeat (first | exact Drawn0.refl _ | apply Drawn0.step)⟩
             ·rw [if_neg c15] at H
              have c15b0 : (a0 == 21) = false:=beq_eq_false_iff_ne.mpr c15
              have c15b1 : (a0 != 21) = true:=bne_iff_ne.mpr c15
              by_cases c16 : a0 = 23
              ·rw [if_pos c16] at H
               have c16b0 : (a0 == 23) = true:=beq_iff_eq.mpr c16
               have c16b1 : (a0 != 23) = false:=bne_eq_false_iff_eq.mpr c16
               clear c16
               obtain rfl:=Option.some.inj H
               go_wp2
               go_ret
               exact ⟨by first | rfl | (simp; done) | (simp [*]; done),by repeat (first | exact Drawn0.refl _ | apply Drawn0.step)⟩
              ·rw [if_neg c16] at H
               have c16b0 : (a0 == 23) = false:=beq_eq_false_iff_ne.mpr c16
               have c16b1 : (a0 != 23) = true:=bne_iff_ne.mpr c16
               obtain rfl:=Option.some.inj H
               go_wp2
               go_ret
               exact ⟨by first | rfl | (simp; done) | (simp [*]; done),by repeat (first | exact Drawn0.refl _ | apply Drawn0.step)⟩
def z0f.l0 : Nat → ByteArray → Int → Int → Option (Bool)
 | 0,_,_,_=>none
 | k + 1,x0,x1,x5=>if x5 < (x0.size : Int) then (if 0 ≤ x5 then (if (bt x0 x5) = x1 then (some true) else (z0f.l0 k x0 x1 (wrap64 (x5 + 1)))) else (none)) else (some false)
def z0f.f (k : Nat) (a0 : ByteArray) (a1 : Int) : Option (Bool):=z0f.l0 k a0 a1 0
theorem z0f.mono_l : ∀ k,(∀ y0 y1 y2,LeO (z0f.l0 k y0 y1 y2) (z0f.l0 (k + 1) y0 y1 y2))
 | 0=>fun _ _ _ r h=>by simp [z0f.l0] at h
 | k + 1=>by
  have ih0:=z0f.mono_l k
  ·intro y0 y1 y2
   unfold z0f.l0
   repeat' first
   | (with_reducible exact ih0 _ _ _)
   | (with_reducible exact LeO.refl _)
   | (with_reducible exact LeO.none _)
   | (with_reducible refine LeO.ite ?_ ?_)
   | (with_reducible refine LeO.bind ?_ (fun _=>?_))
   | exact ih0 _ _ _
   | exact LeO.none _
   | refine LeO.ite ?_ ?_
   | refine LeO.bind ?_ (fun _=>?_)
theorem z0f.mono : ∀ a0 a1 k,LeO (z0f.f k a0 a1) (z0f.f (k + 1) a0 a1):=by
 intro a0 a1 k
 have ih0:=z0f.mono_l k
 unfold z0f.f
 repeat' first
   | (with_reducible exact ih0 _ _ _)
   | (with_reducible exact LeO.refl _)
   | (with_reducible exact LeO.none _)
   | (with_reducible refine LeO.ite ?_ ?_)
   | (with_reducible refine LeO.bind ?_ (fun _=>?_))
   | exact ih0 _ _ _
   | exact LeO.none _
   | refine LeO.ite ?_ ?_
   | refine LeO.bind ?_ (fun _=>?_)
set_option maxHeartbeats 8000000 in
set_option maxRecDepth 100000 in
theorem z0f.calls (k : Nat) (a0 : ByteArray) (a1 : Int) (r : Bool) (w : World) (h : z0f.f k a0 a1 = some r) :
  Calls Try.prog 80 #[.string a0,.int .u8 a1] w fun e w'=>e = .returned (.bool r) ∧ Drawn0 w w':=by
 have H : (z0f.l0 k a0 a1 0) = some r:=h
 clear h
 have H':=Aside0.mk H
 clear H
 go_enter Try.func80,Try.ntmps80
 go_wp2
 go_loopg [5] k (fun kq v5 w'=>∃ (x5_1 : Int),v5 = .int .i64 x5_1 ∧ Aside0 (z0f.l0 kq a0 a1 x5_1 = some r) ∧ Aside0 (kq ≤ k) ∧ Drawn0 w w')
 case atStart=>exact ⟨(0),(by first | rfl | (simp; done) | (simp [*]; done)),H',⟨Nat.le_refl _⟩,by repeat (first | exact Drawn0.refl _ | apply Drawn0.step)⟩
 case round =>
  clear H'
  try clear p2
  obtain ⟨x5_1,rfl,HA,HK1,⟨m1,rfl⟩⟩:=hrel
  cases gk with
  | zero=>exact absurd HA.out (by simp [z0f.l0])
  | succ k1 =>
   have H:=HA.out
   clear HA
   simp only [z0f.l0] at H
   by_cases c3 : x5_1 < (a0.size : Int)
   ·rw [if_pos c3] at H
    have c3b0 : decide (x5_1 < (a0.size : Int)) = true:=decide_eq_true c3
    clear c3
    by_cases c4 : 0 ≤ x5_1
    ·rw [if_pos c4] at H
     have c4b0 : decide (0 ≤ x5_1) = true:=decide_eq_true c4
     clear c4
     by_cases c6 : (bt a0 x5_1) = a1
     ·rw [if_pos c6] at H
      have c6b0 : ((bt a0 x5_1) == a1) = true:=beq_iff_eq.mpr c6
      have c6b1 : ((bt a0 x5_1) != a1) = false:=bne_eq_false_iff_eq.mpr c6
      clear c6
      obtain rfl:=Option.some.inj H
      have p5 : 0 ≤ (x5_1 : Int):=of_decide_eq_true (by assumption)
      have q5 : x5_1 < (a0.size : Int):=of_decide_eq_true (by assumption)
      have hx5:=bt_at a0 x5_1
      replace p5:=eq_true p5
      replace q5:=eq_true q5
      go_wp2
      go_ret
      exact ⟨by first | rfl | (simp; done) | (simp [*]; done),by repeat (first | exact Drawn0.refl _ | apply Drawn0.step)⟩
     ·rw [if_neg c6] at H
      have c6b0 : ((bt a0 x5_1) == a1) = false:=beq_eq_false_iff_ne.mpr c6
      have c6b1 : ((bt a0 x5_1) != a1) = true:=bne_iff_ne.mpr c6
      have H':=Aside0.mk H
      clear H
      have p5 : 0 ≤ (x5_1 : Int):=of_decide_eq_true (by assumption)
      have q5 : x5_1 < (a0.size : Int):=of_decide_eq_true (by assumption)
      have hx5:=bt_at a0 x5_1
      replace p5:=eq_true p5
      replace q5:=eq_true q5
      go_wp2
      go_roundg k1
      case measure=>have:=HK1.out; omega
      case rel=>exact ⟨(wrap64 (x5_1 + 1)),(by first | rfl | (simp; done) | (simp [*]; done)),H',⟨by have:=HK1.out; omega⟩,by repeat (first | exact Drawn0.refl _ | apply Drawn0.step)⟩
    ·rw [if_neg c4] at H
     exact absurd H (by simp)
   ·rw [if_neg c3] at H
    have c3b0 : decide (x5_1 < (a0.size : Int)) = false:=decide_eq_false c3
    clear c3
    obtain rfl:=Option.some.inj H
    go_wp2
    go_ret
    exact ⟨by first | rfl | (simp; done) | (simp [*]; done),by repeat (first | exact Drawn0.refl _ | apply Drawn0.step)⟩
def z0g.f (k : Nat) (a0 : ByteArray) (a1 : Int) (a2 : Int) : Option (Bool):=(z0f.f k a0 a1).bind fun t200=>(if t200 = true then (if a2 ≥ 0 then (some (decide (a2 ≤ 7))) else (some false)) else (some (a2 == 0)))
theorem z0g.mono : ∀ a0 a1 a2 k,LeO (z0g.f k a0 a1 a2) (z0g.f (k + 1) a0 a1 a2):=by
 intro a0 a1 a2 k
 unfold z0g.f
 repeat' first
   | (with_reducible exact z0f.mono _ _ _)
   | (with_reducible exact LeO.refl _)
   | (with_reducible exact LeO.none _)
   | (with_reducible refine LeO.ite ?_ ?_)
   | (with_reducible refine LeO.bind ?_ (fun _=>?_))
   | exact z0f.mono _ _ _
   | exact LeO.none _
   | refine LeO.ite ?_ ?_
   | refine LeO.bind ?_ (fun _=>?_)
set_option maxHeartbeats 8000000 in
set_option maxRecDepth 100000 in
theorem z0g.calls (k : Nat) (a0 : ByteArray) (a1 : Int) (a2 : Int) (r : Bool) (w : World) (h : z0g.f k a0 a1 a2 = some r) :
  Calls Try.prog 79 #[.string a0,.int .u8 a1,.int .i64 a2] w fun e w'=>e = .returned (.bool r) ∧ Drawn0 w w':=by
 have H : ((z0f.f k a0 a1).bind fun t200=>(if t200 = true then (if a2 ≥ 0 then (some (decide (a2 ≤ 7))) else (some false)) else (some (a2 == 0)))) = some r:=h
 clear h
 replace H:=Option.bind_eq_some_iff.mp H
 obtain ⟨t200,A40,H⟩:=H
 replace H : (if t200 = true then (if a2 ≥ 0 then (some (decide (a2 ≤ 7))) else (some false)) else (some (a2 == 0))) = some r:=H
 have A4:=Aside0.mk A40
 clear A40
 by_cases c5 : t200 = true
 ·subst c5
  have H1 : (if a2 ≥ 0 then (some (decide (a2 ≤ 7))) else (some false)) = some r:=by rw [if_pos rfl] at H; exact H
  clear H
  have H:=H1
  clear H1
  by_cases c6 : a2 ≥ 0
  ·rw [if_pos c6] at H
   have c6b0 : decide (0 ≤ a2) = true:=decide_eq_true c6
   clear c6
   obtain rfl:=Option.some.inj H
   go_enter Try.func79,Try.ntmps79
   go_wp2_with (first | ((with_reducible refine z0t (f:=80) rfl ?_); refine goesL_ (some 9) rfl rfl Try.func80 (by kernel_rfl) rfl #[.string a0,.int .u8 a1] rfl (by (try simp only [List.map_toArray,List.map_cons,List.map_nil]); first | done | rfl | (simp only [List.length_drop,List.length_take]; rfl)) ?_; (with_reducible refine (z0f.calls k a0 a1 true _ A4.out).mono ?_); rintro e w' ⟨rfl,⟨nd,rfl⟩⟩; refine ⟨_,rfl,?_⟩))
   go_ret
   exact ⟨by first | rfl | (simp; done) | (simp [*]; done),by repeat (first | exact Drawn0.refl _ | apply Drawn0.step)⟩
  ·rw [if_neg c6] at H
   have c6b0 : decide (0 ≤ a2) = false:=decide_eq_false c6
   clear c6
   obtain rfl:=Option.some.inj H
   go_enter Try.func79,Try.ntmps79
   go_wp2_with (first | ((with_reducible refine z0t (f:=80) rfl ?_); refine goesL_ (some 9) rfl rfl Try.func80 (by kernel_rfl) rfl #[.string a0,.int .u8 a1] rfl (by (try simp only [List.map_toArray,List.map_cons,List.map_nil]); first | done | rfl | (simp only [List.length_drop,List.length_take]; rfl)) ?_; (with_reducible refine (z0f.calls k a0 a1 true _ A4.out).mono ?_); rintro e w' ⟨rfl,⟨nd,rfl⟩⟩; refine ⟨_,rfl,?_⟩))
   go_ret
   exact ⟨by first | rfl | (simp; done) | (simp [*]; done),by repeat (first | exact Drawn0.refl _ | apply Drawn0.step)⟩
 ·replace c5:=Bool.eq_false_iff.mpr c5
  subst c5
  have H1 : (some (a2 == 0)) = some r:=by rw [if_neg (show ¬ (false = true) by decide)] at H; exact H
  clear H
  have H:=H1
  clear H1
  obtain rfl:=Option.some.inj H
  go_enter Try.func79,Try.ntmps79
  go_wp2_with (first | ((with_reducible refine z0t (f:=80) rfl ?_); refine goesL_ (some 9) rfl rfl Try.func80 (by kernel_rfl) rfl #[.string a0,.int .u8 a1] rfl (by (try simp only [List.map_toArray,List.map_cons,List.map_nil]); first | done | rfl | (simp only [List.length_drop,List.length_take]; rfl)) ?_; (with_reducible refine (z0f.calls k a0 a1 false _ A4.out).mono ?_); rintro e w' ⟨rfl,⟨nd,rfl⟩⟩; refine ⟨_,rfl,?_⟩))
  go_ret
  exact ⟨by first | rfl | (simp; done) | (simp [*]; done),by repeat (first | exact Drawn0.refl _ | apply Drawn0.step)⟩
end Go.Proofs.Ytcbnhfnnjkkceaa.X
end
