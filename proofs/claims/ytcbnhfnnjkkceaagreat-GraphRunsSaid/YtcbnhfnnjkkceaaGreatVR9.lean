/- For the statement of the row : what its proof needs of the text R9. -/
import Derived.Deep.Slices
import Derived.ChangeArms
import Derived.WideShapes
import Derived.DataReads
import Derived.Test.YtcbnhfnnjkkceaaGreatRows
import Derived.WalkKit
import Derived.ProofKit
import Derived.OpenShut
import Derived.ShutString
import Derived.ChangeOld
import Derived.Below
import Derived.SizedLaws
import Derived.Test.YtcbnhfnnjkkceaaGreatVR1
import Derived.Test.YtcbnhfnnjkkceaaGreatVR2
import Derived.Test.YtcbnhfnnjkkceaaGreatVR3
import Derived.Test.YtcbnhfnnjkkceaaGreatVR4
import Derived.Test.YtcbnhfnnjkkceaaGreatVR5
import Derived.Test.YtcbnhfnnjkkceaaGreatVR6
import Derived.Test.YtcbnhfnnjkkceaaGreatVR7
import Derived.Test.YtcbnhfnnjkkceaaGreatVR8
set_option maxHeartbeats 8000000
set_option maxRecDepth 100000
set_option linter.constructorNameAsVariable false
set_option linter.unusedSimpArgs false
set_option linter.unusedVariables false

section
namespace Go.Proofs.YtcbnhfnnjkkceaaGreat.X
open Go.RowKit Go.Proofs.YtcbnhfnnjkkceaaGreatW.PrintWords Go.Proofs.YtcbnhfnnjkkceaaGreatW.PrintLast Go.Proofs.YtcbnhfnnjkkceaaGreatW.PrintMore Go.Proofs.YtcbnhfnnjkkceaaGreat.Gr
theorem GrM.below {w w1:World} {g B:Nat} {p:Im} (h:GrM w g B p) (hb:Below w.heap.size w w1):GrM w1 g B p:=by
 obtain ⟨h0,dv,fv,cv,bs,n,V,h1,h2,h3,h4⟩:=h;exact ⟨h0,dv,fv,cv,bs,n,V,h1.keep fun k hk=>hb.block k (h1.ne h2 hk).1,(hb.block g (z0s h2)).trans h2,h3.keep fun i hi=>hb.block i (h3.in_lt hi).2.1,h4⟩
theorem GrM.lt {w:World} {g B:Nat} {p:Im} (h:GrM w g B p):g < w.heap.size:=by
 obtain ⟨h0,dv,fv,cv,bs,n,V,h1,h2,h3,h4⟩:=h;exact z0s h2
def RowPost (w:World) (g B:Nat) (p:Im) (l:List Int) (e:Ending) (w':World):Prop:=∃ v,e=.returned v∧Kd.R (Kd.int .i64) 3 w' w.heap.size (fun _=>True) v l∧GrM w' g B p∧Fr w w' (fun i=>i=g)
def RowPost2 (w:World) (g B:Nat) (p:Im) (l:List Int) (e:Ending) (w':World):Prop:=RowPost w g B p l e w'∧∀ Y,GrY w g B p Y→GrY w' g B p (fun i=>Y i∨w.heap.size≤i)
set_option maxHeartbeats 4000000 in
theorem rowNext2 {w:World} {g B b:Nat} {p:Im} (hp:Rt p) (hg:Gr w g B p) (hb:w.heap[b]?=some (.cells #[.pointer (some ⟨g,0,none⟩)] 29 (0,0))) {x:Int} (hx:Gr.wfI x) :
  Calls Tryz.prog 59 #[.pointer (some ⟨g,0,none⟩),.func (.func 60) #[] #[.pointer (some ⟨b,0,none⟩)],.int .i64 x] w (RowPost2 w g B p (nextL p x)):=by
 have HDO:=Aside0.mk (do_calls2 hp hg);have HLT:=Aside0.mk hg.lt;have hbg:b≠g:=fun e=>by
  obtain ⟨c,hc⟩:=hg.typed;rw [e,hc] at hb;injection hb with hb
  injection hb with _ hb
  exact absurd hb (by decide)
 have HB:=Aside0.mk hb;have hmf:∀ (fn:Fn) (first cap:Array Value) (w:World),(Instr.makeFunc fn first cap).run Tryz.prog w=.ok (.func fn first cap) w:=fun _ _ _ _=>rfl
 clear hg hb
 go_enter Tryz.func59,Tryz.ntmps59
 go_wp2_with fail
 refine HDO.out.mono ?_;rintro e w1 ⟨rfl,hM,hF,hY⟩;have HY:=Aside0.mk hY;clear hY;have HM:=Aside0.mk hM;have HF:=Aside0.mk hF;obtain ⟨_,dv,fv,cv,bs,n,V,hgp,hh,ht,hn⟩:=hM;have c0:=cell_of_one ((hF.block b (z0s HB.out) hbg).trans HB.out);have c1:w1.cell? ⟨g,9+0,none⟩=some (.map (some (bs 0))):=(z01 hh (9+0)).trans rfl;have hlk:=(ht.maps 0 (by omega)).look mt hx;have hrow:=ints_R (ht.rows 0 x (by omega) hx);have hlen:=ht.len 0 x (by omega) hx;obtain ⟨A,c,ev⟩:=Kd.R_slice hrow;rw [ev] at hlk hrow;have HCL:=Aside0.mk (clone_int A c (rowsG p 0 x) w1 (Kd.R_reads' hrow).2.2 (Kd.R_reads' hrow).2.1 (by omega));have HSZ:=Aside0.mk hF.size;clear hF hgp hh ht hrow hlen ev
 go_wp2_with (first|(go_at_call 83;refine HCL.out.mono ?_;rintro e w2 ⟨v,rfl,hR,hB2⟩)|go_in)
 go_ret
 exact ⟨⟨_,rfl,Kd.R_lower hR HSZ.out,HM.out.below hB2,HF.out.trans (Fr.mono (Fr.of_below hB2) fun i h1 h2=>by omega)⟩,fun Y h=>(HY.out Y h).below hB2⟩
set_option maxHeartbeats 4000000 in
theorem graphNext2 {w:World} {g B:Nat} {p:Im} (hp:Rt p) (hg:Gr w g B p) {x:Int} (hx:Gr.wfI x) :
  Calls Tryz.prog 20 #[.pointer (some ⟨g,0,none⟩),.int .i64 x] w (RowPost2 w g B p (nextL p x)):=by
 have hbl:=z04 (Below.refl w.heap.size w) (.cells #[.pointer (some ⟨g,0,none⟩)] 29);have HR:=Aside0.mk (rowNext2 hp (hg.below hbl) (z0z w (.cells #[.pointer (some ⟨g,0,none⟩)] 29)) hx);have HF:=Aside0.mk (Fr.mono (Fr.of_below hbl) (S':=fun i=>i=g) fun i h1 h2=>by omega);have HSZ:=Aside0.mk hbl.size;have HBL:=Aside0.mk hbl;have hmf:∀ (fn:Fn) (first cap:Array Value) (w:World),(Instr.makeFunc fn first cap).run Tryz.prog w=.ok (.func fn first cap) w:=fun _ _ _ _=>rfl
 clear hg hbl
 go_enter Tryz.func20,Tryz.ntmps20
 go_wp2_with fail
 refine HR.out.mono ?_;rintro e w2 ⟨⟨v,rfl,hR,hM,hF⟩,hY⟩;have HY:=Aside0.mk hY;clear hY;have HRR:=Aside0.mk hR;have HM:=Aside0.mk hM;have HF2:=Aside0.mk hF;clear hR hM hF;go_wp2;go_ret
 exact ⟨⟨_,rfl,Kd.R_lower HRR.out HSZ.out,HM.out,HF.out.trans HF2.out⟩,fun Y h=>(HY.out Y (h.below HBL.out)).mono fun i hi=>hi.elim .inl fun h2=>.inr (Nat.le_trans HSZ.out h2)⟩
theorem graphNext {w:World} {g B:Nat} {p:Im} (hp:Rt p) (hg:Gr w g B p) {x:Int} (hx:Gr.wfI x) :
  Calls Tryz.prog 20 #[.pointer (some ⟨g,0,none⟩),.int .i64 x] w (RowPost w g B p (nextL p x)):=(graphNext2 hp hg hx).mono fun _ _ h=>h.1
set_option maxHeartbeats 4000000 in
theorem rowPrev2 {w:World} {g B b:Nat} {p:Im} (hp:Rt p) (hg:Gr w g B p) (hb:w.heap[b]?=some (.cells #[.pointer (some ⟨g,0,none⟩)] 29 (0,0))) {x:Int} (hx:Gr.wfI x) :
  Calls Tryz.prog 59 #[.pointer (some ⟨g,0,none⟩),.func (.func 62) #[] #[.pointer (some ⟨b,0,none⟩)],.int .i64 x] w (RowPost2 w g B p (prevL p x)):=by
 have HDO:=Aside0.mk (do_calls2 hp hg);have HLT:=Aside0.mk hg.lt;have hbg:b≠g:=fun e=>by
  obtain ⟨c,hc⟩:=hg.typed;rw [e,hc] at hb;injection hb with hb
  injection hb with _ hb
  exact absurd hb (by decide)
 have HB:=Aside0.mk hb;have hmf:∀ (fn:Fn) (first cap:Array Value) (w:World),(Instr.makeFunc fn first cap).run Tryz.prog w=.ok (.func fn first cap) w:=fun _ _ _ _=>rfl
 clear hg hb
 go_enter Tryz.func59,Tryz.ntmps59
 go_wp2_with fail
 refine HDO.out.mono ?_;rintro e w1 ⟨rfl,hM,hF,hY⟩;have HY:=Aside0.mk hY;clear hY;have HM:=Aside0.mk hM;have HF:=Aside0.mk hF;obtain ⟨_,dv,fv,cv,bs,n,V,hgp,hh,ht,hn⟩:=hM;have c0:=cell_of_one ((hF.block b (z0s HB.out) hbg).trans HB.out);have c1:w1.cell? ⟨g,9+1,none⟩=some (.map (some (bs 1))):=(z01 hh (9+1)).trans rfl;have hlk:=(ht.maps 1 (by omega)).look mt hx;have hrow:=ints_R (ht.rows 1 x (by omega) hx);have hlen:=ht.len 1 x (by omega) hx;obtain ⟨A,c,ev⟩:=Kd.R_slice hrow;rw [ev] at hlk hrow;have HCL:=Aside0.mk (clone_int A c (rowsG p 1 x) w1 (Kd.R_reads' hrow).2.2 (Kd.R_reads' hrow).2.1 (by omega));have HSZ:=Aside0.mk hF.size;clear hF hgp hh ht hrow hlen ev
 go_wp2_with (first|(go_at_call 83;refine HCL.out.mono ?_;rintro e w2 ⟨v,rfl,hR,hB2⟩)|go_in)
 go_ret
 exact ⟨⟨_,rfl,Kd.R_lower hR HSZ.out,HM.out.below hB2,HF.out.trans (Fr.mono (Fr.of_below hB2) fun i h1 h2=>by omega)⟩,fun Y h=>(HY.out Y h).below hB2⟩
set_option maxHeartbeats 4000000 in
theorem graphPrev2 {w:World} {g B:Nat} {p:Im} (hp:Rt p) (hg:Gr w g B p) {x:Int} (hx:Gr.wfI x) :
  Calls Tryz.prog 22 #[.pointer (some ⟨g,0,none⟩),.int .i64 x] w (RowPost2 w g B p (prevL p x)):=by
 have hbl:=z04 (Below.refl w.heap.size w) (.cells #[.pointer (some ⟨g,0,none⟩)] 29);have HR:=Aside0.mk (rowPrev2 hp (hg.below hbl) (z0z w (.cells #[.pointer (some ⟨g,0,none⟩)] 29)) hx);have HF:=Aside0.mk (Fr.mono (Fr.of_below hbl) (S':=fun i=>i=g) fun i h1 h2=>by omega);have HSZ:=Aside0.mk hbl.size;have HBL:=Aside0.mk hbl;have hmf:∀ (fn:Fn) (first cap:Array Value) (w:World),(Instr.makeFunc fn first cap).run Tryz.prog w=.ok (.func fn first cap) w:=fun _ _ _ _=>rfl
 clear hg hbl
 go_enter Tryz.func22,Tryz.ntmps22
 go_wp2_with fail
 refine HR.out.mono ?_;rintro e w2 ⟨⟨v,rfl,hR,hM,hF⟩,hY⟩;have HY:=Aside0.mk hY;clear hY;have HRR:=Aside0.mk hR;have HM:=Aside0.mk hM;have HF2:=Aside0.mk hF;clear hR hM hF;go_wp2;go_ret
 exact ⟨⟨_,rfl,Kd.R_lower HRR.out HSZ.out,HM.out,HF.out.trans HF2.out⟩,fun Y h=>(HY.out Y (h.below HBL.out)).mono fun i hi=>hi.elim .inl fun h2=>.inr (Nat.le_trans HSZ.out h2)⟩
theorem graphPrev {w:World} {g B:Nat} {p:Im} (hp:Rt p) (hg:Gr w g B p) {x:Int} (hx:Gr.wfI x) :
  Calls Tryz.prog 22 #[.pointer (some ⟨g,0,none⟩),.int .i64 x] w (RowPost w g B p (prevL p x)):=(graphPrev2 hp hg hx).mono fun _ _ h=>h.1
theorem in_l0 (l:List Int) (x:Int) (hl:l.length < 4611686018427387904):∀ (d k j:Nat),j+d=l.length→d < k→z11.l0 k l x j=some ((l.drop j).contains x)
 | 0,k,j,hj,hk=>by
  obtain ⟨k,rfl⟩:∃ n,k=n+1:=⟨k - 1,by omega⟩;rw [z11.l0,if_neg (by omega),List.drop_eq_nil_of_le (by omega)];rfl
 | d+1,k,j,hj,hk=>by
  obtain ⟨k,rfl⟩:∃ n,k=n+1:=⟨k - 1,by omega⟩;have hlt:j < l.length:=by omega
  have e:rd l (j:Int)=l[j]:=by unfold rd;simp [List.getD_eq_getElem?_getD,List.getElem?_eq_getElem hlt]
  rw [z11.l0,if_pos (by omega),if_pos (by omega),List.drop_eq_getElem_cons hlt,List.contains_cons,e]
  by_cases h:l[j]=x
  ·rw [if_pos h];simp [h]
  ·rw [if_neg h,show wrap64 ((j:Int)+1)=((j+1:Nat):Int) by unfold wrap64;omega,in_l0 l x hl d k (j+1) (by omega) (by omega)];have:(x == l[j])=false:=by simpa using fun e=>h e.symm
   rw [this,Bool.false_or]
theorem in_f (l:List Int) (x:Int) (hl:l.length < 4611686018427387904):z11.f (l.length+1) l x=some (l.contains x):=by
 unfold z11.f;have:=in_l0 l x hl l.length (l.length+1) 0 (by omega) (by omega)
 simpa using this
theorem ints_l0 (a b:List Int) (hl:a.length=b.length) (hs:a.length < 4611686018427387904):∀ (d k j:Nat),j+d=a.length→d < k→z0o.l0 k a b j=some (a.drop j == b.drop j)
 | 0,k,j,hj,hk=>by
  obtain ⟨k,rfl⟩:∃ n,k=n+1:=⟨k - 1,by omega⟩;rw [z0o.l0,if_neg (by omega),List.drop_eq_nil_of_le (by omega),List.drop_eq_nil_of_le (by omega)];rfl
 | d+1,k,j,hj,hk=>by
  obtain ⟨k,rfl⟩:∃ n,k=n+1:=⟨k - 1,by omega⟩;have hlt:j < a.length:=by omega
  have hlb:j < b.length:=by omega
  have e:rd a (j:Int)=a[j]:=by unfold rd;simp [List.getD_eq_getElem?_getD,List.getElem?_eq_getElem hlt]
  have e':rd b (j:Int)=b[j]:=by unfold rd;simp [List.getD_eq_getElem?_getD,List.getElem?_eq_getElem hlb]
  rw [z0o.l0,if_pos (by omega),if_pos (by omega),if_pos (by omega),List.drop_eq_getElem_cons hlt,List.drop_eq_getElem_cons hlb,e,e',show (a[j] :: a.drop (j+1) == b[j] :: b.drop (j+1))=(a[j] == b[j] && a.drop (j+1) == b.drop (j+1)) from rfl]
  by_cases h:a[j]=b[j]
  ·rw [if_pos h,beq_iff_eq.2 h,Bool.true_and,show wrap64 ((j:Int)+1)=((j+1:Nat):Int) by unfold wrap64;omega,ints_l0 a b hl hs d k (j+1) (by omega) (by omega)]
  ·rw [if_neg h,beq_eq_false_iff_ne.2 h,Bool.false_and]
theorem ints_f (a b:List Int) (hs:a.length < 4611686018427387904):z0o.f (a.length+1) a b=some (a == b):=by
 unfold z0o.f
 by_cases hl:a.length=b.length
 ·rw [if_pos (by omega)];have:=ints_l0 a b hl hs a.length (a.length+1) 0 (by omega) (by omega)
  simpa using this
 ·rw [if_neg (by omega)]
  congr 1
  symm
  rw [beq_eq_false_iff_ne];exact fun e=>hl (by rw [e])
theorem new_no' (p:Im) (A3:Option Addr) (c3:Nat) (A4:Option Addr) (c4:Nat) (A5:Option Addr) (c5:Nat) (w:World)
  (hr3:Kd.C (Kd.int .u8) w A3 p.f3.length p.f3) (hc3:p.f3.length≤c3) (hr4:Kd.C (Kd.int .i64) w A4 p.f4.length p.f4) (hc4:p.f4.length≤c4) (hr5:Kd.C k79 w A5 p.f5.length p.f5) (hc5:p.f5.length≤c5)
  (hw:wfP p) (h0:encV p≠0) :
  Calls Tryz.prog 15 #[.agg #[.int .i64 p.f0,.int .i64 p.f1,.int .i64 p.f2,.slice A3 p.f3.length c3,.slice A4 p.f4.length c4,.slice A5 p.f5.length c5]] w fun e w'=>e=.returned (.tuple #[.pointer none,.int .i64 (encV p)])∧Below w.heap.size w w':=by
 obtain ⟨r,hr⟩:=enc_f p hw.1;exact new_no p A3 c3 A4 c4 A5 c5 w 700 r (encV p) hr3 hc3 hr4 hc4 hr5 hc5 hr h0
theorem new_yes' (p:Im) (A3:Option Addr) (c3:Nat) (A4:Option Addr) (c4:Nat) (A5:Option Addr) (c5:Nat) (w:World)
  (hr3:Kd.C (Kd.int .u8) w A3 p.f3.length p.f3) (hc3:p.f3.length≤c3) (hr4:Kd.C (Kd.int .i64) w A4 p.f4.length p.f4) (hc4:p.f4.length≤c4) (hr5:Kd.C k79 w A5 p.f5.length p.f5) (hc5:p.f5.length≤c5)
  (hw:wfP p) (h0:encV p=0) :
  Calls Tryz.prog 15 #[.agg #[.int .i64 p.f0,.int .i64 p.f1,.int .i64 p.f2,.slice A3 p.f3.length c3,.slice A4 p.f4.length c4,.slice A5 p.f5.length c5]] w fun e w'=>∃ g,e=.returned (.tuple #[.pointer (some ⟨g,0,none⟩),.int .i64 0])∧Gr w' g w.heap.size p∧Below w.heap.size w w':=by
 obtain ⟨r,hr⟩:=enc_f p hw.1;rw [h0] at hr;have hs:=(z31.1 h0).1;exact new_yes p A3 c3 A4 c4 A5 c5 w 700 r hr3 hc3 hr4 hc4 hr5 hc5 (by have:=hs.1;have:=hs.2.2.2.1;omega) (by have:=hs.2.2.2.2.1;omega) (by have:=hs.2.2.2.2.2.2.2.2;omega) hr
def p20:Im:=⟨0,1,0,[],[0,2],[⟨23,0,0,0,1⟩,⟨0,0,0,0,0⟩,⟨24,0,0,0,0⟩]⟩
theorem p20_wf:wfP p20:=⟨by unfold wfF p20;decide,by unfold p20;decide⟩
theorem p20_enc:encV p20=0:=z31.2 ⟨by unfold z2s p20;decide +kernel,by unfold p20;decide +kernel,by unfold p20;decide +kernel⟩
theorem p20_next:nextL p20 0=[2]∧nextL p20 2=[1]∧nextL p20 1=[]∧prevL p20 2=[0]:=by decide +kernel
theorem cell_add (w:World) (b n:Nat):w.cell? ((⟨b,0,none⟩:Addr).add n)=w.cell? ⟨b,n,none⟩:=by
 unfold Addr.add
 split
 ·rename_i h
  rw [h]
 ·simp
theorem C_lit {α:Type} (d:Kd α) {w:World} {b:Nat} {cs:Array Value} {t:TypeId} (hb:w.heap[b]?=some (.cells cs t (0,0))) (xs:List α) (hl:xs.length≤1000)
  (h:∀ j p,xs[j]?=some p→∃ c,c.length=d.sz∧d.K w p c∧∀ i u,c[i]?=some u→cs[j * d.sz+i]?=some u):d.C w (some ⟨b,0,none⟩) xs.length xs :=
 ⟨rfl,by omega,fun _=>⟨_,rfl,fun j p hj=>by
  obtain ⟨c,h1,h2,h3⟩:=h j p hj;exact ⟨c,h1,h2,fun i u hu=>by rw [cell_add];exact (z01 hb _).trans (h3 i u hu)⟩⟩⟩
theorem ints_lit {w:World} {b:Nat} {t:TypeId} (xs:List Int) (hl:xs.length≤1000) (hb:w.heap[b]?=some (.cells (xs.map (Value.int .i64)).toArray t (0,0))):Kd.C (Kd.int .i64) w (some ⟨b,0,none⟩) xs.length xs :=
 C_lit _ hb xs hl fun j p hj=>⟨[.int .i64 p],rfl,rfl,fun i u hu=>by
  rcases i with _|i
  ·show (xs.map (Value.int .i64)).toArray[j * 1+0]?=_;rw [Nat.mul_one,Nat.add_zero,List.getElem?_toArray,List.getElem?_map,hj];exact hu
  ·simp at hu⟩
theorem code20_lit {w:World} {b:Nat} (hb:w.heap[b]?=some (.cells #[.int .i64 23,.int .i64 0,.int .i64 0,.int .i64 0,.int .u64 1,.int .i64 0,.int .i64 0,.int .i64 0,.int .i64 0,.int .u64 0,.int .i64 24,.int .i64 0,.int .i64 0,.int .i64 0,.int .u64 0] 79 (0,0))) :
  Kd.C k79 w (some ⟨b,0,none⟩) p20.f5.length p20.f5 :=
 C_lit _ hb p20.f5 (by decide) fun j p hj=>by
  rcases j with _|_|_|j
  ·obtain rfl:(⟨23,0,0,0,1⟩:In)=p:=by simpa [p20] using hj
   exact ⟨_,rfl,k79_mk w _,fun i u hu=>by rcases i with _|_|_|_|_|i <;> first|exact hu|simp at hu⟩
  ·obtain rfl:(⟨0,0,0,0,0⟩:In)=p:=by simpa [p20] using hj
   exact ⟨_,rfl,k79_mk w _,fun i u hu=>by rcases i with _|_|_|_|_|i <;> first|exact hu|simp at hu⟩
  ·obtain rfl:(⟨24,0,0,0,0⟩:In)=p:=by simpa [p20] using hj
   exact ⟨_,rfl,k79_mk w _,fun i u hu=>by rcases i with _|_|_|_|_|i <;> first|exact hu|simp at hu⟩
  ·simp [p20] at hj
theorem p20_rt:Rt p20:=encV_rt p20_wf p20_enc
theorem ints_calls {a b:List Int} {A B:Option Addr} {cA cB:Nat} {w:World} (r:Bool) (hA:Kd.C (Kd.int .i64) w A a.length a) (hcA:a.length≤cA) (hB:Kd.C (Kd.int .i64) w B b.length b) (hcB:b.length≤cB) (hs:a.length≤1000000) (hr:(a == b)=r) :
  Calls Tryz.prog 19 #[.slice A a.length cA,.slice B b.length cB] w fun e w'=>e=.returned (.bool r)∧Drawn0 w w' :=
 z0o.calls (a.length+1) A cA a B cB b r w hA hcA hB hcB (by rw [ints_f a b (by omega),hr])
theorem in_calls {a:List Int} {A:Option Addr} {cA:Nat} {w:World} (x:Int) (r:Bool) (hA:Kd.C (Kd.int .i64) w A a.length a) (hcA:a.length≤cA) (hs:a.length≤1000000) (hr:a.contains x=r) :
  Calls Tryz.prog 36 #[.slice A a.length cA,.int .i64 x] w fun e w'=>e=.returned (.bool r)∧Drawn0 w w' :=
 z11.calls (a.length+1) A cA a x r w hA hcA (by rw [in_f a x (by omega),hr])
theorem fr_below {w0 w w':World} {g B:Nat} (h:Fr w w' (fun i=>i=g)) (hb:Below B w0 w) (hB:B≤w.heap.size) (hg:B≤g):Below B w0 w':=h.below hb hB fun i hi=>by omega
theorem awake20_calls (w:World):Calls Tryz.prog 13 #[] w fun e w'=>e=.returned (.bool true)∧Below w.heap.size w w':=by
 have hb1:=z04 (Below.refl w.heap.size w) (Obj.cells #[.int .i64 0,.int .i64 2] 3);have hb2:=z04 hb1 (Obj.cells #[.int .i64 23,.int .i64 0,.int .i64 0,.int .i64 0,.int .u64 1,.int .i64 0,.int .i64 0,.int .i64 0,.int .i64 0,.int .u64 0,.int .i64 24,.int .i64 0,.int .i64 0,.int .i64 0,.int .u64 0] 79);have hf:=z06 (z0z w (Obj.cells #[.int .i64 0,.int .i64 2] 3)) (Obj.cells #[.int .i64 23,.int .i64 0,.int .i64 0,.int .i64 0,.int .u64 1,.int .i64 0,.int .i64 0,.int .i64 0,.int .i64 0,.int .u64 0,.int .i64 24,.int .i64 0,.int .i64 0,.int .i64 0,.int .u64 0] 79);have hc:=z0z (w.alloc (Obj.cells #[.int .i64 0,.int .i64 2] 3)) (Obj.cells #[.int .i64 23,.int .i64 0,.int .i64 0,.int .i64 0,.int .u64 1,.int .i64 0,.int .i64 0,.int .i64 0,.int .i64 0,.int .u64 0,.int .i64 24,.int .i64 0,.int .i64 0,.int .i64 0,.int .u64 0] 79);rw [show (w.alloc (Obj.cells #[.int .i64 0,.int .i64 2] 3)).heap.size=w.heap.size+1 by show (w.heap.push _).size=_;simp] at hc;have HNEW:=Aside0.mk (new_yes' p20 none 0 (some ⟨w.heap.size,0,none⟩) 2 (some ⟨w.heap.size+1,0,none⟩) 3 _ (Kd.C_nil (Kd.int .u8) _) (by decide) (ints_lit [0,2] (by decide) hf) (by decide) (code20_lit hc) (by decide) p20_wf p20_enc);have HB:=Aside0.mk hb2;clear hb1 hb2 hf hc
 go_enter Tryz.func13,Tryz.ntmps13
 go_wp2_with fail
 refine HNEW.out.mono ?_;rintro e w0 ⟨g,rfl,hG,hB⟩;have HG:=Aside0.mk hG;have HLG:Aside0 (w.heap.size≤g):=⟨Nat.le_trans HB.out.size hG.1⟩;have HBw:=Aside0.mk (z0w HB.out HB.out.size hB);obtain ⟨BB,hBB⟩:∃ n,(w.alloc (Obj.cells #[.int .i64 0,.int .i64 2] 3)).alloc (Obj.cells #[.int .i64 23,.int .i64 0,.int .i64 0,.int .i64 0,.int .u64 1,.int .i64 0,.int .i64 0,.int .i64 0,.int .i64 0,.int .u64 0,.int .i64 24,.int .i64 0,.int .i64 0,.int .i64 0,.int .u64 0] 79)=n:=⟨_,rfl⟩;rw [hBB] at HG;clear hG hB hBB HNEW HB;have HROW:=Aside0.mk (graphNext p20_rt HG.out (x:=0) (Gr.wfI_of (by omega)))
 go_wp2_with fail
 refine HROW.out.mono ?_;rintro e w1' ⟨v,rfl,hR,hM,hF⟩;have HGn:=Aside0.mk hM.gr;have HBn:=Aside0.mk (fr_below hF HBw.out HBw.out.size HLG.out);clear HG HBw HROW;have HG:=HGn;have HBw:=HBn;clear HGn HBn;rw [p20_next.1] at hR;obtain ⟨A,c,rfl⟩:=Kd.R_slice hR;have HI:=Aside0.mk (ints_calls true (Kd.C_below (Kd.R_reads' hR).2.2 (z04 (Below.refl _ _) (Obj.cells #[.int .i64 2] 3))) (Kd.R_reads' hR).2.1 (ints_lit [2] (by decide) (z0z w1' (Obj.cells #[.int .i64 2] 3))) (Nat.le_refl 1) (by decide) (by decide));clear hR hM hF
 go_wp2_with fail
 refine HI.out.mono ?_;rintro e w' ⟨rfl,nd,rfl⟩;have HGn:=Aside0.mk (HG.out.below (z1z (z04 (Below.refl _ _) (Obj.cells #[.int .i64 2] 3)) nd));have HBn:=Aside0.mk (z1z (z04 HBw.out (Obj.cells #[.int .i64 2] 3)) nd);clear HG HBw HI;have HG:=HGn;have HBw:=HBn;generalize (w1'.alloc (Obj.cells #[.int .i64 2] 3)).drewN nd=w1 at HG HBw ⊢;clear HGn HBn;have HROW:=Aside0.mk (graphNext p20_rt HG.out (x:=2) (Gr.wfI_of (by omega)))
 go_wp2_with fail
 refine HROW.out.mono ?_;rintro e w2' ⟨v,rfl,hR,hM,hF⟩;have HGn:=Aside0.mk hM.gr;have HBn:=Aside0.mk (fr_below hF HBw.out HBw.out.size HLG.out);clear HG HBw HROW;have HG:=HGn;have HBw:=HBn;clear HGn HBn;rw [p20_next.2.1] at hR;obtain ⟨A,c,rfl⟩:=Kd.R_slice hR;have HI:=Aside0.mk (ints_calls true (Kd.C_below (Kd.R_reads' hR).2.2 (z04 (Below.refl _ _) (Obj.cells #[.int .i64 1] 3))) (Kd.R_reads' hR).2.1 (ints_lit [1] (by decide) (z0z w2' (Obj.cells #[.int .i64 1] 3))) (Nat.le_refl 1) (by decide) (by decide));clear hR hM hF
 go_wp2_with fail
 refine HI.out.mono ?_;rintro e w' ⟨rfl,nd,rfl⟩;have HGn:=Aside0.mk (HG.out.below (z1z (z04 (Below.refl _ _) (Obj.cells #[.int .i64 1] 3)) nd));have HBn:=Aside0.mk (z1z (z04 HBw.out (Obj.cells #[.int .i64 1] 3)) nd);clear HG HBw HI;have HG:=HGn;have HBw:=HBn;generalize (w2'.alloc (Obj.cells #[.int .i64 1] 3)).drewN nd=w2 at HG HBw ⊢;clear HGn HBn;have HROW:=Aside0.mk (graphNext p20_rt HG.out (x:=1) (Gr.wfI_of (by omega)))
 go_wp2_with fail
 refine HROW.out.mono ?_;rintro e w3' ⟨v,rfl,hR,hM,hF⟩;have HGn:=Aside0.mk hM.gr;have HBn:=Aside0.mk (fr_below hF HBw.out HBw.out.size HLG.out);clear HG HBw HROW;have HG:=HGn;have HBw:=HBn;clear HGn HBn;rw [p20_next.2.2.1] at hR;obtain ⟨A,c,rfl⟩:=Kd.R_slice hR;clear hR hM hF;have HROW:=Aside0.mk (graphPrev p20_rt HG.out (x:=2) (Gr.wfI_of (by omega)))
 go_wp2_with fail
 refine HROW.out.mono ?_;rintro e w4' ⟨v,rfl,hR,hM,hF⟩;have HGn:=Aside0.mk hM.gr;have HBn:=Aside0.mk (fr_below hF HBw.out HBw.out.size HLG.out);clear HG HBw HROW;have HG:=HGn;have HBw:=HBn;clear HGn HBn;rw [p20_next.2.2.2] at hR;obtain ⟨A,c,rfl⟩:=Kd.R_slice hR;have HI:=Aside0.mk (ints_calls true (Kd.C_below (Kd.R_reads' hR).2.2 (z04 (Below.refl _ _) (Obj.cells #[.int .i64 0] 3))) (Kd.R_reads' hR).2.1 (ints_lit [0] (by decide) (z0z w4' (Obj.cells #[.int .i64 0] 3))) (Nat.le_refl 1) (by decide) (by decide));clear hR hM hF
 go_wp2_with fail
 refine HI.out.mono ?_;rintro e w' ⟨rfl,nd,rfl⟩;have HGn:=Aside0.mk (HG.out.below (z1z (z04 (Below.refl _ _) (Obj.cells #[.int .i64 0] 3)) nd));have HBn:=Aside0.mk (z1z (z04 HBw.out (Obj.cells #[.int .i64 0] 3)) nd);clear HG HBw HI;have HG:=HGn;have HBw:=HBn;generalize (w4'.alloc (Obj.cells #[.int .i64 0] 3)).drewN nd=w4 at HG HBw ⊢;clear HGn HBn;go_wp2;go_ret
 exact ⟨rfl,HBw.out⟩
theorem outL_len (p:Im) (hn:p.f5.length≤256) (x:Int):(outL p x).length≤256:=by
 unfold outL
 split
 ·dsimp only
  repeat' split
  all_goals first
   | (simp;done)
   | (rw [List.length_map];exact Nat.le_trans (List.length_filter_le _ _) (by rw [z38];exact hn))
 ·simp
theorem ins1_len (y:Int):∀ l:List Int,(ins1 y l).length≤l.length+1
 | []=>by simp [ins1]
 | a :: r=>by
  unfold ins1
  split
  ·simp
  ·split
   ·simp
   ·have:=ins1_len y r;simp;omega
theorem uniq_len:∀ l:List Int,(uniq l).length≤l.length
 | []=>by simp [uniq]
 | a :: r=>by
  have h1:=uniq_len r;have h2:=ins1_len a (uniq r);show (ins1 a (uniq r)).length≤_;simp;omega
theorem next_len (p:Im) (hn:p.f5.length≤256) (x:Int):(nextL p x).length≤256:=Nat.le_trans (uniq_len _) (outL_len p hn x)
theorem few_f (p:Im):∃ r,z2n.f p.f0 p.f1 p.f2 p.f3 p.f4 p.f5=some r:=by
 unfold z2n.f
 repeat' split
 all_goals exact ⟨_,rfl⟩
theorem r_gr {w w':World} {g B base:Nat} {p:Im} {v:Value} {l:List Int} (h:Kd.R (Kd.int .i64) 3 w base (fun _=>True) v l) (hg:Gr w g B p) (hf:Fr w w' (fun i=>i=g)):Kd.R (Kd.int .i64) 3 w' base (fun _=>True) v l :=
 z39 rfl h fun k hk=>by
  obtain ⟨c,hc⟩:=Kd.R_typed h k hk;obtain ⟨c',hc'⟩:=hg.typed;exact hf.block k (z0s hc) fun e=>by
   rw [e,hc'] at hc;injection hc with hc
   injection hc with _ hc
   exact absurd hc (by decide)
structure Cs (n1:Nat) (W1:World) (g BB:Nat) (p:Im) (v1 v2:Value) (l1 l2:List Int) (W:World):Prop where
 sz:n1≤W.heap.size
 gr:Gr W g BB p
 bel:Below n1 W1 W
 r1:Kd.R (Kd.int .i64) 3 W 0 (fun _=>True) v1 l1
 r2:Kd.R (Kd.int .i64) 3 W 0 (fun _=>True) v2 l2
theorem r_below {w w':World} {base:Nat} {v:Value} {l:List Int} (h:Kd.R (Kd.int .i64) 3 w base (fun _=>True) v l) (hb:Below w.heap.size w w'):Kd.R (Kd.int .i64) 3 w' base (fun _=>True) v l :=
 z39 rfl h fun k hk=>by
  obtain ⟨c,hc⟩:=Kd.R_typed h k hk;exact hb.block k (z0s hc)
section
variable {n1 g BB:Nat} {W1 W W':World} {p:Im} {v1 v2:Value} {l1 l2:List Int}
theorem Cs.below (h:Cs n1 W1 g BB p v1 v2 l1 l2 W) (hb:Below W.heap.size W W'):Cs n1 W1 g BB p v1 v2 l1 l2 W':=⟨Nat.le_trans h.sz hb.size,h.gr.below hb,z0w h.bel h.sz hb,r_below h.r1 hb,r_below h.r2 hb⟩
theorem Cs.fr (h:Cs n1 W1 g BB p v1 v2 l1 l2 W) (hm:GrM W' g BB p) (hf:Fr W W' (fun i=>i=g)) (hg:n1≤g):Cs n1 W1 g BB p v1 v2 l1 l2 W' :=
 ⟨Nat.le_trans h.sz hf.size,hm.gr,fr_below hf h.bel h.sz hg,r_gr h.r1 h.gr hf,r_gr h.r2 h.gr hf⟩
end
end Go.Proofs.YtcbnhfnnjkkceaaGreat.X
end
section
namespace Go.Proofs.YtcbnhfnnjkkceaaGreat.X
open Go.RowKit Go.Proofs.YtcbnhfnnjkkceaaGreatW.PrintWords Go.Proofs.YtcbnhfnnjkkceaaGreat.Gr
theorem add_add (a:Addr) (i j:Nat):(a.add i).add j=a.add (i+j):=by
 unfold Addr.add
 by_cases hi:i=0
 ·subst hi;simp
 ·rw [if_neg hi]
  by_cases hj:j=0
  ·subst hj;simp [hi]
  ·rw [if_neg hj,if_neg (by omega)];simp [Nat.add_assoc]
theorem open_K {α H:Type} (dk:Kd α) {enc:TypeId × Value→H} {P:Program} {W:World} {t e:TypeId} {fuel:Nat} {cs:List Value} {y:DataW H × List MemPlace} (Q:α→Prop) (ht:P.underlying t=some (.slice e)) (hc:P.cellsOf e=dk.sz)
  (hel:∀ n cs' y,DataW.trod enc P W 0 (fun _=>true) true n e cs'=some y→∃ x,dk.K W x cs'∧Q x)
  (h:DataW.trod enc P W 0 (fun _=>true) true fuel t cs=some y) :
  ∃ (A:Option Addr) (cap:Nat) (xs:List α),cs=[.slice A xs.length cap]∧dk.C W A xs.length xs∧xs.length≤cap∧∀ x ∈ xs,Q x:=by
 rcases Deep.open_slice ht h with ⟨h1,_⟩|⟨a,len,cap,m,n,D,Pl,h1,_,hl,hm,hmm,_,hx⟩
 ·exact ⟨none,0,[],h1,Kd.C_nil dk W,Nat.le_refl _,by simp⟩
 ·have hM:maxLen≤9223372036854775807:=by decide
  have hmm:m=cap:=hmm;have hex:∀ i,i < len→∃ x,(∃ cs',W.cells? 0 (a.add (i * dk.sz)) dk.sz=some cs'∧dk.K W x cs')∧Q x:=fun i hi=>by
   obtain ⟨cs',hcs,htr⟩:=hx i (by omega);rw [hc] at hcs;obtain ⟨x,hk,hq⟩:=hel n cs' _ htr;exact ⟨x,⟨cs',hcs,hk⟩,hq⟩
  have hlist:∀ k,k≤len→∃ xs:List α,xs.length=k∧∀ i x,xs[i]?=some x→(∃ cs',W.cells? 0 (a.add (i * dk.sz)) dk.sz=some cs'∧dk.K W x cs')∧Q x:=by
   intro k
   induction k with
   | zero=>exact fun _=>⟨[],rfl,fun i x hi=>by simp at hi⟩
   | succ k ih =>
    intro hk;obtain ⟨xs,hxl,hxs⟩:=ih (by omega);obtain ⟨x,hx'⟩:=hex k (by omega);refine ⟨xs ++ [x],by simp [hxl],fun i z hi=>?_⟩
    by_cases e:i < k
    ·rw [List.getElem?_append_left (by omega)] at hi;exact hxs i z hi
    ·rw [List.getElem?_append_right (by omega)] at hi;have hik:i - xs.length=0:=by
      have:=(List.getElem?_eq_some_iff.1 hi).1;simp at this;omega
     rw [hik] at hi;obtain rfl:x=z:=by simpa using hi
     obtain rfl:i=k:=by omega
     exact hx'
  obtain ⟨xs,hxl,hxs⟩:=hlist len (Nat.le_refl _);refine ⟨some a,cap,xs,by rw [hxl];exact h1,⟨rfl,by omega,fun _=>⟨a,rfl,fun j p hj=>?_⟩⟩,by omega,fun x hx1=>?_⟩
  ·obtain ⟨⟨cs',hcs,hk⟩,_⟩:=hxs j p hj;obtain ⟨_,hcl,hce⟩:=World.cells?_some hcs;refine ⟨cs',hcl,hk,fun i u hu=>?_⟩;have hi:i < dk.sz:=by have:=(List.getElem?_eq_some_iff.1 hu).1;omega
   rw [← add_add];exact (hce i hi).trans hu
  ·obtain ⟨i,hi⟩:=List.getElem?_of_mem hx1;exact (hxs i x hi).2
theorem lit_i64 {n:Int} (h:(Lit.int .i64 n).wf=true):-9223372036854775808≤n∧n≤9223372036854775807:=by
 simpa [Lit.wf,IntKind.min,IntKind.max,IntKind.bits,IntKind.signed] using h
theorem lit_u64 {n:Int} (h:(Lit.int .u64 n).wf=true):0≤n:=by
 have:0≤n∧n≤18446744073709551615:=by simpa [Lit.wf,IntKind.min,IntKind.max,IntKind.bits,IntKind.signed] using h
 exact this.1
theorem array6 {α:Type} {cs:Array α} (h:cs.size=6):∃ c0 c1 c2 c3 c4 c5,cs=#[c0,c1,c2,c3,c4,c5]:=by
 obtain ⟨l⟩:=cs
 match l,h with
 | [c0,c1,c2,c3,c4,c5],_=>exact ⟨c0,c1,c2,c3,c4,c5,rfl⟩
theorem list5 {α:Type} {cs:List α} (h:cs.length=5):∃ c0 c1 c2 c3 c4,cs=[c0,c1,c2,c3,c4]:=by
 match cs,h with
 | [c0,c1,c2,c3,c4],_=>exact ⟨c0,c1,c2,c3,c4,rfl⟩
theorem ci_int:Tryz.prog.cellsOf 3=1:=by kernel_rfl
theorem ci_u8:Tryz.prog.cellsOf 5=1:=by kernel_rfl
theorem ci_u64:Tryz.prog.cellsOf 43=1:=by kernel_rfl
theorem ci_bs:Tryz.prog.cellsOf 22=1:=by kernel_rfl
theorem ci_is:Tryz.prog.cellsOf 23=1:=by kernel_rfl
theorem ci_cs:Tryz.prog.cellsOf 24=1:=by kernel_rfl
theorem ci_ins:Tryz.prog.cellsOf 79=5:=by kernel_rfl
theorem ci_im:Tryz.prog.cellsOf 26=6:=by kernel_rfl
section
variable {H:Type} {enc:TypeId × Value→H} {W:World}
theorem el_ins (n:Nat) (cs:List Value) (y:DataW H × List MemPlace) (h:DataW.trod enc Tryz.prog W 0 (fun _=>true) true n 79 cs=some y):∃ x,k79.K W x cs∧0≤x.f4:=by
 obtain ⟨xs,m,_,_,hl,hn,hf⟩:=DataW.trod_struct Tryz.underlying79 h;rw [ci_ins] at hl;obtain ⟨c0,c1,c2,c3,c4,rfl⟩:=list5 hl
 match xs,hn with
 | [y0,y1,y2,y3,y4],_ =>
  have h0:=hf 0 _ rfl;have h1:=hf 1 _ rfl;have h2:=hf 2 _ rfl;have h3:=hf 3 _ rfl;have h4:=hf 4 _ rfl;simp only [ci_int,ci_u64,List.drop_zero,List.drop_succ_cons,List.take_succ_cons,List.take_zero,List.getElem?_cons_zero,List.getElem?_cons_succ] at h0 h1 h2 h3 h4;obtain ⟨a0,e0,_,_⟩:=DataW.trod_int Tryz.underlying3 h0;obtain ⟨a1,e1,_,_⟩:=DataW.trod_int Tryz.underlying3 h1;obtain ⟨a2,e2,_,_⟩:=DataW.trod_int Tryz.underlying3 h2;obtain ⟨a3,e3,_,_⟩:=DataW.trod_int Tryz.underlying3 h3;obtain ⟨a4,e4,_,w4⟩:=DataW.trod_int Tryz.underlying43 h4;cases e0;cases e1;cases e2;cases e3;cases e4;exact ⟨⟨a0,a1,a2,a3,a4⟩,k79_mk W _,lit_u64 w4⟩
theorem el_int (n:Nat) (cs:List Value) (y:DataW H × List MemPlace) (h:DataW.trod enc Tryz.prog W 0 (fun _=>true) true n 3 cs=some y):∃ x,(Kd.int .i64).K W x cs∧(-9223372036854775808≤x∧x≤9223372036854775807):=by
 obtain ⟨a,e,_,w⟩:=DataW.trod_int Tryz.underlying3 h;exact ⟨a,e,lit_i64 w⟩
theorem el_u8 (n:Nat) (cs:List Value) (y:DataW H × List MemPlace) (h:DataW.trod enc Tryz.prog W 0 (fun _=>true) true n 5 cs=some y):∃ x,(Kd.int .u8).K W x cs∧True:=by
 obtain ⟨a,e,_,w⟩:=DataW.trod_int Tryz.underlying5 h;exact ⟨a,e,trivial⟩
theorem open_image {r:Reach} {base:Nat} {v:Value} {d:DataW H} {ps:List MemPlace} (hv:Value.okWide Tryz.prog W r base 26 v) (h:DataW.Trod enc Tryz.prog W 0 (fun _=>true) true 26 v d ps) :
  ∃ (p:Im) (A3:Option Addr) (c3:Nat) (A4:Option Addr) (c4:Nat) (A5:Option Addr) (c5:Nat),v=.agg #[.int .i64 p.f0,.int .i64 p.f1,.int .i64 p.f2,.slice A3 p.f3.length c3,.slice A4 p.f4.length c4,.slice A5 p.f5.length c5] ∧
   Kd.C (Kd.int .u8) W A3 p.f3.length p.f3∧p.f3.length≤c3∧Kd.C (Kd.int .i64) W A4 p.f4.length p.f4∧p.f4.length≤c4∧Kd.C k79 W A5 p.f5.length p.f5∧p.f5.length≤c5∧wfP p:=by
 obtain ⟨cs,rfl,hsz⟩:=Go.WideShapes.okWide_struct Tryz.underlying26 hv;rw [ci_im] at hsz;obtain ⟨x0,x1,x2,x3,x4,x5,rfl⟩:=array6 hsz;obtain ⟨fuel,hfu⟩:=h;obtain ⟨xs,m,_,_,hl,hn,hf⟩:=DataW.trod_struct Tryz.underlying26 hfu
 match xs,hn with
 | [y0,y1,y2,y3,y4,y5],_ =>
  have h0:=hf 0 _ rfl;have h1:=hf 1 _ rfl;have h2:=hf 2 _ rfl;have h3:=hf 3 _ rfl;have h4:=hf 4 _ rfl;have h5:=hf 5 _ rfl;simp only [Value.cells,ci_int,ci_bs,ci_is,ci_cs,List.drop_zero,List.drop_succ_cons,List.take_succ_cons,List.take_zero,List.getElem?_cons_zero,List.getElem?_cons_succ] at h0 h1 h2 h3 h4 h5;obtain ⟨a0,e0,_,_⟩:=DataW.trod_int Tryz.underlying3 h0;obtain ⟨a1,e1,_,_⟩:=DataW.trod_int Tryz.underlying3 h1;obtain ⟨a2,e2,_,_⟩:=DataW.trod_int Tryz.underlying3 h2;obtain ⟨A3,c3,l3,e3,hC3,hc3,_⟩:=open_K (Kd.int .u8) _ Tryz.underlying22 ci_u8 el_u8 h3;obtain ⟨A4,c4,l4,e4,hC4,hc4,hw4⟩:=open_K (Kd.int .i64) _ Tryz.underlying23 ci_int el_int h4;obtain ⟨A5,c5,l5,e5,hC5,hc5,hw5⟩:=open_K k79 _ Tryz.underlying24 ci_ins el_ins h5;cases e0;cases e1;cases e2;cases e3;cases e4;cases e5;exact ⟨⟨a0,a1,a2,l3,l4,l5⟩,A3,c3,A4,c4,A5,c5,rfl,hC3,hc3,hC4,hc4,hC5,hc5,hw4,hw5⟩
end
end Go.Proofs.YtcbnhfnnjkkceaaGreat.X
end
section
namespace Go.Proofs.YtcbnhfnnjkkceaaGreat.X
open Go.RowKit Go.Proofs.YtcbnhfnnjkkceaaGreatW.PrintWords Go.Proofs.YtcbnhfnnjkkceaaGreatW.PrintLast Go.Proofs.YtcbnhfnnjkkceaaGreatW.PrintMore Go.Proofs.YtcbnhfnnjkkceaaGreat.Gr
section
open Go.WideShapes Go.ChangeShapes
theorem open_bytes {H:Type} {enc:TypeId × Value→H} {W:World} {r:Reach} {base:Nat} {v:Value} {d:DataW H} {ps:List MemPlace} (hv:Value.okWide Tryz.prog W r base 22 v) (h:DataW.Trod enc Tryz.prog W 0 (fun _=>true) true 22 v d ps) :
  ∃ (l:List Int) (A:Option Addr) (c:Nat),v=.slice A l.length c∧Kd.C (Kd.int .u8) W A l.length l∧l.length≤c:=by
 obtain ⟨a,len,cap,rfl⟩:=okWide_slice Tryz.underlying22 hv;obtain ⟨fuel,hfu⟩:=h;obtain ⟨A3,c3,l3,e3,hC3,hc3,_⟩:=open_K (Kd.int .u8) _ Tryz.underlying22 ci_u8 el_u8 hfu;have e3:[Value.slice a len cap]=[Value.slice A3 l3.length c3]:=e3;cases e3;exact ⟨l3,_,_,rfl,hC3,hc3⟩
end
structure GI (n1:Nat) (W1:World) (g BB:Nat) (p:Im) (bt pb po:Nat) (l:List Int) (tc:Array Value) (W:World):Prop where
 sz:n1≤W.heap.size
 gr:Gr W g BB p
 bel:Below n1 W1 W
 tr:W.heap[bt]?=some (.cells tc 46 (0,0))
 pth:∀ j:Nat,j < l.length→W.cell? ⟨pb,po+j,none⟩=some (.int .i64 (rd l (j:Int)))
 ne:n1≤g∧bt≠g∧pb≠g∧pb < W.heap.size
section
variable {n1:Nat} {W1 W W':World} {g BB bt pb po:Nat} {p:Im} {l:List Int} {tc:Array Value}
theorem GI.below (h:GI n1 W1 g BB p bt pb po l tc W) (hb:Below W.heap.size W W'):GI n1 W1 g BB p bt pb po l tc W' :=
 ⟨Nat.le_trans h.sz hb.size,h.gr.below hb,z0w h.bel h.sz hb,z0p h.tr hb,fun j hj=>(World.cell?_of_block (a:=⟨pb,po+j,none⟩) (hb.block pb h.ne.2.2.2)).trans (h.pth j hj),h.ne.1,h.ne.2.1,h.ne.2.2.1,Nat.lt_of_lt_of_le h.ne.2.2.2 hb.size⟩
theorem GI.fr (h:GI n1 W1 g BB p bt pb po l tc W) (hg:Gr W' g BB p) (hf:Fr W W' (fun i=>i=g)):GI n1 W1 g BB p bt pb po l tc W' :=
 ⟨Nat.le_trans h.sz hf.size,hg,hf.below h.bel h.sz fun i (hi:i=g)=>by rw [hi];exact h.ne.1,(hf.block bt (z0s h.tr) h.ne.2.1).trans h.tr,fun j hj=>(World.cell?_of_block (a:=⟨pb,po+j,none⟩) (hf.block pb h.ne.2.2.2 h.ne.2.2.1)).trans (h.pth j hj),h.ne.1,h.ne.2.1,h.ne.2.2.1,Nat.lt_of_lt_of_le h.ne.2.2.2 hf.size⟩
end
theorem bel_alloc {B:Nat} {w0 w:World} (h:Below B w0 w) (hB:B≤w.heap.size) (o:Obj):Below B w0 (w.alloc o):=z0w h hB (z04 (Below.refl _ _) o)
theorem HSZ5 {n:Nat} {W1 w5:World} (h:Below n W1 w5) (hs:W1.heap.size=n):n≤w5.heap.size:=by rw [← hs];exact h.size
theorem rd_get {l:List Int} {j:Nat} (hj:j < l.length):rd l (j:Int)=l[j]:=by
 unfold rd;rw [Int.toNat_natCast,List.getD_eq_getElem?_getD,List.getElem?_eq_getElem hj];rfl
theorem rd_map {tr:List (Int × List Int)} {i:Nat} {s:Int × List Int} (h:tr[i]?=some s):rd (tr.map (·.1)) (i:Int)=s.1:=by
 have hi:=(List.getElem?_eq_some_iff.1 h).1;rw [rd_get (by simpa using hi),List.getElem_map];rw [(List.getElem?_eq_some_iff.1 h).2]
theorem tr_next {p:Im} (hw:wfP p) (hE:encV p=0) {tr:List (Int × List Int)} (h:Tr p tr) {j:Nat} (hj:j+1 < tr.length) :
  0≤rd (tr.map (·.1)) (j:Int)∧rd (tr.map (·.1)) (j:Int) < p.f5.length∧rd (tr.map (·.1)) ((j+1:Nat):Int) ∈ nextL p (rd (tr.map (·.1)) (j:Int)):=by
 obtain ⟨a,ha⟩:∃ a,tr[j]?=some a:=⟨_,List.getElem?_eq_getElem (by omega)⟩;obtain ⟨b,hb⟩:∃ b,tr[j+1]?=some b:=⟨_,List.getElem?_eq_getElem hj⟩;rw [rd_map ha,rd_map hb];exact h.next hw hE j a b ha hb
theorem tr_len {p:Im} {tr:List (Int × List Int)} (h:Tr p tr):1≤tr.length:=by
 have:=h.hd;cases tr with
 | nil=>simp at this
 | cons a t=>simp
theorem que_path {w:World} {ok:Nat→Prop} {v:Value} {l:List Int} (h:Que w ok v l) (hl:1≤l.length):∃ pb po cp,v=.slice (some ⟨pb,po,none⟩) l.length cp∧ok pb∧pb < w.heap.size∧∀ j:Nat,j < l.length→w.cell? ⟨pb,po+j,none⟩=some (.int .i64 (rd l (j:Int))):=by
 obtain ⟨ao,cap,e,hle,hmax,hq⟩:=h;obtain ⟨b,off,rfl,hk,hlt,h1,h2⟩:=hq (by omega);exact ⟨b,off,cap,e,hk,hlt,fun j hj=>by rw [rd_get hj];exact h1 j hj⟩
theorem graphRuns_law (p:Im) (A3:Option Addr) (c3:Nat) (A4:Option Addr) (c4:Nat) (A5:Option Addr) (c5:Nat) (Ai:Option Addr) (ci:Nat) (inp:List Int) (steps:Int) (w:World)
  (hr3:Kd.C (Kd.int .u8) w A3 p.f3.length p.f3) (hc3:p.f3.length≤c3) (hr4:Kd.C (Kd.int .i64) w A4 p.f4.length p.f4) (hc4:p.f4.length≤c4) (hr5:Kd.C k79 w A5 p.f5.length p.f5) (hc5:p.f5.length≤c5)
  (hw:wfP p) (hin:Kd.C (Kd.int .u8) w Ai inp.length inp) (hsw:Gr.wfI steps) :
  Calls Tryz.prog 5 #[.agg #[.int .i64 p.f0,.int .i64 p.f1,.int .i64 p.f2,.slice A3 p.f3.length c3,.slice A4 p.f4.length c4,.slice A5 p.f5.length c5],.slice Ai inp.length ci,.int .i64 steps] w fun e w'=>e=.returned (.bool true)∧Below w.heap.size w w':=by
 have hb1:=z04 (Below.refl w.heap.size w) (Obj.cells #[.int .i64 p.f0,.int .i64 p.f1,.int .i64 p.f2,.slice A3 p.f3.length c3,.slice A4 p.f4.length c4,.slice A5 p.f5.length c5] 26);have BX1:=Aside0.mk (z0z w (Obj.cells #[.int .i64 p.f0,.int .i64 p.f1,.int .i64 p.f2,.slice A3 p.f3.length c3,.slice A4 p.f4.length c4,.slice A5 p.f5.length c5] 26));have HS1:Aside0 ((w.alloc (Obj.cells #[.int .i64 p.f0,.int .i64 p.f1,.int .i64 p.f2,.slice A3 p.f3.length c3,.slice A4 p.f4.length c4,.slice A5 p.f5.length c5] 26)).heap.size=w.heap.size+1):=⟨by show (w.heap.push _).size=_;simp⟩;have HC3:=Aside0.mk (Kd.C_below hr3 hb1);have HC4:=Aside0.mk (Kd.C_below hr4 hb1);have HC5:=Aside0.mk (Kd.C_below hr5 hb1);have HB1:=Aside0.mk hb1;have HAW:=Aside0.mk (awake20_calls (w.alloc (Obj.cells #[.int .i64 p.f0,.int .i64 p.f1,.int .i64 p.f2,.slice A3 p.f3.length c3,.slice A4 p.f4.length c4,.slice A5 p.f5.length c5] 26)));have HCI:=Aside0.mk (Kd.C_below hin hb1);clear hr3 hr4 hr5 hin hb1
 go_enter Tryz.func5,Tryz.ntmps5
 go_wp2_with fail
 generalize w.alloc (Obj.cells #[.int .i64 p.f0,.int .i64 p.f1,.int .i64 p.f2,.slice A3 p.f3.length c3,.slice A4 p.f4.length c4,.slice A5 p.f5.length c5] 26)=W1 at BX1 HS1 HC3 HC4 HC5 HCI HB1 HAW ⊢;refine HAW.out.mono ?_;rintro e w2 ⟨rfl,hB⟩;rw [HS1.out] at hB;have HBw:=Aside0.mk hB;have hbk:=(hB.block w.heap.size (by omega)).trans BX1.out;have HC3:=Aside0.mk (Kd.C_below HC3.out (by rw [HS1.out];exact hB));have HC4:=Aside0.mk (Kd.C_below HC4.out (by rw [HS1.out];exact hB));have HC5:=Aside0.mk (Kd.C_below HC5.out (by rw [HS1.out];exact hB));have HCI:=Aside0.mk (Kd.C_below HCI.out (by rw [HS1.out];exact hB));have k0:=z01 hbk 0;have k1:=z01 hbk 1;have k2:=z01 hbk 2;have k3:=z01 hbk 3;have k4:=z01 hbk 4;have k5:=z01 hbk 5;obtain ⟨few,hfew⟩:=few_f p;have HFEW:=Aside0.mk (z2n.calls p.f0 p.f1 p.f2 A3 c3 p.f3 A4 c4 p.f4 A5 c5 p.f5 few w2 HC3.out hc3 HC4.out hc4 HC5.out hc5 hfew);clear hB hbk HAW hfew
 go_wp2_with fail
 refine HFEW.out.mono ?_;rintro e w3 ⟨rfl,hB⟩;have HC3:=Aside0.mk (Kd.C_below HC3.out hB);have HC4:=Aside0.mk (Kd.C_below HC4.out hB);have HC5:=Aside0.mk (Kd.C_below HC5.out hB);have HCI:=Aside0.mk (Kd.C_below HCI.out hB);have HBn:=Aside0.mk (z0w HBw.out (by rw [← HS1.out];exact Nat.le_trans (Nat.le_refl _) HBw.out.size) hB);clear HBw hB HFEW k0 k1 k2 k3 k4 k5;have HBw:=HBn;clear HBn;cases few with
 | false =>
  go_wp2;go_ret
  exact ⟨rfl,z0w HB1.out HB1.out.size (by rw [HS1.out];exact HBw.out)⟩
 | true =>
  have hbk:=(HBw.out.block w.heap.size (by omega)).trans BX1.out;have k0:=z01 hbk 0;have k1:=z01 hbk 1;have k2:=z01 hbk 2;have k3:=z01 hbk 3;have k4:=z01 hbk 4;have k5:=z01 hbk 5;clear hbk
  by_cases hil:(inp.length:Int) > 40
  ·have hd1:decide ((inp.length:Int) > 40)=true:=decide_eq_true hil;have hd2:decide (40 < (inp.length:Int))=true:=decide_eq_true hil;go_wp2;go_ret
   exact ⟨rfl,z0w HB1.out HB1.out.size (by rw [HS1.out];exact HBw.out)⟩
  have hd1:decide ((inp.length:Int) > 40)=false:=decide_eq_false hil;have hd2:decide (40 < (inp.length:Int))=false:=decide_eq_false hil
  by_cases hst:steps > 300
  ·have hd3:decide (steps > 300)=true:=decide_eq_true hst;have hd4:decide (300 < steps)=true:=decide_eq_true hst;go_wp2;go_ret
   exact ⟨rfl,z0w HB1.out HB1.out.size (by rw [HS1.out];exact HBw.out)⟩
  have hd3:decide (steps > 300)=false:=decide_eq_false hst;have hd4:decide (300 < steps)=false:=decide_eq_false hst
  by_cases h0:encV p=0
  rotate_left
  ·have HNEW:=Aside0.mk (new_no' p A3 c3 A4 c4 A5 c5 w3 HC3.out hc3 HC4.out hc4 HC5.out hc5 hw h0);have hz:(encV p != 0)=true:=by simpa using h0
   have HZ0:=Aside0.mk h0;clear h0
   go_wp2_with fail
   refine HNEW.out.mono ?_;rintro e w4 ⟨rfl,hB⟩;have HRUN:=Aside0.mk (run_calls hw (ci:=ci) steps (Kd.C_below HC3.out hB) hc3 (Kd.C_below HC4.out hB) hc4 (Kd.C_below HC5.out hB) hc5 (Kd.C_below HCI.out hB));have HBn:=Aside0.mk (z0w HBw.out (by rw [← HS1.out];exact HBw.out.size) hB);have hbk:=(hB.block w.heap.size (by have:=HBw.out.size;have:=HS1.out;omega)).trans ((HBw.out.block w.heap.size (by omega)).trans BX1.out);clear hB HNEW k0 k1 k2 k3 k4 k5;have k0:=z01 hbk 0;have k1:=z01 hbk 1;have k2:=z01 hbk 2;have k3:=z01 hbk 3;have k4:=z01 hbk 4;have k5:=z01 hbk 5;clear hbk
   go_wp2_with fail
   refine HRUN.out.mono ?_;rintro e w5 ⟨pv,mv,en,err,rg,l,rfl,⟨am,nm,cm,rfl⟩,hq,hB5,hor⟩;obtain ⟨ap,cp,rfl,_⟩:=hq.slice;have herr:err=encV p:=hor.elim (fun h=>h.2.1) fun h=>h.elim (fun h=>absurd h.1 HZ0.out) fun h=>absurd h.1 HZ0.out
   subst herr;have HB5:=Aside0.mk (z0w HBn.out (by rw [← HS1.out];exact HBn.out.size) hB5);clear hor hq hB5;unfold TrC;go_wp2;go_ret
   exact ⟨rfl,z0w HB1.out HB1.out.size (by rw [HS1.out];exact bel_alloc HB5.out (HSZ5 HB5.out HS1.out) _)⟩
  have HNEW:=Aside0.mk (new_yes' p A3 c3 A4 c4 A5 c5 w3 HC3.out hc3 HC4.out hc4 HC5.out hc5 hw h0);have hrt:=encV_rt hw h0;have HZ:=Lib.hid h0;clear h0
  go_wp2_with fail
  refine HNEW.out.mono ?_;rintro e w4 ⟨g,rfl,hG,hB⟩;have HLG:Aside0 (w.heap.size+1≤g):=⟨by have:=HBw.out.size;rw [HS1.out] at this;have:=hG.1;omega⟩;have HRUN:=Aside0.mk (run_calls hw (ci:=ci) steps (Kd.C_below HC3.out hB) hc3 (Kd.C_below HC4.out hB) hc4 (Kd.C_below HC5.out hB) hc5 (Kd.C_below HCI.out hB));have HBn:=Aside0.mk (z0w HBw.out (by rw [← HS1.out];exact HBw.out.size) hB);have hbk:=(hB.block w.heap.size (by have:=HBw.out.size;have:=HS1.out;omega)).trans ((HBw.out.block w.heap.size (by omega)).trans BX1.out);have HG:=Aside0.mk hG;obtain ⟨BB,hBB⟩:∃ n,w3.heap.size=n:=⟨_,rfl⟩;rw [hBB] at HG;clear HBw hB hG hBB HNEW k0 k1 k2 k3 k4 k5;have k0:=z01 hbk 0;have k1:=z01 hbk 1;have k2:=z01 hbk 2;have k3:=z01 hbk 3;have k4:=z01 hbk 4;have k5:=z01 hbk 5;clear hbk
  go_wp2_with fail
  refine HRUN.out.mono ?_;rintro e w5 ⟨pv,mv,en,err,rg,l,rfl,⟨am,nm,cm,rfl⟩,hq,hB5,hor⟩;have HB5:=Aside0.mk (z0w HBn.out (by rw [← HS1.out];exact HBn.out.size) hB5);have HG5:=Aside0.mk (HG.out.below hB5);have hgl:g < w4.heap.size:=HG.out.lt;clear k0 k1 k2 k3 k4 k5 HRUN
  rcases hor with hor|hor|hor
  ·exact absurd HZ.out hor.1
  ·obtain ⟨_,_,rfl,rfl⟩:=hor;obtain ⟨ap,cp,rfl,_⟩:=hq.slice;clear hq hB5;unfold TrC;go_wp2;go_ret
   exact ⟨rfl,z0w HB1.out HB1.out.size (by rw [HS1.out];exact bel_alloc HB5.out (HSZ5 HB5.out HS1.out) _)⟩
  obtain ⟨_,_,rfl,hl1,hl2,tr,hT,hlt⟩:=hor;have hlen:l.length=tr.length:=by rw [hlt,List.length_map]
  have hL1:=tr_len hT;obtain ⟨pb,po,cp,rfl,hpb,hpl,hcells⟩:=que_path hq (by omega);have HGI:Aside0 (GI (w.heap.size+1) W1 g BB p w5.heap.size pb po l (TrC (.slice (some ⟨pb,po,none⟩) l.length cp) en rg (.slice am nm cm)) (w5.alloc (Obj.cells (TrC (.slice (some ⟨pb,po,none⟩) l.length cp) en rg (.slice am nm cm)) 46))):=⟨by
   have hbl:=z04 (Below.refl w5.heap.size w5) (Obj.cells (TrC (.slice (some ⟨pb,po,none⟩) l.length cp) en rg (.slice am nm cm)) 46);have hsz:=HB5.out.size;rw [HS1.out] at hsz;exact ⟨Nat.le_trans hsz hbl.size,HG5.out.below hbl,bel_alloc HB5.out (HSZ5 HB5.out HS1.out) _,z0z w5 _,fun j hj=>(World.cell?_of_block (a:=⟨pb,po+j,none⟩) (hbl.block pb hpl)).trans (hcells j hj),HLG.out,by have:=HG5.out.lt;omega,by omega,Nat.lt_of_lt_of_le hpl hbl.size⟩⟩
  have HTR:=Aside0.mk (And.intro hT hlt);have HLN:=Aside0.mk (And.intro hlen (And.intro hL1 hl1));clear hq hB5 hl1 hl2 hT hlt hcells HG5 HG HB5 HBn hlen hL1;unfold TrC;unfold TrC at HGI
  go_upto_region 9 with (fail)
  generalize w5.alloc (Obj.cells #[.slice (some ⟨pb,po,none⟩) l.length cp,.int .i64 en,.int .u64 (rg 0),.int .u64 (rg 1),.int .u64 (rg 2),.int .u64 (rg 3),.int .u64 (rg 4),.int .u64 (rg 5),.int .u64 (rg 6),.int .u64 (rg 7),.slice am nm cm] 46)=w6 at HGI ⊢;generalize w5.heap.size=bt at HGI ⊢;obtain ⟨tc,htc⟩:∃ tc:Array Value,#[.slice (some ⟨pb,po,none⟩) l.length cp,.int .i64 en,.int .u64 (rg 0),.int .u64 (rg 1),.int .u64 (rg 2),.int .u64 (rg 3),.int .u64 (rg 4),.int .u64 (rg 5),.int .u64 (rg 6),.int .u64 (rg 7),.slice am nm cm]=tc:=⟨_,rfl⟩;have htc0:tc[0]?=some (.slice (some ⟨pb,po,none⟩) l.length cp):=by rw [← htc];rfl
  rw [htc] at HGI;have HTC:=Aside0.mk htc0;clear htc htc0;go_wp2
  go_loopw [11] (fun v11 wr=>∃ i:Nat,v11=.int .i64 i∧Aside0 (1≤i∧i≤l.length)∧Aside0 (GI (w.heap.size+1) W1 g BB p bt pb po l tc wr)) (fun v _=>l.length - (intOf v).toNat)
  case atStart=>exact ⟨1,rfl,⟨Nat.le_refl _,by have:=HLN.out;omega⟩,HGI⟩
  case round =>
   clear HGI;obtain ⟨i,rfl,hi,hI⟩:=hrel;obtain ⟨wo,rfl⟩:∃ wo:World,wo=wr:=⟨_,rfl⟩;have ct:wo.cell? ⟨bt,0,none⟩=some (.slice (some ⟨pb,po,none⟩) l.length cp):=(z01 hI.out.tr 0).trans HTC.out
   by_cases hlt:i < l.length
   ·have hkd:decide ((i:Int) < (l.length:Int))=true:=decide_eq_true (by omega);obtain ⟨j,hj⟩:∃ j:Nat,i=j+1:=⟨i - 1,by have:=hi.out;omega⟩;have hjl:j < l.length:=(by omega);obtain ⟨hx0,hx1,hmem⟩:=tr_next hw HZ.out HTR.out.1 (j:=j) (by have:=HLN.out;omega);rw [← HTR.out.2,← hj] at hmem;rw [← HTR.out.2] at hx0 hx1;obtain ⟨xa,hxa⟩:∃ z,rd l (j:Int)=z:=⟨_,rfl⟩;obtain ⟨xb,hxb⟩:∃ z,rd l (i:Int)=z:=⟨_,rfl⟩;rw [hxa] at hx0 hx1 hmem;rw [hxb] at hmem;have hpa:∀ W,GI (w.heap.size+1) W1 g BB p bt pb po l tc W→W.cell? ⟨pb,po+j,none⟩=some (.int .i64 xa):=fun W h=>by rw [← hxa];exact h.pth j hjl
    have hpbb:∀ W,GI (w.heap.size+1) W1 g BB p bt pb po l tc W→W.cell? ⟨pb,po+i,none⟩=some (.int .i64 xb):=fun W h=>by rw [← hxb];exact h.pth i hlt
    have HPA:=Aside0.mk hpa;have HPB:=Aside0.mk hpbb;have hn256:=hrt.fits.2.2.1;have HWF:Aside0 (Gr.wfI xa):=⟨Gr.wfI_of (by omega)⟩;have HCO:Aside0 ((nextL p xa).contains xb=true):=⟨by rw [List.contains_iff_mem];exact hmem⟩;have HNL:Aside0 ((nextL p xa).length≤256):=⟨next_len p hn256 xa⟩;have hwj:IntKind.i64.wrap ((i:Int) - 1)=(j:Int):=(by rw [IntWalk.i64_in _ (by have:=HLN.out;omega)];omega);have hwi:IntKind.i64.wrap ((i:Int)+1)=(i:Int)+1:=IntWalk.i64_in _ (by have:=HLN.out;omega);have hp0:(0≤(i:Int))=True:=eq_true (by omega);have hp1:((i:Int) < (l.length:Int))=True:=eq_true (by omega);have hp2:(0≤(j:Int))=True:=eq_true (by omega);have hp3:((j:Int) < (l.length:Int))=True:=eq_true (by omega);have HJ:=Lib.hid hj;have HRT:=Aside0.mk hrt;clear hj hxa hxb hpa hpbb hmem hx0 hx1 hjl hn256
    go_upto_region 12 with (fail)
    clear ct;refine z1g (n:=15) (S:=fun w'=>w'.cell? ⟨bt,0,none⟩=some (.slice (some ⟨pb,po,none⟩) l.length cp)∧w'.cell? ⟨pb,po+j,none⟩=some (.int .i64 xa)∧w'.cell? ⟨pb,po+i,none⟩=some (.int .i64 xb)) (ds:=[13]) #[zf,zf,zf,zf,zf,zf,zf,zf,zf,zf,zf,zf,zf,zf,zf] (by kernel_rfl) rfl rfl ⟨(z01 hI.out.tr 0).trans HTC.out,HPA.out _ (hI.out.below (z1d (Below.refl wo.heap.size wo))),HPB.out _ (hI.out.below (z1d (Below.refl wo.heap.size wo)))⟩ (fun hHeld=>?_);refine pure_ (i:=0) (N:=some 58) (v:=?_) (a':=?_) #[zt,zf,zf,zf,zf,zf,zf,zf,zf,zf,zf,zf,zf,zf,zf] rfl rfl (by kernel_rfl) (fun _ _ _ h=>h) (Or.inl ⟨by rfl,?_⟩) ?_ ?_;rotate_left
    ·intro w';go_simp;with_reducible rfl
    rotate_left
    ·simp only [Act.put,zq1,zq2,zq3,i64_w,i32_w];rfl
    refine pure_ (i:=1) (N:=some 59) (v:=?_) (a':=?_) #[zt,zt,zf,zf,zf,zf,zf,zf,zf,zf,zf,zf,zf,zf,zf] rfl rfl (by kernel_rfl) (fun _ _ _ h=>h) (Or.inl ⟨by rfl,?_⟩) ?_ ?_;rotate_left
    ·intro w';go_simp;with_reducible rfl
    rotate_left
    ·simp only [Act.put,zq1,zq2,zq3,i64_w,i32_w];rfl
    refine pure_ (i:=3) (N:=some 61) (v:=?_) (a':=?_) #[zt,zt,zf,zt,zf,zf,zf,zf,zf,zf,zf,zf,zf,zf,zf] rfl rfl (by kernel_rfl) (fun _ _ _ h=>h) (Or.inl ⟨by rfl,?_⟩) ?_ ?_;rotate_left
    ·intro w';go_simp;with_reducible rfl
    rotate_left
    ·simp only [Act.put,zq1,zq2,zq3,i64_w,i32_w];rfl
    refine pure_ (i:=4) (N:=some 62) (v:=?_) (a':=?_) #[zt,zt,zf,zt,zt,zf,zf,zf,zf,zf,zf,zf,zf,zf,zf] rfl rfl (by kernel_rfl) (fun _ _ _ h=>h) (Or.inl ⟨by rfl,?_⟩) ?_ ?_;rotate_left
    ·intro w';go_simp;with_reducible rfl
    rotate_left
    ·simp only [Act.put,zq1,zq2,zq3,i64_w,i32_w];rfl
    refine pure_ (i:=8) (N:=some 66) (v:=?_) (a':=?_) #[zt,zt,zf,zt,zt,zf,zf,zf,zt,zf,zf,zf,zf,zf,zf] rfl rfl (by kernel_rfl) (fun _ _ _ h=>h) (Or.inl ⟨by rfl,?_⟩) ?_ ?_;rotate_left
    ·intro w';go_simp;with_reducible rfl
    rotate_left
    ·simp only [Act.put,zq1,zq2,zq3,i64_w,i32_w];rfl
    refine pure_ (i:=10) (N:=some 68) (v:=?_) (a':=?_) #[zt,zt,zf,zt,zt,zf,zf,zf,zt,zf,zt,zf,zf,zf,zf] rfl rfl (by kernel_rfl) (fun _ _ _ h=>h) (Or.inl ⟨by rfl,?_⟩) ?_ ?_;rotate_left
    ·intro w';go_simp;with_reducible rfl
    rotate_left
    ·simp only [Act.put,zq1,zq2,zq3,i64_w,i32_w];rfl
    refine take_ (i:=2) (N:=some 60) (v:=?_) (a':=?_) #[zt,zt,zt,zt,zt,zf,zf,zf,zt,zf,zt,zf,zf,zf,zf] rfl rfl (by kernel_rfl) (fun _ _ _ h=>h) (Or.inl ⟨by rfl,?_⟩) hHeld ?_ ?_;rotate_left
    ·rintro w' ⟨s0,s1,s2⟩;go_simp;with_reducible rfl
    rotate_left
    ·simp only [Act.put,zq1,zq2,zq3,i64_w,i32_w];rfl
    refine pure_ (i:=5) (N:=some 63) (v:=?_) (a':=?_) #[zt,zt,zt,zt,zt,zt,zf,zf,zt,zf,zt,zf,zf,zf,zf] rfl rfl (by kernel_rfl) (fun _ _ _ h=>h) (Or.inl ⟨by rfl,?_⟩) ?_ ?_;rotate_left
    ·intro w';go_simp;with_reducible rfl
    rotate_left
    ·simp only [Act.put,zq1,zq2,zq3,i64_w,i32_w];rfl
    refine take_ (i:=6) (N:=some 64) (v:=?_) (a':=?_) #[zt,zt,zt,zt,zt,zt,zt,zf,zt,zf,zt,zf,zf,zf,zf] rfl rfl (by kernel_rfl) (fun _ _ _ h=>h) (Or.inl ⟨by rfl,?_⟩) hHeld ?_ ?_;rotate_left
    ·rintro w' ⟨s0,s1,s2⟩;go_simp;with_reducible rfl
    rotate_left
    ·simp only [Act.put,zq1,zq2,zq3,i64_w,i32_w];rfl
    refine take_ (i:=9) (N:=some 67) (v:=?_) (a':=?_) #[zt,zt,zt,zt,zt,zt,zt,zf,zt,zt,zt,zf,zf,zf,zf] rfl rfl (by kernel_rfl) (fun _ _ _ h=>h) (Or.inl ⟨by rfl,?_⟩) hHeld ?_ ?_;rotate_left
    ·rintro w' ⟨s0,s1,s2⟩;go_simp;with_reducible rfl
    rotate_left
    ·simp only [Act.put,zq1,zq2,zq3,i64_w,i32_w];rfl
    refine pure_ (i:=11) (N:=some 69) (v:=?_) (a':=?_) #[zt,zt,zt,zt,zt,zt,zt,zf,zt,zt,zt,zt,zf,zf,zf] rfl rfl (by kernel_rfl) (fun _ _ _ h=>h) (Or.inl ⟨by rfl,?_⟩) ?_ ?_;rotate_left
    ·intro w';go_simp;with_reducible rfl
    rotate_left
    ·simp only [Act.put,zq1,zq2,zq3,i64_w,i32_w];rfl
    refine take_ (i:=12) (N:=some 70) (v:=?_) (a':=?_) #[zt,zt,zt,zt,zt,zt,zt,zf,zt,zt,zt,zt,zt,zf,zf] rfl rfl (by kernel_rfl) (fun _ _ _ h=>h) (Or.inl ⟨by rfl,?_⟩) hHeld ?_ ?_;rotate_left
    ·rintro w' ⟨s0,s1,s2⟩;go_simp;with_reducible rfl
    rotate_left
    ·simp only [Act.put,zq1,zq2,zq3,i64_w,i32_w];rfl
    refine one_ (i:=7) (N:=some 65) #[zt,zt,zt,zt,zt,zt,zt,zt,zt,zt,zt,zt,zt,zf,zf] rfl rfl (by kernel_rfl) (by decide) (fun K hK=>?_);refine goes_ Tryz.func20 (by kernel_rfl) rfl #[.pointer (some ⟨g,0,none⟩),.int .i64 xa] (by rfl) rfl rfl (by simp only [List.map_toArray,List.map_cons,List.map_nil];rfl) ?_;refine (graphNext HRT.out (hI.out.below (z1d (Below.refl wo.heap.size wo))).gr HWF.out).mono ?_;rintro e w7 ⟨v,rfl,hR,hM,hF⟩;obtain ⟨Av,cv,rfl⟩:=Kd.R_slice hR;refine ⟨_,rfl,?_⟩;have HI6:=Aside0.mk ((hI.out.below (z1d (Below.refl wo.heap.size wo))).fr hM.gr hF);have HR6:=Aside0.mk hR;clear hR hM hF;refine hK.out _ _ ⟨(z01 HI6.out.tr 0).trans HTC.out,HPA.out _ HI6.out,HPB.out _ HI6.out⟩ (fun hHeld=>?_);clear hK K;refine norm_ (a':=?_) ?_ ?_;rotate_left
    ·show Act.put _ (some 65) _=_;simp only [Act.put,zq1,zq2,zq3,i64_w,i32_w];rfl
    refine last_ (i:=13) (N:=some 71) #[zt,zt,zt,zt,zt,zt,zt,zt,zt,zt,zt,zt,zt,zt,zf] rfl rfl (by kernel_rfl) (by decide) (fun K hK=>?_);refine goes_ Tryz.func36 (by kernel_rfl) rfl #[.slice Av (nextL p xa).length cv,.int .i64 xb] (by rfl) rfl rfl (by simp only [List.map_toArray,List.map_cons,List.map_nil];rfl) ?_;refine (in_calls xb true (Kd.R_reads' HR6.out).2.2 (Kd.R_reads' HR6.out).2.1 (Nat.le_trans HNL.out (by omega)) HCO.out).mono ?_;rintro e w8 ⟨rfl,nd,rfl⟩;refine ⟨_,rfl,?_⟩;have HI7:=Aside0.mk (HI6.out.below (z1z (Below.refl _ _) nd));refine hK.out _ _ ?_;clear hK K;refine norm_ (a':=?_) ?_ ?_;rotate_left
    ·show Act.put _ (some 71) _=_;simp only [Act.put,zq1,zq2,zq3,i64_w,i32_w];rfl
    refine pure_ (i:=14) (N:=some 72) (v:=?_) (a':=?_) #[zt,zt,zt,zt,zt,zt,zt,zt,zt,zt,zt,zt,zt,zt,zt] rfl rfl (by kernel_rfl) (fun _ _ _ h=>h) (Or.inl ⟨by rfl,?_⟩) ?_ ?_;rotate_left
    ·intro w';go_simp;with_reducible rfl
    rotate_left
    ·simp only [Act.put,zq1,zq2,zq3,i64_w,i32_w];rfl
    refine done_ (by kernel_rfl) ?_;go_wp2
    go_roundw
    case rel=>exact ⟨i+1,by go_num,⟨by omega⟩,HI7⟩
    case measure=>simp [intOf];omega
   ·have hkd:decide ((i:Int) < (l.length:Int))=false:=decide_eq_false (by omega);go_wp2;go_ret
    exact ⟨rfl,z0w HB1.out HB1.out.size (by rw [HS1.out];exact hI.out.bel)⟩
end Go.Proofs.YtcbnhfnnjkkceaaGreat.X
end
section
namespace Go.Proofs.YtcbnhfnnjkkceaaGreat.graphRuns
open Go.ChangeShapes Go.WideShapes Go.ChangeAt Go.RowKit
theorem own:ownKnob Tryz.prog.godebug=none:=by kernel_rfl
theorem laidOut:laidOutB Tryz.prog=true:=by kernel_rfl
theorem lifted (os:Os) (started:os.Started) (H:Type) (enc:TypeId × Value→H) :
  ReturnsInHanded {} Tryz.checked os 5 .any (Rows.graphRunsSpec.pre6 enc Tryz.prog Tryz.f5 Rows.graphRunsRow.domain false) (Rows.graphRunsSpec.post enc Tryz.prog Tryz.f5 false true false false):=by
 refine returnsInHanded_of_change_sized (C:=Tryz.checked) own started (by kernel_rfl) Tryz.func5
  (ChangeSpec.witness6 (enc:=enc) (C:=Tryz.checked) false ⟨#[],#[.agg #[.int .i64 0,.int .i64 0,.int .i64 0,.slice none 0 0,.slice none 0 0,.slice none 0 0],.slice none 0 0,.int .i64 0],[]⟩ 8 (by kernel_rfl) (by kernel_rfl) (by kernel_rfl) (by kernel_rfl)) ?_
 intro W base args ds gs before hval0 hW hcnd hsz0 _;have hsz:(DataW.weightsEach Tryz.prog (Tryz.f5.params.toList ++ Rows.graphRunsSpec.plain.varTypes Tryz.prog) (ds ++ gs)).all (·≤reachBytes)=true:=hsz0;have hval:∀ (j:Nat) t v,Tryz.f5.params[j]?=some t→args[j]?=some v→Value.okWide Tryz.prog W .any base t v:=hval0;have hW':=hW;obtain ⟨p,q,hA0,hV,rfl,hfz,hnd⟩:=hW;have hA:DataW.TrodAll enc Tryz.prog W 0 (fun _=>true) true Tryz.f5.params.toList args.toList ds p:=hA0;rw [Tryz.params5] at hA hval hsz;obtain ⟨v0,vs0,d0,ds0,p0,q0,hargs,rfl,rfl,h0,r0⟩:=trodAll_cons hA;obtain ⟨v1,vs1,d1,ds1,p1,q1,rfl,rfl,rfl,h1,r1⟩:=trodAll_cons r0;obtain ⟨v2,vs2,d2,ds2,p2,q2,rfl,rfl,rfl,h2,r2⟩:=trodAll_cons r1;obtain ⟨rfl,rfl,rfl⟩:=trodAll_nil r2;obtain rfl:args=#[v0,v1,v2]:=by cases args;simp_all
 obtain ⟨rfl,rfl⟩:=trodVars_none hV;have k0:=h0;have lt0:∀ x ∈ p0,x.block < W.heap.size:=by obtain ⟨m,hm⟩:=k0;exact DataW.trod_lt m _ _ _ hm
 obtain ⟨im0,A3_0,c3_0,A4_0,c4_0,A5_0,c5_0,rfl,hr3_0,hc3_0,hr4_0,hc4_0,hr5_0,hc5_0,hw0⟩:=X.open_image (hval 0 26 v0 rfl rfl) h0;have k1:=h1;have lt1:∀ x ∈ p1,x.block < W.heap.size:=by obtain ⟨m,hm⟩:=k1;exact DataW.trod_lt m _ _ _ hm
 obtain ⟨l1,a1,cap1,rfl,hr1,hc1⟩:=X.open_bytes (hval 1 22 v1 rfl rfl) h1;obtain ⟨a2,rfl,rfl,rfl,w2⟩:=open_int Tryz.underlying3 (hval 2 3 v2 rfl rfl) h2;clear hA0 hval0 hsz0 hsz;refine (X.graphRuns_law im0 A3_0 c3_0 A4_0 c4_0 A5_0 c5_0 a1 cap1 l1 a2 W hr3_0 hc3_0 hr4_0 hc4_0 hr5_0 hc5_0 hw0 hr1 w2).mono fun e W' ⟨he,bel⟩=>?_
 subst he;exact ⟨_,rfl,_,_,_,[],_,[],hW',trodAll_mk1 (shut_bool Tryz.underlying4 _),(trodAll_cons_mk (Below.trod laidOut (by kernel_rfl) (of_decide_eq_true (by kernel_rfl)) k0 bel lt0) (trodAll_cons_mk (Below.trod laidOut (by kernel_rfl) (of_decide_eq_true (by kernel_rfl)) k1 bel lt1) (trodAll_cons_mk (shut_int Tryz.underlying3 w2) trodAll_mk0))),rfl,bel.frame _,fun h=>by cases h⟩
theorem over:Rows.graphRunsRow.holds Tryz.pinned (OpenSpec.ofChange Rows.graphRunsSpec) :=
 OpenClaim.holds_of_wide 5 Tryz.f5 rfl rfl rfl rfl rfl rfl rfl ⟨rfl,rfl,rfl,rfl,rfl⟩ rfl rfl rfl rfl rfl (by kernel_rfl) Tryz.func5 (by kernel_rfl)
  (of_decide_eq_true (by kernel_rfl)) (by unfold Func.isWrapper;first|(rw [if_pos (by decide +kernel)];kernel_rfl)|(rw [if_neg (by decide +kernel)];exact ⟨rfl,rfl⟩))
  (fun os started H enc _=>lifted os started H enc)
theorem proved:Rows.GraphRunsSaid:=over
#print axioms proved
end Go.Proofs.YtcbnhfnnjkkceaaGreat.graphRuns
namespace Go.Proofs.YtcbnhfnnjkkceaaGreat
theorem graphRuns_holds:Rows.GraphRunsSaid:=graphRuns.proved
end Go.Proofs.YtcbnhfnnjkkceaaGreat
end
