/- For the statement of the row : what its proof needs of the text M10. -/
import Derived.Shelf.Small.Bits
import Derived.Shelf.Strconv.Itoa0
import Derived.Shelf.Sort.Plain
import Derived.Shelf.Slices.Turned
import Derived.Ground.Names2Prog
import Derived.Shelf.Slices.Clone
import Derived.Shelf.Slices.SearchI
import Derived.Shelf.Slices.In.SortNone
import Derived.Ground.SlgnProg
import Derived.Shelf.SlicesE.Clone
import Derived.Ground.SlsfProg
import Derived.Shelf.SlSortCmp.Insertion
import Derived.Shelf.SlSortCmp.SiftDown1
import Derived.Shelf.SlSortCmp.HeapSort1
import Derived.Shelf.SlSortCmp.Insertion1
import Derived.Shelf.SlSortCmp.Median1
import Derived.Shelf.SlSortCmp.Pivot1
import Derived.Shelf.SlSortCmp.ReverseRange1
import Derived.Shelf.SlSortCmp.PartialInsertion1
import Derived.Shelf.SlSortCmp.PartitionEqual1
import Derived.Shelf.SlSortCmp.Partition1
import Derived.Shelf.SlSortCmp.Pdq1
import Derived.Shelf.SlSortCmp.Whole1
import Derived.Shelf.SlSortCmp.NoneTotal
import Derived.Test.YtcbnhfnnjkkceaaGreatProg
import Derived.Sort.OwnSorted
import Derived.Test.YtcbnhfnnjkkceaaGreatOM1
import Derived.Test.YtcbnhfnnjkkceaaGreatOM2
import Derived.Test.YtcbnhfnnjkkceaaGreatOM3
import Derived.Test.YtcbnhfnnjkkceaaGreatOM4
import Derived.Test.YtcbnhfnnjkkceaaGreatOM5
import Derived.Test.YtcbnhfnnjkkceaaGreatOM7
import Derived.Test.YtcbnhfnnjkkceaaGreatOM8
import Derived.Test.YtcbnhfnnjkkceaaGreatOM9
set_option maxHeartbeats 8000000
set_option maxRecDepth 100000
set_option linter.unusedSimpArgs false
set_option linter.unusedVariables false

section
namespace Go.Proofs.YtcbnhfnnjkkceaaGreat.X
open Go.RowKit Go.Proofs.YtcbnhfnnjkkceaaGreatW.PrintWords Go.Proofs.YtcbnhfnnjkkceaaGreatW.PrintLast Go.Proofs.YtcbnhfnnjkkceaaGreatW.PrintMore Go.Proofs.YtcbnhfnnjkkceaaGreat.Gr
def Solid (w:World) (i:Nat):Prop:=(∃ es c,w.heap[i]?=some (.map es c))∨∃ c t,w.heap[i]?=some (.cells c t (0,0))
section
variable {w w1:World} {g B:Nat} {p:Im} {Y:Nat→Prop}
theorem GrY.solid (h:GrY w g B p Y):GrY w g B p (fun i=>Y i∧Solid w i):=by
 obtain ⟨h0,dv,fv,cv,h1,h2,h3⟩:=h;refine ⟨h0,dv,fv,cv,h1,fun k hk=>⟨h2 k hk,.inr ?_⟩,?_⟩
 ·rcases hk with hk|hk|hk
  ·obtain ⟨c,hc⟩:=Kd.R_typed h1.d k hk;exact ⟨c,_,hc⟩
  ·obtain ⟨c,hc⟩:=Kd.R_typed h1.f k hk;exact ⟨c,_,hc⟩
  ·obtain ⟨c,hc⟩:=Kd.R_typed h1.c k hk;exact ⟨c,_,hc⟩
 ·rcases h3 with h3|⟨bs,n,V,h3,h4,h5,h6⟩
  ·exact .inl h3
  ·exact .inr ⟨bs,n,V,h3,h4,h5,fun i hi=>⟨h6 i hi,(h4.in_lt hi).2.2.elim .inl fun ⟨c,hc⟩=>.inr ⟨c,_,hc⟩⟩⟩
theorem GrY.lpk {N:Nat} (h:GrY w g B p Y) (hl:LpK N w w1):GrY w1 g B p Y:=by
 refine (h.solid.keep fun i hi hy=>?_).mono fun i hi=>hi.1
 have key:∀ o,w.heap[i]?=some o→(∀ r,o≠.loop r)→(∀ c,o≠.deferred c)→w1.heap[i]?=w.heap[i]?:=fun o ho h1 h2=>(hl.keep ho h1 h2).trans ho.symm
 rcases hy with rfl|⟨_,⟨es,c,hc⟩|⟨c,t,hc⟩⟩
 ·obtain ⟨c,hc⟩:=h.gr.typed;exact key _ hc (fun r e=>by cases e) (fun r e=>by cases e)
 ·exact key _ hc (fun r e=>by cases e) (fun r e=>by cases e)
 ·exact key _ hc (fun r e=>by cases e) (fun r e=>by cases e)
end
theorem RowW.lower {w:World} {g base b2:Nat} {v:Value} {xs:List Wx} (h:RowW w g base v xs) (hb:b2≤base):RowW w g b2 v xs:=by
 refine ⟨h.1,?_⟩
 rcases h.2 with h|⟨b,cap,cur,rfl,hb',hc,r⟩
 ·exact .inl h
 ·exact .inr ⟨b,cap,cur,rfl,Nat.le_trans hb hb',hc,r⟩
def BackPost (w:World) (g B:Nat) (p:Im) (Y:Nat→Prop) (ys:List Wy) (e:Ending) (w':World):Prop :=
 ∃ v xs,e=.returned v∧RowW w' g w.heap.size v xs∧(∀ x ∈ xs,fxW g x w')∧xs.map (·.1)=ys∧GrY w' g B p (fun i=>Y i∨w.heap.size≤i)∧Fr w w' (fun i=>i=g)
set_option maxHeartbeats 4000000 in
theorem collect_calls {w:World} {g B b1 bn:Nat} {p:Im} {qw:Option Addr} {n:Nd} {r:List Nd} {ws:List Int} {Y:Nat→Prop} (hp:Rt p) (hl3:p.f3.length≤100) (hl4:p.f4.length≤40) (hl5:p.f5.length≤300)
  (hgy:GrY w g B p Y) (hb1:w.heap[b1]?=some (.cells #[.pointer (some ⟨g,0,none⟩),.pointer (some ⟨bn,0,none⟩),.pointer qw] 63 (0,0))) (hn:NodeL w (some ⟨bn,0,none⟩) (n :: r)) (hws:WaitL w qw ws) (hat:Gr.wfI n.at_)
  (ho:-1000000≤n.opn∧n.opn≤1000000) (hlo:-1000000≤n.low∧n.low≤1000000) (hhi:-1000000≤n.high∧n.high≤1000000) :
  Calls Tryz.prog 74 #[.func (.func 97) #[] #[.pointer (some ⟨b1,0,none⟩)]] w (BackPost w g B p Y (z2c p ⟨n :: r,ws⟩)):=by
 have eg:∀ args w,(callFunc 97 args).run Tryz.prog w=.ok (.enter 97 args) w:=enters_of Tryz.func97 (by kernel_rfl) rfl;have HX:=append_calls (w:=w) (g:=g) eg (fun m=>backs1_seq (m:=m) (g:=g) (B:=B) (N:=w.heap.size+1) (b1:=b1) (bn:=bn) (qw:=qw) (n:=n) (r:=r) (ws:=ws) (Y:=fun i=>Y i∧i < w.heap.size) (X:=fun i=>i=w.heap.size) hp hl3 hl4 hl5
   (fun i hi=>⟨by have:=hi.2;omega,fun e=>by have:=hi.2;omega⟩) ⟨by have:=hgy.gr.lt;omega,fun e=>by have:=hgy.gr.lt;omega⟩ ⟨by have:=z0s hb1;omega,fun e=>by have:=z0s hb1;omega⟩ hat ho hlo hhi) hgy.gr.lt
  (fun W1 hb=>by
   have hk:Below w.heap.size w W1:=⟨hb.os,hb.tape,hb.output,by have h1:=hb.size;have h2:(w.alloc (.cells #[.slice none 0 0] 66)).heap.size=w.heap.size+1:=(by show (w.heap.push _).size=_;simp);omega,fun i hi=>(hb.block i (by omega)).trans (Below.heap_alloc _ _ _ hi)⟩;exact ⟨z0h hb1 hk,hgy.lt'.below hk,hn.keep (WKeep.below hk),hws.keep (WKeep.below hk)⟩)
  (fun xs W W' hS hl=>⟨hS.1.lpk hl,fun x hx=>(hS.2.1 x hx).keep hl.wk,hS.2.2⟩)
 have HC:=Aside0.mk HX;clear HX eg hp hl3 hl4 hl5 hgy hb1 hn hws hat ho hlo hhi
 go_enter Tryz.func74,Tryz.ntmps74
 go_wp2_with (go_at_call 96;refine HC.out.mono ?_;rintro e w1 ⟨v,xs,rfl,hS,hR,hF⟩;have HR:=Aside0.mk (And.intro hS (And.intro hR hF));clear hS hR hF HC)
 go_ret
 obtain ⟨⟨h1,h2,h3⟩,h4,h5⟩:=HR.out;exact ⟨_,xs,rfl,h4.lower (Nat.le_succ _),h2,h3,h1.mono fun i hi=>hi.elim (fun h=>.inl h.1) fun h=>.inr (by omega),h5⟩
set_option maxHeartbeats 4000000 in
theorem backs_calls (q0 q1 q2:Option Addr) (w:World):Calls Tryz.prog 75 #[.agg #[.pointer q0,.pointer q1,.pointer q2]] w fun e w'=>e=.returned (.func (.func 97) #[] #[.pointer (some ⟨w.heap.size,0,none⟩)])∧w'=w.alloc (.cells #[.pointer q0,.pointer q1,.pointer q2] 63):=by
 go_enter Tryz.func75,Tryz.ntmps75
 go_wp2;go_ret
 exact ⟨rfl,rfl⟩
attribute [local go_sem high] eqW
set_option maxHeartbeats 4000000 in
theorem back_calls {w:World} {g B bn:Nat} {p:Im} {qw:Option Addr} {n:Nd} {r:List Nd} {ws:List Int} {Y:Nat→Prop} (hp:Rt p) (hl3:p.f3.length≤100) (hl4:p.f4.length≤40) (hl5:p.f5.length≤300)
  (hgy:GrY w g B p Y) (hn:NodeL w (some ⟨bn,0,none⟩) (n :: r)) (hws:WaitL w qw ws) (hat:Gr.wfI n.at_)
  (ho:-1000000≤n.opn∧n.opn≤1000000) (hlo:-1000000≤n.low∧n.low≤1000000) (hhi:-1000000≤n.high∧n.high≤1000000) :
  Calls Tryz.prog 45 #[.agg #[.pointer (some ⟨g,0,none⟩),.pointer (some ⟨bn,0,none⟩),.pointer qw]] w (BackPost w g B p Y (z2c p ⟨n :: r,ws⟩)):=by
 obtain ⟨o,hobj⟩:∃ o:Obj,o=.cells #[.pointer (some ⟨g,0,none⟩),.pointer (some ⟨bn,0,none⟩),.pointer qw] 63:=⟨_,rfl⟩;have h12:Below w.heap.size w ((w.alloc o).alloc o):=z04 (z04 (Below.refl w.heap.size w) o) o;have hsz:((w.alloc o).alloc o).heap.size=w.heap.size+2:=by show ((w.heap.push _).push _).size=_;simp
 have hsz1:(w.alloc o).heap.size=w.heap.size+1:=by show (w.heap.push _).size=_;simp
 have HC:=Aside0.mk (collect_calls (b1:=w.heap.size+1) hp hl3 hl4 hl5 (hgy.below h12) (by have:=z14 (w.alloc o) o;rw [hsz1] at this;rw [← hobj];exact this) (hn.keep (WKeep.below h12)) (hws.keep (WKeep.below h12)) hat ho hlo hhi);have BX:=Aside0.mk (z14 w o);have HZ:=Aside0.mk (And.intro hsz (And.intro hsz1 h12));have HGL:=Aside0.mk hgy.gr.lt;clear hp hl3 hl4 hl5 hgy hn hws hat ho hlo hhi h12 hsz hsz1;subst hobj
 go_enter Tryz.func45,Tryz.ntmps45
 go_upto_region 1 with (fail)
 generalize hw1:w.alloc (.cells #[.pointer (some ⟨g,0,none⟩),.pointer (some ⟨bn,0,none⟩),.pointer qw] 63)=w1 at HC BX HZ ⊢;obtain ⟨bx,hbx⟩:∃ bx,w.heap.size=bx:=⟨_,rfl⟩;have HS1:Aside0 (w1.heap.size=bx+1):=⟨hbx ▸ HZ.out.2.1⟩;rw [hbx] at BX HC;simp only [hbx];clear hw1;have y0:w1.cell? ⟨bx,0,none⟩=some (.pointer (some ⟨g,0,none⟩)):=(z01 BX.out 0).trans rfl;have y1:w1.cell? ⟨bx,1,none⟩=some (.pointer (some ⟨bn,0,none⟩)):=(z01 BX.out 1).trans rfl;have y2:w1.cell? ⟨bx,2,none⟩=some (.pointer qw):=(z01 BX.out 2).trans rfl
 go_wp2_with (first
  | (go_at_call 75;refine (backs_calls _ _ _ _).mono ?_;rintro e w2 ⟨rfl,rfl⟩;rw [HS1.out])
  | (go_at_call 74;refine HC.out.mono ?_;rintro e w3 ⟨v,xs,rfl,h1,h2,h3,h4,h5⟩;have HR:=Aside0.mk (And.intro h1 (And.intro h2 (And.intro h3 (And.intro h4 h5))));clear h1 h2 h3 h4 h5 HC))
 go_ret
 obtain ⟨h1,h2,h3,h4,h5⟩:=HR.out;have hz:=HZ.out;exact ⟨_,xs,rfl,h1.lower hz.2.2.size,h2,h3,h4.mono fun i hi=>hi.imp id fun h=>Nat.le_trans hz.2.2.size h,Fr.trans (Fr.mono (Fr.of_below hz.2.2) fun i hi h=>by omega) h5⟩
end Go.Proofs.YtcbnhfnnjkkceaaGreat.X
end
section
namespace Go.Proofs.YtcbnhfnnjkkceaaGreat.Gr
open Go.RowKit Go.Maps
structure MapZ (P:Program) (kt vt gt:TypeId) (zv:Value):Prop where
 hk:P.underlying kt=some (.int .i64)
 hm:P.underlying gt=some (.map kt vt)
 hz:∀ w,(zeroValue vt).run P w=.ok zv w
def ZMap (P:Program) (kt:TypeId) (zv:Value) (w:World) (b n:Nat) (V:Int→Value):Prop :=
 ∃ D:DataW Value,w.ownsMap P kt vR b n D∧∀ x,wfI x→D.atKey (.int .i64 x) (.held zv)=.held (V x)
section
variable {P:Program} {kt vt gt:TypeId} {zv:Value} {w w1:World} {b n:Nat} {V:Int→Value}
theorem MapZ.keyed (M:MapZ P kt vt gt zv):Keyed P kt:=int_keyed M.hk
theorem ZMap.made (w:World):ZMap P kt zv (w.alloc (.map #[] 0)) w.heap.size 0 (fun _=>zv) :=
 ⟨.map [],World.ownsMap_made _ _ _ _,fun _ _=>rfl⟩
theorem ZMap.lt (h:ZMap P kt zv w b n V):b < w.heap.size:=by
 obtain ⟨D,ho,_⟩:=h;exact ho.lt
theorem ZMap.block (h:ZMap P kt zv w b n V):∃ es clock,w.heap[b]?=some (.map es clock):=by
 obtain ⟨D,⟨es,clock,hb,_⟩,_⟩:=h;exact ⟨es,clock,hb⟩
theorem ZMap.at_ (h:ZMap P kt zv w b n V) (he:w1.heap[b]?=w.heap[b]?):ZMap P kt zv w1 b n V:=by
 obtain ⟨D,⟨es,clock,hb,r⟩,hv⟩:=h;exact ⟨D,⟨es,clock,he.trans hb,r⟩,hv⟩
theorem ZMap.mono (h:ZMap P kt zv w b n V) {m:Nat} (hm:n≤m):ZMap P kt zv w b m V:=by
 obtain ⟨D,ho,hv⟩:=h;exact ⟨D,ho.mono hm,hv⟩
theorem ZMap.look (M:MapZ P kt vt gt zv) (h:ZMap P kt zv w b n V) {x:Int} (hx:wfI x):(Instr.lookup gt (.map (some b)) (.int .i64 x) false).run P w=.ok (V x) w:=by
 obtain ⟨D,ho,hv⟩:=h;obtain ⟨v,ps,hrun,hr⟩:=ho.lookup M.keyed M.hm (M.hz w) (zd:=.held zv) (zp:=[]) rfl (keyOf_int_mk M.hk hx);rw [hv x hx] at hr;simp only [vR,Option.some.injEq,Prod.mk.injEq,DataW.held.injEq] at hr;rw [hrun,hr.1]
theorem ZMap.store (M:MapZ P kt vt gt zv) (h:ZMap P kt zv w b n V) {x:Int} (hx:wfI x) (hn:n < maxLen) (v:Value) :
  ∃ w1,(Instr.mapUpdate gt (.map (some b)) (.int .i64 x) v).run P w=.ok () w1∧ZMap P kt zv w1 b (n+1) (upd V x v)∧w.mapTurned w1 b:=by
 obtain ⟨D,ho,hv⟩:=h;obtain ⟨w1,hrun,ho1,ht⟩:=ho.store M.keyed M.hm hn (keyOf_int_mk M.hk hx) (val:=v) (d:=.held v) (ps:=[]) rfl;refine ⟨w1,hrun,⟨_,ho1,fun y hy=>?_⟩,ht⟩;unfold upd
 by_cases e:y=x
 ·subst e;rw [Maps.atKey_put_same ho.isMap (by simp [WideAt.IsKeyLit]),if_pos rfl]
 ·rw [Maps.atKey_put_other (key_ne e),if_neg e];exact hv y hy
theorem ZMap.drop (M:MapZ P kt vt gt zv) (h:ZMap P kt zv w b n V) {x:Int} (hx:wfI x) (ty:TypeId) :
  ∃ w1,(Builtin.delete_ #[gt,kt] ty #[.map (some b),.int .i64 x]).run P w=.ok (.tuple #[]) w1∧ZMap P kt zv w1 b n (upd V x zv)∧w.mapTurned w1 b:=by
 obtain ⟨D,ho,hv⟩:=h;obtain ⟨w1,hrun,ho1,ht⟩:=ho.drop M.keyed M.hm (keyOf_int_mk M.hk hx) ty;refine ⟨w1,hrun,⟨_,ho1,fun y hy=>?_⟩,ht⟩;unfold upd
 by_cases e:y=x
 ·subst e;rw [Maps.atKey_del_same,if_pos rfl]
 ·rw [Maps.atKey_del_other (key_ne e),if_neg e];exact hv y hy
section
variable {ops:Array Oper} {rest:List Oper} {o:Oper} {a:Act} {Q:Exit→Act→World→Prop}
theorem z_store (hg:o.guard=none) (m x v:Operand) (hop:o.op=Op.mapUpdate gt m x v∨o.op=Op.insert gt m x v) (M:MapZ P kt vt gt zv) (h:ZMap P kt zv w b n V) (hm:a.eval m=.map (some b)) {k:Int} (hx:a.eval x=.int .i64 k) (hk:wfI k) (hn:n < maxLen) {val:Value} (hv:a.eval v=val)
  (hK:∀ w',ZMap P kt zv w' b (n+1) (upd V k val)→w.mapTurned w' b→wpList P ops Q rest (a.put o.dst undef) w'):wpList P ops Q (o :: rest) a w:=by
 refine wpList_plain hg fun K' hK'=>?_
 obtain ⟨w',hrun,r1,r2⟩:=h.store M hk hn val;unfold Oper.wp
 rcases hop with hop|hop
 ·simp [execOp,hop,hm,hx,hv,hrun,Result.andThen];exact hK' _ _ (hK w' r1 r2)
 ·simp [execOp,hop,hm,hx,hv,hrun,Result.andThen];exact hK' _ _ (hK w' r1 r2)
theorem z_drop (hg:o.guard=none) (m x:Operand) (hop:o.op=Op.call { callee:=Callee.builtin Builtin.delete,args:=#[m,x],argTypes:=#[gt,kt] }) (M:MapZ P kt vt gt zv) (h:ZMap P kt zv w b n V) (hm:a.eval m=.map (some b)) {k:Int} (hx:a.eval x=.int .i64 k) (hk:wfI k)
  (hK:∀ w',ZMap P kt zv w' b n (upd V k zv)→w.mapTurned w' b→wpList P ops Q rest (a.put o.dst (.tuple #[])) w'):wpList P ops Q (o :: rest) a w:=by
 refine wpList_plain hg fun K' hK'=>?_
 obtain ⟨w',hrun,r1,r2⟩:=h.drop M hk o.type;unfold Oper.wp;simp [execOp,hop,resolve,invoke,builtin,hm,hx,hrun,Result.andThen];exact hK' _ _ (hK w' r1 r2)
end
end
end Go.Proofs.YtcbnhfnnjkkceaaGreat.Gr
end
section
namespace Go.Proofs.YtcbnhfnnjkkceaaGreat.X
open Go.RowKit Go.Proofs.YtcbnhfnnjkkceaaGreatW.PrintWords Go.Proofs.YtcbnhfnnjkkceaaGreatW.PrintLast Go.Proofs.YtcbnhfnnjkkceaaGreatW.PrintMore Go.Proofs.YtcbnhfnnjkkceaaGreat.Gr
def zW:Value:=.agg #[.pointer none,.pointer none,.pointer none]
def vW (g:Nat) (x:Wx):Value:=.agg #[.pointer (some ⟨g,0,none⟩),.pointer x.2.1,.pointer x.2.2]
theorem mapW:MapZ Tryz.prog 3 63 139 zW:=⟨by kernel_rfl,by kernel_rfl,fun w=>by kernel_rfl⟩
structure WkS (g B:Nat) (p:Im) (Y:Nat→Prop) (N bm b1 b2 b3:Nat) (t steps:Int) (xs:List Wx) (O:Nat→Prop) (w:World) (n:Nat) (V:Int→Value):Prop where
 fx:∀ x ∈ xs,fxW g x w
 map:ZMap Tryz.prog 3 zW w bm n V
 gry:∃ Yr:Nat→Prop,GrY w g B p Yr∧∀ i,Yr i→(Y i∨N≤i)∧¬ O i∧i≠bm∧i < w.heap.size
 c1:w.heap[b1]?=some (.cells #[.pointer (some ⟨g,0,none⟩)] 29 (0,0))
 c2:w.heap[b2]?=some (.cells #[.int .i64 t] 3 (0,0))
 c3:w.heap[b3]?=some (.cells #[.int .i64 steps] 3 (0,0))
 no:¬ O g∧¬ O bm∧¬ O b1∧¬ O b2∧¬ O b3
section
variable {g B N bm b1 b2 b3 n:Nat} {p:Im} {Y:Nat→Prop} {t steps:Int} {xs:List Wx} {O:Nat→Prop} {w w':World} {V:Int→Value}
theorem WkS.graph (h:WkS g B p Y N bm b1 b2 b3 t steps xs O w n V):∃ c,w.heap[g]?=some (.cells c 97 (0,0)):=by
 obtain ⟨Yr,h1,_⟩:=h.gry;exact h1.gr.typed
theorem WkS.apart (h:WkS g B p Y N bm b1 b2 b3 t steps xs O w n V):g≠bm∧(b1≠bm∧b2≠bm∧b3≠bm)∧(b1≠g∧b2≠g∧b3≠g):=by
 obtain ⟨es,cl,hm⟩:=h.map.block;obtain ⟨c,hg⟩:=h.graph;refine ⟨fun e=>?_,⟨fun e=>?_,fun e=>?_,fun e=>?_⟩,⟨fun e=>?_,fun e=>?_,fun e=>?_⟩⟩
 ·rw [e,hm] at hg;cases hg
 ·have:=h.c1;rw [e,hm] at this;cases this
 ·have:=h.c2;rw [e,hm] at this;cases this
 ·have:=h.c3;rw [e,hm] at this;cases this
 ·have:=h.c1;rw [e,hg] at this;injection this with this;injection this with _ this;exact absurd this (by decide)
 ·have:=h.c2;rw [e,hg] at this;injection this with this;injection this with _ this;exact absurd this (by decide)
 ·have:=h.c3;rw [e,hg] at this;injection this with this;injection this with _ this;exact absurd this (by decide)
theorem WkS.below (h:WkS g B p Y N bm b1 b2 b3 t steps xs O w n V) (hb:Below w.heap.size w w'):WkS g B p Y N bm b1 b2 b3 t steps xs O w' n V:=by
 obtain ⟨Yr,h1,h2⟩:=h.gry;exact ⟨fun x hx=>(h.fx x hx).keep (WKeep.below hb),h.map.at_ (hb.block _ h.map.lt),⟨Yr,h1.below hb,fun i hi=>⟨(h2 i hi).1,(h2 i hi).2.1,(h2 i hi).2.2.1,Nat.lt_of_lt_of_le (h2 i hi).2.2.2 hb.size⟩⟩,z0h h.c1 hb,z0h h.c2 hb,z0h h.c3 hb,h.no⟩
theorem WkS.turned (h:WkS g B p Y N bm b1 b2 b3 t steps xs O w n V) {n':Nat} {V':Int→Value} (hm:ZMap Tryz.prog 3 zW w' bm n' V') (ht:w.mapTurned w' bm):WkS g B p Y N bm b1 b2 b3 t steps xs O w' n' V':=by
 obtain ⟨Yr,h1,h2⟩:=h.gry;have hg:=ht.grown;have hk:∀ i,i < w.heap.size→i≠bm→w'.heap[i]?=w.heap[i]?:=fun i hi hn=>hg.block i hi fun e=>hn (by injection e)
 obtain ⟨ha1,⟨ha2,ha3,ha4⟩,_⟩:=h.apart;obtain ⟨es,cl,hmb⟩:=h.map.block;refine ⟨fun x hx=>(h.fx x hx).keep fun b c t hb ht=>(hk b (z0s hb) fun e=>?_).trans hb,hm,⟨Yr,h1.keep fun i hi hy=>hk i hi ?_,fun i hi=>⟨(h2 i hi).1,(h2 i hi).2.1,(h2 i hi).2.2.1,Nat.lt_of_lt_of_le (h2 i hi).2.2.2 hg.size⟩⟩,(hk _ (z0s h.c1) ha2).trans h.c1,(hk _ (z0s h.c2) ha3).trans h.c2,(hk _ (z0s h.c3) ha4).trans h.c3,h.no⟩
 ·rw [e,hmb] at hb;cases hb
 ·rcases hy with rfl|hy
  ·exact ha1
  ·exact (h2 i hy).2.2.1
theorem WkS.yield (h:WkS g B p Y N bm b1 b2 b3 t steps xs O w n V) {O':Nat→Prop} (hf:Fr w w' O) (hO:∀ i,O' i→O i∨w.heap.size≤i) (hnw:∀ i,O i→NoWay w i):WkS g B p Y N bm b1 b2 b3 t steps xs O' w' n V:=by
 obtain ⟨Yr,h1,h2⟩:=h.gry;obtain ⟨n1,n2,n3,n4,n5⟩:=h.no;have lt:∀ {b:Nat} {o:Obj},w.heap[b]?=some o→¬ O b→¬ O' b:=fun hb hn ho=>(hO _ ho).elim hn fun h=>by have:=z0s hb;omega
 obtain ⟨c,hg⟩:=h.graph;obtain ⟨es,cl,hmb⟩:=h.map.block;exact ⟨fun x hx=>(h.fx x hx).keep (WKeep.fr2 hf hnw),h.map.at_ (hf.block _ h.map.lt n2),⟨Yr,h1.keep fun i hi hy=>hf.block i hi (hy.elim (fun e=>e ▸ n1) fun hy=>(h2 i hy).2.1),fun i hi=>⟨(h2 i hi).1,fun ho=>(hO i ho).elim (h2 i hi).2.1 fun h=>by have:=(h2 i hi).2.2.2;omega,(h2 i hi).2.2.1,Nat.lt_of_lt_of_le (h2 i hi).2.2.2 hf.size⟩⟩,
  (hf.block _ (z0s h.c1) n3).trans h.c1,(hf.block _ (z0s h.c2) n4).trans h.c2,(hf.block _ (z0s h.c3) n5).trans h.c3,⟨lt hg n1,lt hmb n2,lt h.c1 n3,lt h.c2 n4,lt h.c3 n5⟩⟩
theorem WkS.back (h:WkS g B p Y N bm b1 b2 b3 t steps xs O w n V) {Yr:Nat→Prop} (hyr:∀ i,Yr i→(Y i∨N≤i)∧¬ O i∧i≠bm∧i < w.heap.size) (hN:N≤w.heap.size) (hf:Fr w w' (fun i=>i=g)) (hgy:GrY w' g B p (fun i=>Yr i∨w.heap.size≤i)) {ys:List Wx} (hys:∀ x ∈ ys,fxW g x w') (hO:∀ i,O i→i < w.heap.size) :
  WkS g B p Y N bm b1 b2 b3 t steps (xs ++ ys) O w' n V:=by
 obtain ⟨c,hg⟩:=h.graph;obtain ⟨ha1,_,⟨ha2,ha3,ha4⟩⟩:=h.apart;have hk:=WKeep.fr hf hg (by decide) (by decide);refine ⟨fun x hx=>(List.mem_append.1 hx).elim (fun hx=>(h.fx x hx).keep hk) (hys x),h.map.at_ (hf.block _ h.map.lt fun e=>ha1 e.symm),⟨_,hgy.lt',fun i hi=>?_⟩,(hf.block _ (z0s h.c1) ha2).trans h.c1,(hf.block _ (z0s h.c2) ha3).trans h.c2,(hf.block _ (z0s h.c3) ha4).trans h.c3,h.no⟩
 rcases hi with ⟨hi|hi,hlt⟩
 ·exact ⟨(hyr i hi).1,(hyr i hi).2.1,(hyr i hi).2.2.1,hlt⟩
 ·exact ⟨.inr (by omega),fun ho=>by have:=hO i ho;omega,fun e=>by have:=h.map.lt;omega,hlt⟩
theorem StG.fr_g (hf:Fr w w' (fun i=>i=g)):StG g N w w':=Fr.mono hf fun i _ h=>.inl h
theorem StG.map (hN:N≤bm) (ht:w.mapTurned w' bm):StG g N w w':=by
 obtain ⟨es,cl,es',cl',hb,_⟩:=id ht;have hg:=ht.grown;exact ⟨hg.os,hg.tape,hg.output,hg.size,fun i hi hn=>hg.block i hi fun e=>hn (by cases e;exact .inr ⟨hN,es,cl,hb⟩)⟩
end
theorem flat_get (g:Nat):∀ (xs:List Wx) (j:Nat) (x:Wx) (r:Nat),xs[j]?=some x→r < 3→(xs.flatMap (z2q g))[j * 3+r]?=(z2q g x)[r]?
 | [],j,x,r,h,_=>by simp at h
 | y :: ys,0,x,r,h,hr=>by
  simp only [List.getElem?_cons_zero,Option.some.injEq] at h;subst h;rw [List.flatMap_cons,List.getElem?_append_left (by simp [z2q];omega)];simp
 | y :: ys,j+1,x,r,h,hr=>by
  rw [List.getElem?_cons_succ] at h;rw [List.flatMap_cons,List.getElem?_append_right (by simp [z2q];omega)];have e:(j+1) * 3+r - (z2q g y).length=j * 3+r:=by simp [z2q];omega
  rw [e];exact flat_get g ys j x r h hr
theorem RowW.at_ {w:World} {g base c:Nat} {A:Option Addr} {xs:List Wx} (h:RowW w g base (.slice A xs.length c) xs) {j:Nat} {x:Wx} (hx:xs[j]?=some x) :
  ∃ ad,A=some ad∧w.cell? (ad.add (j * 3))=some (.pointer (some ⟨g,0,none⟩))∧w.cell? ⟨(ad.add (j * 3)).block,(ad.add (j * 3)).off+1,none⟩=some (.pointer x.2.1)∧w.cell? ⟨(ad.add (j * 3)).block,(ad.add (j * 3)).off+2,none⟩=some (.pointer x.2.2):=by
 have hj:=(List.getElem?_eq_some_iff.1 hx).1
 rcases h.2 with ⟨_,hn⟩|⟨b,cap,cur,e,hb,hc,hn,_,hcs,ht⟩
 ·omega
 cases e;have ea:∀ k,(⟨b,0,none⟩:Addr).add k=⟨b,k,none⟩:=fun k=>by
  unfold Addr.add;first|(split <;> simp_all)|simp
 have key:∀ r u,r < 3→(z2q g x)[r]?=some u→w.cell? ⟨b,j * 3+r,none⟩=some u:=fun r u hr hu=>by
  refine (z01 hc (j * 3+r)).trans ?_;rw [← flat_get g xs j x r hx hr,← ht,List.getElem?_take_of_lt (by omega)] at hu
  simpa using hu
 refine ⟨_,rfl,?_⟩;rw [ea];exact ⟨key 0 _ (by omega) rfl,key 1 _ (by omega) rfl,key 2 _ (by omega) rfl⟩
def WalkPost (w:World) (g:Nat) (t steps:Int) (e:Ending) (w':World):Prop :=
 ∃ b1 b2 b3,e=.returned (.func (.func 92) #[] #[.pointer (some ⟨b1,0,none⟩),.pointer (some ⟨b2,0,none⟩),.pointer (some ⟨b3,0,none⟩)])∧w'.heap[b1]?=some (.cells #[.pointer (some ⟨g,0,none⟩)] 29 (0,0))∧w'.heap[b2]?=some (.cells #[.int .i64 t] 3 (0,0))∧w'.heap[b3]?=some (.cells #[.int .i64 steps] 3 (0,0))∧Below w.heap.size w w'∧(w.heap.size≤b1∧w.heap.size≤b2∧w.heap.size≤b3)
set_option maxHeartbeats 4000000 in
theorem walk_calls (w:World) (g:Nat) (t steps:Int):Calls Tryz.prog 69 #[.pointer (some ⟨g,0,none⟩),.int .i64 t,.int .i64 steps] w (WalkPost w g t steps):=by
 have BA:=Aside0.mk (z06 (z06 (z14 w (.cells #[.pointer (some ⟨g,0,none⟩)] 29)) (.cells #[.int .i64 t] 3)) (.cells #[.int .i64 steps] 3));have BB:=Aside0.mk (z06 (z14 (w.alloc (.cells #[.pointer (some ⟨g,0,none⟩)] 29)) (.cells #[.int .i64 t] 3)) (.cells #[.int .i64 steps] 3));have BC:=Aside0.mk (z14 ((w.alloc (.cells #[.pointer (some ⟨g,0,none⟩)] 29)).alloc (.cells #[.int .i64 t] 3)) (.cells #[.int .i64 steps] 3));have HB:=Aside0.mk (z04 (z04 (z04 (Below.refl w.heap.size w) (.cells #[.pointer (some ⟨g,0,none⟩)] 29)) (.cells #[.int .i64 t] 3)) (.cells #[.int .i64 steps] 3))
 go_enter Tryz.func69,Tryz.ntmps69
 go_wp2;go_ret
 have hs1:∀ (w:World) (o:Obj),(w.alloc o).heap.size=w.heap.size+1:=fun w o=>by show (w.heap.push _).size=_;simp
 have h2:=BB.out;have h3:=BC.out;rw [hs1] at h2;rw [hs1,hs1] at h3;exact ⟨_,_,_,rfl,BA.out,h2,h3,HB.out,Nat.le_refl _,by omega,by omega⟩
theorem walk1_seq {m g B N b1 b2 b3:Nat} {p:Im} {t steps:Int} {Y X:Nat→Prop} (hp:Rt p) (hl3:p.f3.length≤100) (hl4:p.f4.length≤40) (hl5:p.f5.length≤256)
  (hYN:∀ i,Y i→i < N∧¬ X i) (hgN:g < N∧¬ X g) (hbN:(b1 < N∧¬ X b1)∧(b2 < N∧¬ X b2)∧(b3 < N∧¬ X b3)) :
  SeqO m Tryz.prog 92 #[.pointer (some ⟨b1,0,none⟩),.pointer (some ⟨b2,0,none⟩),.pointer (some ⟨b3,0,none⟩)] (encW g) (fun pre=>pre.length≤300) (fxW g) (fun pre x=>(queW p t steps pre.length)[pre.length]?=some x.1)
   (fun xs W=>GrY W g B p (fun i=>Y i∨N≤i)∧(∀ x ∈ xs,fxW g x W)∧Gone p t steps (xs.map (·.1))∧(queW p t steps xs.length).length≤xs.length)
   (fun pre W=>GrY W g B p (fun i=>Y i∨N≤i)∧(∀ x ∈ pre,fxW g x W)∧Gone p t steps (pre.map (·.1))) g N X
   (fun W=>W.heap[b1]?=some (.cells #[.pointer (some ⟨g,0,none⟩)] 29 (0,0))∧W.heap[b2]?=some (.cells #[.int .i64 t] 3 (0,0))∧W.heap[b3]?=some (.cells #[.int .i64 steps] 3 (0,0))∧GrY W g B p Y):=by
 intro la J Jx O0 w hQ0 hNw hO0 hJ hJx hJR hY h0;obtain ⟨hb1,hb2,hb3,hgy⟩:=hQ0;have HO0:=Aside0.mk hO0;have HJ:=Aside0.mk hJ;have HJX:=Aside0.mk hJx;have HJR:=Aside0.mk hJR;have HY:=Aside0.mk hY;have H0:=Aside0.mk h0;have HP:=Aside0.mk hp;have HL:=Aside0.mk (And.intro hl3 (And.intro hl4 hl5));have HNB:=Aside0.mk (And.intro hYN (And.intro hgN (And.intro hbN hNw)));have BX1:=Aside0.mk hb1;have BX2:=Aside0.mk hb2;have BX3:=Aside0.mk hb3;have HGY:=Aside0.mk hgy;have HG:=Aside0.mk hgy.gr;have HTW:Aside0 (True):=⟨trivial⟩;clear hp hl3 hl4 hl5 hYN hgN hbN hb1 hb2 hb3 hgy hO0 hJ hJx hJR hY h0 hNw;refine callsIn_wide.2 ?_
 go_enter Tryz.func92,Tryz.ntmps92
 have y1:w.cell? ⟨b1,0,none⟩=some (.pointer (some ⟨g,0,none⟩)):=(z01 BX1.out 0).trans rfl;have y2:w.cell? ⟨b2,0,none⟩=some (.int .i64 t):=(z01 BX2.out 0).trans rfl
 by_cases hrng:0≤t∧t < p.f5.length
 rotate_left
 ·have HR:=Aside0.mk hrng;clear hrng
  go_upto_region 1 with (go_at_call 44;refine (start2_calls HG.out HL.out.1 HL.out.2.1 (Nat.le_trans HL.out.2.2 (by decide)) t).mono ?_;rintro e w1 ⟨hB,hor⟩;obtain rfl:=(hor.resolve_right fun h=>HR.out h.1).2;have HB1:=Aside0.mk (z04 hB (.cells #[.pointer none,.pointer none,.pointer none] 63));clear hB hor)
  clear y1 y2;go_wp2;refine bodyPost_ret (results_none rfl _ _ _) rfl ?_;refine ⟨⟨_,rfl⟩,.inl ⟨[],O0,⟨(HGY.out.below HB1.out).mono fun i hi=>.inl hi,by simp,Gone.nil,?_⟩,HJ.out _ _ _ _ H0.out (StG.below HB1.out)⟩⟩;show (queW p t steps 0).length≤0;unfold queW;rw [if_neg fun h=>HR.out h.1];exact Nat.le_refl _
 have HR:=Aside0.mk hrng;clear hrng
 go_upto_region 1 with (go_at_call 44;refine (start2_calls HG.out HL.out.1 HL.out.2.1 (Nat.le_trans HL.out.2.2 (by decide)) t).mono ?_;rintro e w1 ⟨hB,hor⟩;obtain ⟨q,rfl,hwy⟩:=(hor.resolve_left fun h=>h.1 HR.out).2;have HB1:=Aside0.mk (z04 hB (.cells #[.pointer (some ⟨g,0,none⟩),.pointer q,.pointer none] 63));have HW1:=Aside0.mk (hwy.keep (WKeep.below (z04 (Below.refl w1.heap.size w1) (.cells #[.pointer (some ⟨g,0,none⟩),.pointer q,.pointer none] 63))));have BW1:=Aside0.mk (z14 w1 (.cells #[.pointer (some ⟨g,0,none⟩),.pointer q,.pointer none] 63));clear hB hor hwy)
 clear y1 y2;generalize w1.alloc (.cells #[.pointer (some ⟨g,0,none⟩),.pointer q,.pointer none] 63)=w2 at HB1 HW1 BW1 ⊢;generalize w1.heap.size=b5 at BW1 ⊢;have y3:w2.cell? ⟨b3,0,none⟩=some (.int .i64 steps):=(z01 (z0h BX3.out HB1.out) 0).trans rfl
 by_cases hst:steps < 0
 ·have est:decide (steps < 0)=true:=decide_eq_true hst;have HST:=Aside0.mk hst;clear hst;go_wp2;refine bodyPost_ret (results_none rfl _ _ _) rfl ?_;refine ⟨⟨_,rfl⟩,.inl ⟨[],O0,⟨(HGY.out.below HB1.out).mono fun i hi=>.inl hi,by simp,Gone.nil,?_⟩,HJ.out _ _ _ _ H0.out (StG.below HB1.out)⟩⟩;show (queW p t steps 0).length≤0;unfold queW;rw [if_neg fun h=>by have:=h.2;have:=HST.out;omega];exact Nat.le_refl _
 have est:decide (steps < 0)=false:=decide_eq_false hst;have HST:Aside0 (0≤steps):=⟨by omega⟩;clear hst
 go_upto_region 2 with (fail)
 clear y3;have HM0:=Aside0.mk (ZMap.made (P:=Tryz.prog) (kt:=3) (zv:=zW) w2);have BWA:=Aside0.mk (z06 BW1.out (.map #[] 0));have HBA:=Aside0.mk (z04 HB1.out (.map #[] 0));have HWA:=Aside0.mk (HW1.out.keep (WKeep.below (z04 (Below.refl w2.heap.size w2) (.map #[] 0))));have HSA:Aside0 (w.heap.size≤w2.heap.size):=⟨HB1.out.size⟩;have y0:(w2.alloc (.map #[] 0)).cell? ⟨b5,0,none⟩=some (.pointer (some ⟨g,0,none⟩)):=(z01 BWA.out 0).trans rfl;have y1:(w2.alloc (.map #[] 0)).cell? ⟨b5,1,none⟩=some (.pointer q):=(z01 BWA.out 1).trans rfl;have y2:(w2.alloc (.map #[] 0)).cell? ⟨b5,2,none⟩=some (.pointer none):=(z01 BWA.out 2).trans rfl;have hmm:=@run_makeMap Tryz.prog
 go_upto_region 3 with (refine z_store rfl _ _ _ (.inr rfl) mapW HM0.out rfl rfl (Gr.wfI_of (by omega)) (by decide) rfl ?_;intro w4 hm4 ht4;have HM4:=Aside0.mk hm4;have HT4:=Aside0.mk ht4;clear hm4 ht4)
 clear y0 y1 y2 hmm;generalize w2.alloc (.map #[] 0)=wa at HM0 BWA HBA HWA HT4;generalize w2.heap.size=bm at HM0 HM4 HT4 HSA ⊢;have HNm:Aside0 (N≤bm):=⟨Nat.le_trans HNB.out.2.2.2 HSA.out⟩;have HS0:Aside0 (WkS g B p Y N bm b1 b2 b3 t steps [(way0 t,q,none)] O0 wa 0 (fun _=>zW)):=⟨by
  have hO:∀ i,i < N→¬ X i→¬ O0 i:=fun i h1 h2 ho=>(HO0.out i ho).elim h2 fun h=>by omega
  refine ⟨fun x hx=>by rw [List.mem_singleton.1 hx];exact HWA.out,HM0.out,⟨_,HGY.out.lt'.below HBA.out,fun i hi=>⟨.inl hi.1,hO i (HNB.out.1 i hi.1).1 (HNB.out.1 i hi.1).2,fun e=>by have:=HSA.out;omega,Nat.lt_of_lt_of_le hi.2 HBA.out.size⟩⟩,z0h BX1.out HBA.out,z0h BX2.out HBA.out,z0h BX3.out HBA.out,
   hO g HNB.out.2.1.1 HNB.out.2.1.2,fun ho=>?_,hO b1 HNB.out.2.2.1.1.1 HNB.out.2.2.1.1.2,hO b2 HNB.out.2.2.1.2.1.1 HNB.out.2.2.1.2.1.2,hO b3 HNB.out.2.2.1.2.2.1 HNB.out.2.2.1.2.2.2⟩
  have:=((HJR.out _ _ _ H0.out).2 bm ho).1;have:=HSA.out;omega⟩
 have HS4:=Aside0.mk (HS0.out.turned HM4.out HT4.out);have HJ4:Aside0 (J [] O0 w4∧N≤w4.heap.size):=⟨HJ.out _ _ _ _ (HJ.out _ _ _ _ H0.out (StG.below HBA.out)) (StG.map HNm.out HT4.out),by have:=HM4.out.lt;have:=HNm.out;omega⟩;clear HM0 HT4 HBA HWA BWA HB1 HW1 BW1 HSA HS0 HM4;go_wp2
 go_loopw [8,9] (fun v8 v9 wr=>∃ (pre xs:List Wx) (O:Nat→Prop) (V:Int→Value),v8=.int .i64 pre.length∧v9=.int .i64 xs.length∧Aside0 (pre=xs.take pre.length∧pre.length≤xs.length)∧Aside0 (xs.map (·.1)=queW p t steps pre.length)∧Aside0 (Gone p t steps (pre.map (·.1))) ∧
   Aside0 (WkS g B p Y N bm b1 b2 b3 t steps xs O wr xs.length V)∧Aside0 (∀ (i:Nat) (x:Wx),pre.length≤i→xs[i]?=some x→V i=vW g x)∧Aside0 (J pre O wr∧N≤wr.heap.size)) (fun v8 _ _=>301 - (intOf v8).toNat)
 case atStart =>
  refine ⟨[],[(way0 t,q,none)],O0,_,rfl,rfl,⟨rfl,Nat.zero_le _⟩,⟨?_⟩,⟨Gone.nil⟩,HS4,⟨fun i x _ hx=>?_⟩,HJ4⟩
  ·show _=queW p t steps 0;unfold queW;rw [if_pos ⟨HR.out,HST.out⟩];rfl
  ·cases i with
   | zero=>simp at hx;rw [← hx];rfl
   | succ i=>simp at hx
 case round =>
  clear HS4 HJ4;obtain ⟨pre,xs,O,V,rfl,rfl,hpx,hq,hgn,hw,hv,hj⟩:=hrel;have hk300:pre.length≤300:=(HJR.out _ _ _ hj.out.1).1;have hxl:xs.length≤1+256 * pre.length:=by
   have h1:=que_len (t:=t) (steps:=steps) HL.out.2.2 pre.length;rw [← hq.out] at h1
   simpa using h1
  by_cases hlt:pre.length < xs.length
  ·obtain ⟨x,hx⟩:∃ x,xs[pre.length]?=some x:=⟨_,List.getElem?_eq_getElem hlt⟩;have hxm:=List.mem_of_getElem? hx;have hfx:=hw.out.fx x hxm;have HTQ:Aside0 ((queW p t steps pre.length)[pre.length]?=some x.1):=⟨by rw [← hq.out,List.getElem?_map,hx];rfl⟩;have HOK:=Aside0.mk (que_ok pre.length x.1 (List.mem_of_getElem? HTQ.out));have hVk:V pre.length=vW g x:=hv.out _ _ (Nat.le_refl _) hx;obtain ⟨⟨ns,ws⟩,qn,qw⟩:=x;obtain ⟨hne,hnl,hwl⟩:=hfx;cases ns with
   | nil=>exact absurd rfl hne
   | cons nd r =>
   obtain ⟨bn,q',hqn,hbn,hnr⟩:=id hnl;have hqn:qn=some ⟨bn,0,none⟩:=hqn;subst hqn;clear hne hnl hwl hbn hnr;have HPX:Aside0 (pre ++ [(⟨nd :: r,ws⟩,some ⟨bn,0,none⟩,qw)]=xs.take (pre.length+1)):=⟨by rw [List.take_add_one,hx,← hpx.out.1];rfl⟩;have HLT:=Aside0.mk hlt;have HXM:=Aside0.mk hxm;have HK3:=Aside0.mk hk300;have HXL:=Aside0.mk hxl;have HWK:Aside0 (Gr.wfI (pre.length:Int)):=⟨Gr.wfI_of (by omega)⟩;have hd:decide ((pre.length:Int) < (xs.length:Int))=true:=decide_eq_true (by omega);have hd2:decide (pre.length < xs.length)=true:=decide_eq_true hlt;have HWA:=Aside0.mk (hw.out.below (z04 (Below.refl wr.heap.size wr) (.cells #[.pointer (some ⟨g,0,none⟩),.pointer (some ⟨bn,0,none⟩),.pointer qw] 63)));have BXA:=Aside0.mk (z14 wr (.cells #[.pointer (some ⟨g,0,none⟩),.pointer (some ⟨bn,0,none⟩),.pointer qw] 63));have HJA:=Aside0.mk (HJ.out _ _ _ _ hj.out.1 (StG.below (z04 (Below.refl wr.heap.size wr) (.cells #[.pointer (some ⟨g,0,none⟩),.pointer (some ⟨bn,0,none⟩),.pointer qw] 63))));have HNR:=Aside0.mk hj.out.2;have HBL:Aside0 (bm < wr.heap.size):=⟨hw.out.map.lt⟩;have HOL:Aside0 (∀ i,O i→i < wr.heap.size):=⟨fun i hi=>((HJR.out _ _ _ hj.out.1).2 i hi).1⟩;clear hx hlt hxm hk300 hxl hj;have hlk:(Instr.lookup 139 (.map (some bm)) (.int .i64 (pre.length:Int)) false).run Tryz.prog wr=.ok (.agg #[.pointer (some ⟨g,0,none⟩),.pointer (some ⟨bn,0,none⟩),.pointer qw]) wr:=(hw.out.map.look mapW HWK.out).trans (by rw [hVk];rfl);clear hVk
   go_upto_region 8 with ((at_delete;refine z_drop rfl _ _ rfl mapW HWA.out.map rfl rfl HWK.out ?_;intro w2 hm2 ht2;have HM2:=Aside0.mk hm2;have HT2:=Aside0.mk ht2;clear hm2 ht2))
   clear hlk hd hd2;generalize wr.alloc (.cells #[.pointer (some ⟨g,0,none⟩),.pointer (some ⟨bn,0,none⟩),.pointer qw] 63)=wa at HWA BXA HJA HT2;generalize wr.heap.size=b10 at BXA HBL HOL HNR ⊢;have HW2:=Aside0.mk (HWA.out.turned HM2.out HT2.out);have BX2':=Aside0.mk ((HT2.out.grown.block b10 (z0s BXA.out) (fun e=>by injection e with e;have:=HBL.out;omega)).trans BXA.out);have HJ2:=Aside0.mk (HJ.out _ _ _ _ HJA.out (StG.map HNm.out HT2.out));have HX2:=Aside0.mk (HW2.out.fx _ HXM.out);have HG2:=Aside0.mk HT2.out.grown.size;have HN2:Aside0 (N≤w2.heap.size):=⟨by have:=z0s BX2'.out;have:=HNR.out;omega⟩;have e0:w2.cell? ⟨b10,0,none⟩=some (.pointer (some ⟨g,0,none⟩)):=(z01 BX2'.out 0).trans rfl;have e1:w2.cell? ⟨b10,1,none⟩=some (.pointer (some ⟨bn,0,none⟩)):=(z01 BX2'.out 1).trans rfl;have e2:w2.cell? ⟨b10,2,none⟩=some (.pointer qw):=(z01 BX2'.out 2).trans rfl;clear HM2 HT2 HWA HJA BXA;obtain ⟨fn,tmps,assign,body,hy,hR⟩:=HY.out pre (⟨nd :: r,ws⟩,some ⟨bn,0,none⟩,qw) O w2 HJ2.out HX2.out HTQ.out;dsimp only [encW] at hy;have HRR:=Aside0.mk hR;clear hR;refine (wpIn_wide (n:=m+1)).1 ?_
   gi_wp2
   refine HRR.out.mono ?_;rintro e w3 ⟨O',hF3,hO3,(⟨rfl,hJ3⟩|⟨rfl,hJ3⟩)⟩
   ·have HR3:Aside0 (J (pre ++ [(⟨nd :: r,ws⟩,some ⟨bn,0,none⟩,qw)]) O' w3):=⟨hJ3⟩;have HW3:=Aside0.mk (HW2.out.yield hF3 hO3 fun i hi=>((HJR.out _ _ _ HJ2.out).2 i hi).2);have BX3':=Aside0.mk ((hF3.block b10 (z0s BX2'.out) (fun ho=>by have:=HOL.out _ ho;omega)).trans BX2'.out);have HN3:Aside0 (N≤w3.heap.size):=⟨Nat.le_trans HN2.out hF3.size⟩;clear hF3 hO3 hJ3 hy e0 e1 e2;have HGN:Aside0 (Gone p t steps ((pre ++ [((⟨nd :: r,ws⟩:Wy),(some ⟨bn,0,none⟩:Option Addr),qw)]).map (·.1))):=⟨by
     rw [List.map_append];exact hgn.out.snoc (by simpa using HTQ.out)⟩
    have HXT:=Aside0.mk (HW3.out.fx _ HXM.out);obtain ⟨lp,hlp⟩:∃ lp,(nd :: r).map (·.at_)=lp:=⟨_,rfl⟩;have HLP:Aside0 (lp.length=(nd :: r).length):=⟨by rw [← hlp];simp⟩;have HPC:Aside0 (∀ W,WKeep w3 W→Calls Tryz.prog 46 #[.agg #[.pointer (some ⟨g,0,none⟩),.pointer (some ⟨bn,0,none⟩),.pointer qw]] W (PathPost W lp)):=⟨fun W hk=>by
     rw [← hlp];exact path_calls (HXT.out.2.1.keep hk) (by have:=HOK.out.2;have:=HK3.out;have e:(nd :: r).length≤pre.length+1:=HOK.out.2;show (nd :: r).length < 900000;omega)⟩
    clear hlp
    gi_wp2
    go_upto_region 9 with (fail)
    refine z27 (n:=5) (S:=fun w'=>w'.cell? ⟨b10,0,none⟩=some (.pointer (some ⟨g,0,none⟩))∧w'.cell? ⟨b10,1,none⟩=some (.pointer (some ⟨bn,0,none⟩))∧w'.cell? ⟨b10,2,none⟩=some (.pointer qw)∧w'.cell? ⟨b3,0,none⟩=some (.int .i64 steps)) (ds:=[]) #[zf,zf,zf,zf,zf] (by kernel_rfl) rfl rfl ⟨(z01 BX3'.out 0).trans rfl,(z01 BX3'.out 1).trans rfl,(z01 BX3'.out 2).trans rfl,(z01 HW3.out.c3 0).trans rfl⟩ (fun hHeld=>?_);refine take_ (i:=0) (N:=some 42) (v:=?_) (a':=?_) #[zt,zf,zf,zf,zf] rfl rfl (by kernel_rfl) (fun _ _ _ h=>h) (Or.inl ⟨by rfl,?_⟩) hHeld ?_ ?_;rotate_left
    ·rintro w' ⟨s0,s1,s2,s3⟩;go_simp;with_reducible rfl
    rotate_left
    ·simp only [Act.put,zq1,zq2,zq3,i64_w,i32_w];rfl
    refine take_ (i:=3) (N:=some 45) (v:=?_) (a':=?_) #[zt,zf,zf,zt,zf] rfl rfl (by kernel_rfl) (fun _ _ _ h=>h) (Or.inl ⟨by rfl,?_⟩) hHeld ?_ ?_;rotate_left
    ·rintro w' ⟨s0,s1,s2,s3⟩;go_simp;with_reducible rfl
    rotate_left
    ·simp only [Act.put,zq1,zq2,zq3,i64_w,i32_w];rfl
    refine one_ (i:=1) (N:=some 43) #[zt,zt,zf,zt,zf] rfl rfl (by kernel_rfl) (by decide) (fun K hK=>?_);refine goes_ Tryz.func46 (by kernel_rfl) rfl #[.agg #[.pointer (some ⟨g,0,none⟩),.pointer (some ⟨bn,0,none⟩),.pointer qw]] (by rfl) rfl rfl (by simp only [List.map_toArray,List.map_cons,List.map_nil];rfl) ?_;refine (HPC.out _ (WKeep.below (z12 (Below.refl w3.heap.size w3)))).mono ?_;rintro e w4 ⟨v4,rfl,hq4,hb4⟩;obtain ⟨a4,c4,rfl,_⟩:=hq4.slice;refine ⟨_,rfl,?_⟩;have HB4:=Aside0.mk (z0x (z12 (Below.refl w3.heap.size w3)) (z12 (Below.refl w3.heap.size w3)).size hb4);have BX4':=Aside0.mk (z0h BX3'.out HB4.out);have HW4:=Aside0.mk (HW3.out.below HB4.out);clear hq4 hb4;refine hK.out _ _ ⟨(z01 BX4'.out 0).trans rfl,(z01 BX4'.out 1).trans rfl,(z01 BX4'.out 2).trans rfl,(z01 HW4.out.c3 0).trans rfl⟩ (fun hHeld=>?_);clear hK K;refine norm_ (a':=?_) ?_ ?_;rotate_left
    ·show Act.put _ (some 43) _=_;simp only [Act.put,zq1,zq2,zq3,i64_w,i32_w];rfl
    refine pure_ (i:=2) (N:=some 44) (v:=?_) (a':=?_) #[zt,zt,zt,zt,zf] rfl rfl (by kernel_rfl) (fun _ _ _ h=>h) (Or.inl ⟨by rfl,?_⟩) ?_ ?_;rotate_left
    ·intro w';go_simp;with_reducible rfl
    rotate_left
    ·simp only [Act.put,zq1,zq2,zq3,i64_w,i32_w];rfl
    refine pure_ (i:=4) (N:=some 46) (v:=?_) (a':=?_) #[zt,zt,zt,zt,zt] rfl rfl (by kernel_rfl) (fun _ _ _ h=>h) (Or.inl ⟨by rfl,?_⟩) ?_ ?_;rotate_left
    ·intro w';go_simp;with_reducible rfl
    rotate_left
    ·simp only [Act.put,zq1,zq2,zq3,i64_w,i32_w];rfl
    refine done_ (by kernel_rfl) ?_;clear hHeld;have HN4:Aside0 (N≤w4.heap.size):=⟨Nat.le_trans HN3.out HB4.out.size⟩;have HJ5:=Aside0.mk (HJ.out _ _ _ _ HR3.out (StG.below HB4.out));have hwi:IntKind.i64.wrap ((pre.length:Int)+1)=(pre.length:Int)+1:=IntWalk.i64_in _ (by have:=HK3.out;omega);try simp only [gt_iff_lt]
    generalize hgd:decide (steps < (lp.length:Int))=bb;cases bb with
    | true =>
     have hlen:(lp.length:Int) > steps:=of_decide_eq_true hgd;have HE:Aside0 (queW p t steps (pre.length+1)=queW p t steps pre.length):=⟨by
      rw [que_succ HTQ.out,if_pos (by show (((nd :: r).length:Nat):Int) > steps;rw [← HLP.out];exact hlen),List.append_nil]⟩
     clear hlen hgd;go_wp2
     go_roundw
     case rel =>
      refine ⟨pre ++ [(⟨nd :: r,ws⟩,some ⟨bn,0,none⟩,qw)],xs,O',_,by first|go_num|simp,rfl,⟨?_⟩,⟨?_⟩,HGN,HW4,⟨fun i x hi hx=>?_⟩,⟨HJ5.out,HN4.out⟩⟩
      ·rw [List.length_append];exact ⟨HPX.out,HLT.out⟩
      ·rw [List.length_append,hq.out];exact HE.out.symm
      ·rw [List.length_append] at hi;have hi:pre.length+1≤i:=hi;unfold upd;rw [if_neg (by omega)];exact hv.out i x (by omega) hx
     case measure=>have:=HK3.out;simp [intOf];omega
    | false =>
     have hlen:¬ (lp.length:Int) > steps:=of_decide_eq_false hgd;have HE:Aside0 (queW p t steps (pre.length+1)=queW p t steps pre.length ++ z2c p ⟨nd :: r,ws⟩):=⟨by
      rw [que_succ HTQ.out,if_neg (by show ¬ (((nd :: r).length:Nat):Int) > steps;rw [← HLP.out];exact hlen)]⟩
     clear hlen hgd;obtain ⟨Yr,hg1,hg2⟩:=HW4.out.gry;have HX4:=Aside0.mk (HW4.out.fx _ HXM.out);have HNI:Aside0 (NdIn p (pre.length+1) nd):=⟨by
      obtain ⟨⟨nd',r',e',hin,_⟩,hnl⟩:=HOK.out;cases e';exact hin.mono hnl⟩
     have HBK:=Aside0.mk (back_calls HP.out HL.out.1 HL.out.2.1 (Nat.le_trans HL.out.2.2 (by decide)) hg1 HX4.out.2.1 HX4.out.2.2 (Gr.wfI_of (by have:=HNI.out.1;have:=HL.out.2.2;omega)) (by have:=HNI.out.2.1;have:=HK3.out;omega) (by have:=HNI.out.2.2.1;have:=HK3.out;omega) (by have:=HNI.out.2.2.2;have:=HK3.out;omega));have HYR:=Aside0.mk hg2;clear hg1 hg2;have f0:w4.cell? ⟨b10,0,none⟩=some (.pointer (some ⟨g,0,none⟩)):=(z01 BX4'.out 0).trans rfl;have f1:w4.cell? ⟨b10,1,none⟩=some (.pointer (some ⟨bn,0,none⟩)):=(z01 BX4'.out 1).trans rfl;have f2:w4.cell? ⟨b10,2,none⟩=some (.pointer qw):=(z01 BX4'.out 2).trans rfl
     go_wp2_with (go_at_call 45;refine HBK.out.mono ?_;rintro e w5 ⟨v5,ys,rfl,h1,h2,h3,h4,h5⟩;obtain ⟨a5,c5,rfl⟩:=h1.form;have HR5:=Aside0.mk (And.intro h1 (And.intro h2 (And.intro h3 (And.intro h4 h5))));clear h1 h2 h3 h4 h5)
     have HW5:=Aside0.mk (HW4.out.back HYR.out HN4.out HR5.out.2.2.2.2 HR5.out.2.2.2.1 HR5.out.2.1 fun i hi=>((HJR.out _ _ _ HJ5.out).2 i hi).1);have HJ6:=Aside0.mk (HJ.out _ _ _ _ HJ5.out (StG.fr_g HR5.out.2.2.2.2));have HN5:Aside0 (N≤w5.heap.size):=⟨Nat.le_trans HN4.out HR5.out.2.2.2.2.size⟩;have HYS:Aside0 (ys.map (·.1)=z2c p ⟨nd :: r,ws⟩):=⟨HR5.out.2.2.1⟩;have HYL:Aside0 (ys.length≤256):=⟨by have h1:=backsW_len HL.out.2.2 ⟨nd :: r,ws⟩;rw [← HYS.out] at h1;simpa using h1⟩;have HRW:=Aside0.mk HR5.out.1;clear f0 f1 f2 HR5 HBK
     go_loopw [9,50] (fun v9 v50 wr=>∃ (j n9:Nat) (V2:Int→Value),v9=.int .i64 n9∧v50=.int .i64 j∧Aside0 (j≤ys.length∧n9=xs.length+j)∧Aside0 (WkS g B p Y N bm b1 b2 b3 t steps (xs ++ ys) O' wr n9 V2) ∧
       Aside0 (∀ (i:Nat) (z:Wx),pre.length+1≤i→(xs ++ ys.take j)[i]?=some z→V2 i=vW g z)∧Aside0 (J (pre ++ [(⟨nd :: r,ws⟩,some ⟨bn,0,none⟩,qw)]) O' wr∧N≤wr.heap.size)∧Aside0 (RowW wr g w4.heap.size (.slice a5 ys.length c5) ys)) (fun _ v50 _=>ys.length - (intOf v50).toNat)
     case atStart =>
      refine ⟨0,xs.length,_,rfl,rfl,⟨Nat.zero_le _,rfl⟩,HW5,⟨fun i z hi hz=>?_⟩,⟨HJ6.out,HN5.out⟩,HRW⟩;rw [List.take_zero,List.append_nil] at hz;unfold upd;rw [if_neg (by omega)];exact hv.out i z (by omega) hz
     case round =>
      clear HW5 HJ6 HN5 HRW;obtain ⟨j,n9,V2,rfl,rfl,hj9,hw5,hv5,hj5,hrw⟩:=hrel;have hjy:=hj9.out.1;have hyl:=HYL.out;have hxl:=HXL.out;have hk3:=HK3.out;have hn9:=hj9.out.2
      by_cases hjl:j < ys.length
      ·obtain ⟨z,hz⟩:∃ z,ys[j]?=some z:=⟨_,List.getElem?_eq_getElem hjl⟩;obtain ⟨ad,ea,z0,z1,z2⟩:=hrw.out.at_ hz;subst ea;have HZ:=Aside0.mk hz;have hd:decide ((j:Int) < (ys.length:Int))=true:=decide_eq_true (by omega);have hd2:decide (j < ys.length)=true:=decide_eq_true hjl;have hp0:(0≤(j:Int))=True:=eq_true (by omega);have hp1:((j:Int) < (ys.length:Int))=True:=eq_true (by omega);have hp2:(j < ys.length)=True:=eq_true hjl;have hwj:IntKind.i64.wrap ((j:Int)+1)=(j:Int)+1:=IntWalk.i64_in _ (by omega);have hwn:IntKind.i64.wrap ((n9:Int)+1)=(n9:Int)+1:=IntWalk.i64_in _ (by omega);have HWN:Aside0 (Gr.wfI (n9:Int)∧n9 < 1000000):=⟨Gr.wfI_of (by omega),by omega⟩;have HJL:=Aside0.mk hjl;have HWB:=Aside0.mk (hw5.out.below (z04 (Below.refl wr.heap.size wr) (.cells #[.pointer (some ⟨g,0,none⟩),.pointer z.2.1,.pointer z.2.2] 63)));have HJB:=Aside0.mk (HJ.out _ _ _ _ hj5.out.1 (StG.below (z04 (Below.refl wr.heap.size wr) (.cells #[.pointer (some ⟨g,0,none⟩),.pointer z.2.1,.pointer z.2.2] 63))));have HSB:Aside0 (wr.heap.size≤(wr.alloc (.cells #[.pointer (some ⟨g,0,none⟩),.pointer z.2.1,.pointer z.2.2] 63)).heap.size):=⟨(z04 (Below.refl wr.heap.size wr) _).size⟩;have HRB:=Aside0.mk (hrw.out.keep (w':=wr.alloc (.cells #[.pointer (some ⟨g,0,none⟩),.pointer z.2.1,.pointer z.2.2] 63)) fun k c _ hc=>z06 hc (.cells #[.pointer (some ⟨g,0,none⟩),.pointer z.2.1,.pointer z.2.2] 63));have x0:(wr.alloc (.cells #[.pointer (some ⟨g,0,none⟩),.pointer z.2.1,.pointer z.2.2] 63)).cell? ⟨wr.heap.size,0,none⟩=some (.pointer (some ⟨g,0,none⟩)):=(z01 (z14 wr _) 0).trans rfl;have x1:(wr.alloc (.cells #[.pointer (some ⟨g,0,none⟩),.pointer z.2.1,.pointer z.2.2] 63)).cell? ⟨wr.heap.size,1,none⟩=some (.pointer z.2.1):=(z01 (z14 wr _) 1).trans rfl;have x2:(wr.alloc (.cells #[.pointer (some ⟨g,0,none⟩),.pointer z.2.1,.pointer z.2.2] 63)).cell? ⟨wr.heap.size,2,none⟩=some (.pointer z.2.2):=(z01 (z14 wr _) 2).trans rfl;clear hz hjl hjy hyl hxl hk3 hn9
       go_wp2_with (at_mapUpdate;refine z_store rfl _ _ _ (.inl rfl) mapW HWB.out.map rfl rfl HWN.out.1 (Nat.lt_of_lt_of_le HWN.out.2 (by decide)) rfl ?_;intro w6 hm6 ht6;have HM6:=Aside0.mk hm6;have HT6:=Aside0.mk ht6;clear hm6 ht6)
       have HW6:=HWB.out.turned HM6.out HT6.out;have hN6:=HT6.out.grown.size;have HK6:Aside0 (RowW w6 g w4.heap.size (.slice (some ad) ys.length c5) ys):=⟨HRB.out.keep fun k c _ hc=>(HT6.out.grown.block k (z0s hc) fun e=>by
        obtain ⟨es,cl,hmb⟩:=HWB.out.map.block;injection e with e
        rw [e,hmb] at hc;cases hc).trans hc⟩
       go_roundw
       case rel =>
        refine ⟨j+1,n9+1,_,by first|go_num|simp,by first|go_num|simp,⟨HJL.out,by have:=hj9.out.2;omega⟩,⟨HW6⟩,⟨fun i z' hi hz'=>?_⟩,⟨HJ.out _ _ _ _ HJB.out (StG.map HNm.out HT6.out),Nat.le_trans hj5.out.2 (Nat.le_trans HSB.out hN6)⟩,HK6⟩;rw [List.take_add_one,HZ.out,← List.append_assoc] at hz';have hla:(xs ++ ys.take j).length=n9:=by
         rw [hj9.out.2,List.length_append,List.length_take];have:=HJL.out;omega
        unfold upd
        rcases Nat.lt_or_ge i n9 with h|h
        ·rw [List.getElem?_append_left (by omega)] at hz';rw [if_neg (by omega)];exact hv5.out i z' hi hz'
        ·rw [List.getElem?_append_right (by omega),hla] at hz';have h1:=(List.getElem?_eq_some_iff.1 hz').1;simp at h1;have h2:i=n9:=(by omega);subst h2;simp at hz';rw [if_pos rfl,← hz'];rfl
       case measure=>have:=HJL.out;simp [intOf];omega
      ·have hd:decide ((j:Int) < (ys.length:Int))=false:=decide_eq_false (by omega);have hd2:decide (j < ys.length)=false:=decide_eq_false hjl;have hje:j=ys.length:=(by omega);have HJE:Aside0 (j=ys.length∧n9=(xs ++ ys).length):=⟨hje,by rw [List.length_append];omega⟩;clear hje hjl hjy hyl hxl hk3 hn9;go_wp2
       go_roundw
       case rel =>
        have e9:=HJE.out.2;subst e9;refine ⟨pre ++ [(⟨nd :: r,ws⟩,some ⟨bn,0,none⟩,qw)],xs ++ ys,O',V2,by first|go_num|simp,rfl,⟨?_⟩,⟨?_⟩,HGN,hw5,⟨fun i x hi hx=>?_⟩,hj5⟩
        ·rw [List.length_append,List.length_append];refine ⟨?_,by have:=HLT.out;simp;omega⟩;rw [HPX.out,List.take_append_of_le_length (by have:=HLT.out;simp;omega)];rfl
        ·rw [List.length_append,List.map_append,hq.out,HYS.out];exact HE.out.symm
        ·rw [List.length_append] at hi;refine hv5.out i x hi ?_;rw [HJE.out.1,List.take_length];exact hx
       case measure=>have:=HK3.out;simp [intOf];omega
   ·have HR3:=Aside0.mk (And.intro hF3 (And.intro hO3 hJ3));clear hF3 hO3 hJ3 hy e0 e1 e2
    gi_wp2
    go_wp2;refine bodyPost_ret (results_none rfl _ _ _) rfl ?_;have HW3:=HW2.out.yield HR3.out.1 HR3.out.2.1 fun i hi=>((HJR.out _ _ _ HJ2.out).2 i hi).2
    obtain ⟨Yr,hg1,hg2⟩:=HW3.gry;refine ⟨⟨_,rfl⟩,.inr ⟨pre ++ [(⟨nd :: r,ws⟩,some ⟨bn,0,none⟩,qw)],O',⟨hg1.mono fun i hi=>(hg2 i hi).1,fun x hx=>HW3.fx x ?_,?_⟩,HR3.out.2.2⟩⟩
    ·rw [HPX.out] at hx;exact List.mem_of_mem_take hx
    ·rw [List.map_append];exact hgn.out.snoc (by simpa using HTQ.out)
  ·have hd:decide ((pre.length:Int) < (xs.length:Int))=false:=decide_eq_false (by omega);have hd2:decide (pre.length < xs.length)=false:=decide_eq_false hlt;have hpl:pre.length=xs.length:=by have:=hpx.out.2;omega
   have HPL:=Aside0.mk hpl;clear hlt hpl;go_wp2;go_end0
   obtain ⟨Yr,hg1,hg2⟩:=hw.out.gry;refine ⟨⟨_,rfl⟩,.inl ⟨pre,O,⟨hg1.mono fun i hi=>(hg2 i hi).1,fun x hx=>hw.out.fx x ?_,hgn.out,?_⟩,hj.out.1⟩⟩
   ·rw [hpx.out.1] at hx;exact List.mem_of_mem_take hx
   ·rw [← hq.out,List.length_map];exact Nat.le_of_eq HPL.out.symm
attribute [local go_sem] Oper.semAt_some
def CountPost (w:World) (g B:Nat) (p:Im) (Y:Nat→Prop) (t steps M:Int) (e:Ending) (w':World):Prop :=
 ∃ ys:List Wy,e=.returned (.int .i64 ys.length)∧Gone p t steps ys∧(((ys.length:Int)≤M∧(queW p t steps ys.length).length≤ys.length)∨(ys.length:Int)=M+1)∧GrY w' g B p (fun i=>Y i∨w.heap.size≤i)∧Fr w w' (fun i=>i=g)
def CntI (w:World) (g b7 b9:Nat) (M:Int) (pre:List Wx) (O:Nat→Prop) (W:World):Prop :=
 W.heap[b9]?=some (.cells #[.int .i64 pre.length] 3 (0,0))∧W.heap[b7]?=some (.cells #[.int .i64 M] 3 (0,0))∧(∀ i,O i↔i=b9)∧Fr w W (fun i=>i=g)
theorem count_calls {w:World} {g B:Nat} {p:Im} {Y:Nat→Prop} (hp:Rt p) (hl3:p.f3.length≤100) (hl4:p.f4.length≤40) (hl5:p.f5.length≤256) (hgy:GrY w g B p Y) (t steps most:Int) (hm:most≤300) :
  Calls Tryz.prog 40 #[.pointer (some ⟨g,0,none⟩),.int .i64 t,.int .i64 steps,.int .i64 most] w (CountPost w g B p Y t steps (max most 0)):=by
 refine (callsIn_wide (n:=3)).1 ?_;refine callsIn_of_wp_marks Tryz.func40 rfl trivial ?_;simp only [Tryz.ntmps40,List.size_toArray,List.length_cons,List.length_nil,Nat.reduceAdd,Nat.reduceSub,Array.replicate_succ,Array.replicate_zero,List.push_toArray,List.append_toArray,List.nil_append,List.cons_append];have HP:=Aside0.mk hp;have HL:=Aside0.mk (And.intro hl3 (And.intro hl4 hl5));have HGY:=Aside0.mk hgy;have HM:=Aside0.mk hm;clear hp hl3 hl4 hl5 hgy hm;have hs1:∀ (w:World) (o:Obj),(w.alloc o).heap.size=w.heap.size+1:=fun w o=>by show (w.heap.push _).size=_;simp
 have HBA:=Aside0.mk (z04 (z04 (Below.refl w.heap.size w) (.cells #[.int .i64 (max most 0)] 3)) (.cells #[.int .i64 0] 3));have B7:=Aside0.mk (z06 (z14 w (.cells #[.int .i64 (max most 0)] 3)) (.cells #[.int .i64 0] 3));have h9:=z14 (w.alloc (.cells #[.int .i64 (max most 0)] 3)) (.cells #[.int .i64 0] 3);rw [hs1] at h9;have B9:=Aside0.mk h9;have HZ:Aside0 (((w.alloc (.cells #[.int .i64 (max most 0)] 3)).alloc (.cells #[.int .i64 0] 3)).heap.size=w.heap.size+2):=⟨by rw [hs1,hs1]⟩;clear h9 hs1
 gi_wp2_with (fail)
 refine ⟨trivial,(callsIn_wide.2 (walk_calls _ g t steps)).mono ?_⟩;rintro e w3 ⟨b1,b2,b3,rfl,h1,h2,h3,hB,hge⟩;have HW3:=Aside0.mk (And.intro h1 (And.intro h2 (And.intro h3 (And.intro hB hge))));clear h1 h2 h3 hB hge
 gi_wp2
 generalize (w.alloc (.cells #[.int .i64 (max most 0)] 3)).alloc (.cells #[.int .i64 0] 3)=w2 at HBA B7 B9 HZ HW3;obtain ⟨h1,h2,h3,hB,hg1,hg2,hg3⟩:=HW3.out;have HB3:=Aside0.mk (z0x HBA.out HBA.out.size hB);have B73:=Aside0.mk (z0h B7.out hB);have B93:=Aside0.mk (z0h B9.out hB);have HZ3:Aside0 (w.heap.size+2≤w3.heap.size∧w.heap.size+2≤b1∧w.heap.size+2≤b2∧w.heap.size+2≤b3∧b1 < w3.heap.size∧b2 < w3.heap.size∧b3 < w3.heap.size):=⟨by have:=HZ.out;exact ⟨by have:=hB.size;omega,by omega,by omega,by omega,z0s h1,z0s h2,z0s h3⟩⟩;have HC:=Aside0.mk (And.intro h1 (And.intro h2 h3));have HG0:=Aside0.mk HGY.out.gr.lt;have eg:∀ args w,(callFunc 92 args).run Tryz.prog w=.ok (.enter 92 args) w:=enters_of Tryz.func92 (by kernel_rfl) rfl;clear h1 h2 h3 hB hg1 hg2 hg3 HW3 B7 B9 HZ HBA;obtain ⟨M,hM⟩:∃ M,max most 0=M:=⟨_,rfl⟩;have HMM:Aside0 (0≤M∧M≤300):=⟨by have:=HM.out;omega⟩;rw [hM] at B73;simp only [hM];have HMX:=Aside0.mk hM;clear hM;have HS:SeqO 2 Tryz.prog 92 _ _ _ _ _ _ _ g w3.heap.size (fun i=>i=w.heap.size+1) _:=walk1_seq (m:=2) (g:=g) (B:=B) (N:=w3.heap.size) (b1:=b1) (b2:=b2) (b3:=b3) (p:=p) (t:=t) (steps:=steps) (Y:=fun i=>Y i∧i < w.heap.size) (X:=fun i=>i=w.heap.size+1) HP.out HL.out.1 HL.out.2.1 HL.out.2.2
  (fun i hi=>⟨by have:=hi.2;have:=HZ3.out.1;omega,fun e=>by have:=hi.2;omega⟩) ⟨by have:=HG0.out;have:=HZ3.out.1;omega,fun e=>by have:=HG0.out;omega⟩
  ⟨⟨HZ3.out.2.2.2.2.1,fun e=>by have:=HZ3.out.2.1;omega⟩,⟨HZ3.out.2.2.2.2.2.1,fun e=>by have:=HZ3.out.2.2.1;omega⟩,⟨HZ3.out.2.2.2.2.2.2,fun e=>by have:=HZ3.out.2.2.2.1;omega⟩⟩
 obtain ⟨b9,hb9⟩:∃ b9,w.heap.size+1=b9:=⟨_,rfl⟩;obtain ⟨b7,hb7⟩:∃ b7,w.heap.size=b7:=⟨_,rfl⟩;rw [hb9] at HS B93;rw [hb7] at B73;simp only [hb9];simp only [hb7];have HBB:Aside0 (b9=w.heap.size+1∧b7=w.heap.size):=⟨hb9.symm,hb7.symm⟩;have hgb9:b9≠g:=by have:=HG0.out;omega
 have hgb7:b7≠g:=by have:=HG0.out;omega
 have hN:w.heap.size≤w3.heap.size:=by have:=HZ3.out.1;omega
 clear hb9 hb7;have hIst:∀ (s:List Wx) (O:Nat→Prop) (A Bw:World),CntI w g b7 b9 M s O A→StG g w3.heap.size A Bw→CntI w g b7 b9 M s O Bw:=fun s O A Bw ⟨h9,h7,hO,hf⟩ st =>
  ⟨st.keep h9 hgb9 (fun es c e=>by cases e),st.keep h7 hgb7 (fun es c e=>by cases e),hO,st.old hf hN⟩
 have hIlp:∀ (s:List Wx) (O:Nat→Prop) (A Bw:World),CntI w g b7 b9 M s O A→LpK w3.heap.size A Bw→CntI w g b7 b9 M s O Bw:=fun s O A Bw ⟨h9,h7,hO,hf⟩ st =>
  ⟨st.keep h9 (fun r e=>by cases e) (fun c e=>by cases e),st.keep h7 (fun r e=>by cases e) (fun c e=>by cases e),hO,st.old hf hN⟩
 have HIS:=Aside0.mk (And.intro hIst hIlp);clear hIst hIlp;refine rangeO (m:=2) rfl eg HS (fun _=>rfl) (by have:=HG0.out;have:=HZ3.out.1;omega)
  (fun W1 hb=>⟨z0h HC.out.1 hb,z0h HC.out.2.1 hb,z0h HC.out.2.2 hb,HGY.out.lt'.below (z0x HB3.out HB3.out.size hb)⟩) (fun x A B h hb=>h.keep (WKeep.below hb)) (fun x A B h hl=>h.keep hl.wk)
  (fun pre O W=>CntI w g b7 b9 M pre O W∧(pre.length:Int)≤M) (fun c pre O W=>c=.exit 0∧CntI w g b7 b9 M pre O W∧(pre.length:Int)=M+1)
  (fun s O A Bw h st=>⟨HIS.out.1 _ _ _ _ h.1 st,h.2⟩) (fun s O A Bw h st=>⟨HIS.out.2 _ _ _ _ h.1 st,h.2⟩) (fun c s O A Bw h st=>⟨h.1,HIS.out.1 _ _ _ _ h.2.1 st,h.2.2⟩) (fun c s O A Bw h st=>⟨h.1,HIS.out.2 _ _ _ _ h.2.1 st,h.2.2⟩) ?_ ?_ ?_ ?_ ?_
 ·rintro s O A ⟨⟨h9,h7,hO,hf⟩,hl⟩;refine ⟨by have:=HMM.out;omega,fun i hi=>?_⟩;rw [(hO i).1 hi];exact ⟨z0s h9,fun c t hc=>by rw [h9] at hc;cases hc;exact ⟨by decide,by decide⟩⟩
 ·exact ⟨⟨B93.out,B73.out,fun i=>Iff.rfl,Fr.mono (Fr.of_below HB3.out) fun i h1 h2=>by omega⟩,HMM.out.1⟩
 ·rintro l pre x O W hW hI0 hFx hT;rw [show encW g x=#[.agg #[.pointer (some ⟨g,0,none⟩),.pointer x.2.1,.pointer x.2.2]] from rfl,fold1];simp only [zq1,zq2,zq3];have HI0:=Aside0.mk hI0;clear hI0
  gi_wp2
  refine ⟨Below.refl _ _,?_⟩;rintro W2 hl ⟨h9,h7,hO,hf⟩ hle hFx2;have c9:=(z01 h9 0).trans rfl;have f9:=z02 h9 0;have hne:b7≠b9:=by have:=HBB.out;omega
  have c7:∀ v,(W2.setCell ⟨b9,0,none⟩ v).cell? ⟨b7,0,none⟩=some (.int .i64 M):=fun v=>(z01 (z0z h7 (p:=⟨b9,0,none⟩) hne v) 0).trans rfl
  have hwi:IntKind.i64.wrap ((pre.length:Int)+1)=(pre.length:Int)+1:=IntWalk.i64_in _ (by have:=HMM.out;omega);have HI:=Aside0.mk (And.intro h9 (And.intro h7 (And.intro hO (And.intro hf hle))));clear h9 h7 hO hf hle hFx hFx2 hT hl hne HI0;have hlen:(((pre ++ [x]).length:Nat):Int)=(pre.length:Int)+1:=by simp
  have hcnt:CntI w g b7 b9 M (pre ++ [x]) O (W2.setCell ⟨b9,0,none⟩ (.int .i64 ((pre.length:Int)+1))):=by
   unfold CntI;rw [hlen];exact ⟨z1d HI.out.1 0 _,z0z HI.out.2.1 (p:=⟨b9,0,none⟩) (by show b7≠b9;have:=HBB.out;omega) _,HI.out.2.2.1,z2m HI.out.2.2.2.1 (z2l W2 ⟨b9,0,none⟩ _) fun i (e:i=b9)=>.inr (by have:=HBB.out;omega)⟩
  have HCN:=Aside0.mk (And.intro hlen hcnt);have HFS:Aside0 (Fr W2 (W2.setCell ⟨b9,0,none⟩ (.int .i64 ((pre.length:Int)+1))) O):=⟨Fr.mono (z2l W2 ⟨b9,0,none⟩ _) fun i _ (e:i=b9)=>(HI.out.2.2.1 i).2 e⟩;clear hlen hcnt
  gi_wp2
  ·rename_i h
   exact ⟨O,HFS.out,fun i hi=>.inl hi,rfl,HCN.out.2,by rw [HCN.out.1];have:=HI.out.2.2.2.2;omega⟩
  ·rename_i h
   exact ⟨O,HFS.out,fun i hi=>.inl hi,HCN.out.2,by rw [HCN.out.1];omega⟩
 ·rintro xs O W W' hS hl ⟨⟨h9,h7,hO,hf⟩,hle⟩ hD;have c9:=(z01 h9 0).trans rfl;have HLE:=Aside0.mk hle;clear hle
  gi_wp2
  refine ⟨by simp,.inl ⟨_,_,rfl,run_takeDeferred hD,?_⟩⟩;have hlp:LpK w3.heap.size W' (W'.putObj w3.heap.size (.deferred none)):=LpK.putD (Nat.le_refl _) hD _;refine ⟨_,results_tmp rfl _ _ _,xs.map (·.1),by simp,hS.2.2.1,.inl ⟨by rw [HMX.out];simpa using HLE.out,by simpa using hS.2.2.2⟩,((hS.1.lpk hl).lpk hlp).mono fun i hi=>hi.elim (fun h=>.inl h.1) fun h=>.inr (by omega),hlp.old hf hN⟩
 ·rintro c xs O W W' hS hl ⟨rfl,⟨h9,h7,hO,hf⟩,hle⟩ hD;have c9:=(z01 h9 0).trans rfl;have HLE:=Aside0.mk hle;clear hle
  gi_wp2
  refine ⟨by simp,.inl ⟨_,_,rfl,run_takeDeferred hD,?_⟩⟩;have hlp:LpK w3.heap.size W' (W'.putObj w3.heap.size (.deferred none)):=LpK.putD (Nat.le_refl _) hD _;refine ⟨_,results_tmp rfl _ _ _,xs.map (·.1),by simp,hS.2.2,.inr (by rw [HMX.out];simpa using HLE.out),((hS.1.lpk hl).lpk hlp).mono fun i hi=>hi.elim (fun h=>.inl h.1) fun h=>.inr (by omega),hlp.old hf hN⟩
end Go.Proofs.YtcbnhfnnjkkceaaGreat.X
end
section
namespace Go.Proofs.YtcbnhfnnjkkceaaGreat.X
open Go.RowKit Go.Proofs.YtcbnhfnnjkkceaaGreatW.PrintWords Go.Proofs.YtcbnhfnnjkkceaaGreat.Gr
structure Fst where
 wait:List Int
 high:Int
 pops:Int
 o:List Int
def aheadU (p:Im) (n:Nd) (r:List Nd) (ws:List Int) (a:Int):Option Wy :=
 let mk:=fun (more:Int) (vs:List Int)=>(⟨⟨a,n.opn+more,min n.low (n.opn+more),max n.high (n.opn+more)⟩ :: n :: r,vs⟩:Wy)
 if opA p a=23 then
  (match ws with
   | []=>some (mk (-1) [])
   | x :: vs=>if x=a+1 then some (mk (-1) vs) else none)
 else if opA p a=24 then some (mk 1 (n.at_ :: ws))
 else some (mk 0 ws)
def bwW (p:Im):List Int→Option Wy
 | []=>none
 | [t]=>some ⟨[⟨t,0,0,0⟩],[]⟩
 | a :: b :: m=>(bwW p (b :: m)).bind fun y=>match y.ns with
  | []=>none
  | n :: r=>if b ∈ nextL p a then aheadU p n r y.ws a else none
def rangeW (y:Wy):Int:=match y.ns with
 | []=>0
 | n :: _=>n.high - n.low
theorem ahead_u (p:Im) (n:Nd) (r:List Nd) (ws:List Int) (a:Int) :
  z1p p n r ws a=match aheadU p n r ws a with
   | none=>(⟨[],[]⟩,false)
   | some y=>(y,decide (rangeW y≤p.f1)):=by
 unfold z1p aheadU;simp only
 split
 ·cases ws with
  | nil=>rfl
  | cons x vs =>
   simp only
   by_cases hx:x=a+1
   ·rw [if_pos hx,if_pos hx];rfl
   ·rw [if_neg hx,if_neg hx]
 ·split
  ·rfl
  ·rfl
structure BwOk (l:List Int) (y:Wy):Prop where
 path:y.path=l
 ex:∃ n r,y.ns=n :: r∧n.low≤n.opn∧n.opn≤n.high∧(y.ws.length:Int)=n.opn - n.low
theorem bw_ok {p:Im}:∀ {l:List Int} {y:Wy},bwW p l=some y→BwOk l y
 | [],_,h=>by cases h
 | [t],_,h=>by
  cases h;exact ⟨rfl,_,_,rfl,by simp,by simp,by simp⟩
 | a :: b :: m,z,h=>by
  unfold bwW at h;cases hy:bwW p (b :: m) with
  | none=>rw [hy] at h;cases h
  | some y =>
   rw [hy] at h;obtain ⟨hp,n,r,e,h1,h2,h3⟩:=bw_ok hy;simp only [Option.bind_some,e] at h
   split at h
   ·unfold aheadU at h;simp only at h;have hpath:(n :: r).map (·.at_)=b :: m:=(by rw [← e];exact hp)
    split at h
    ·cases hw:y.ws with
     | nil =>
      rw [hw] at h h3;obtain rfl:=Option.some.inj h;refine ⟨by rw [← hpath];rfl,_,_,rfl,?_,?_,?_⟩ <;> (simp at h3 ⊢;omega)
     | cons x vs =>
      rw [hw] at h h3;simp only at h
      split at h
      ·obtain rfl:=Option.some.inj h;refine ⟨by rw [← hpath];rfl,_,_,rfl,?_,?_,?_⟩ <;> (simp at h3 ⊢;omega)
      ·cases h
    ·split at h
     ·obtain rfl:=Option.some.inj h;refine ⟨by rw [← hpath];rfl,_,_,rfl,?_,?_,?_⟩ <;> (simp at h3 ⊢;omega)
     ·obtain rfl:=Option.some.inj h;refine ⟨by rw [← hpath];rfl,_,_,rfl,?_,?_,?_⟩ <;> (simp at h3 ⊢;omega)
   ·cases h
def wayB (p:Im) (t:Int) (l:List Int):Bool:=l.getLast? == some t && !l.dropLast.contains t && (match bwW p l with|none=>false|some y=>decide (rangeW y≤p.f1))
theorem tgt_last:∀ (n:Nd) (r:List Nd),((n :: r).map (·.at_)).getLast?=some (tgtN (n :: r))
 | n,[]=>rfl
 | n,m :: r=>by
  have:=tgt_last m r;simp only [List.map_cons,List.getLast?_cons_cons] at this ⊢;exact this
theorem bw_cons {p:Im} {a b:Int} {m:List Int} {y:Wy} {n:Nd} {r:List Nd} (hy:bwW p (b :: m)=some y) (e:y.ns=n :: r):bwW p (a :: b :: m)=if b ∈ nextL p a then aheadU p n r y.ws a else none:=by
 show ((bwW p (b :: m)).bind fun y=>_)=_;rw [hy];simp only [Option.bind_some,e]
theorem step_way {p:Im} {t a b:Int} {m:List Int} {y:Wy} {n:Nd} {r:List Nd} (hy:bwW p (b :: m)=some y) (e:y.ns=n :: r) (hw:wayB p t (b :: m)=true) (hn:b ∈ nextL p a) :
  stepB p n r y.ws a=if wayB p t (a :: b :: m) then bwW p (a :: b :: m) else none:=by
 obtain ⟨hp,_⟩:=bw_ok hy;have hpath:(n :: r).map (·.at_)=b :: m:=by rw [← e];exact hp
 have hl:=tgt_last n r; rw [hpath] at hl; unfold wayB at hw ⊢; rw [hl] at hw; simp only [Bool.and_eq_true,beq_iff_eq,Option.some.injEq,Bool.not_eq_true'] at hw; obtain ⟨⟨ht,hd⟩,_⟩:=hw; have hd2:(a :: b :: m).dropLast.contains t=(t == a || (b :: m).dropLast.contains t):=by
  rw [List.dropLast_cons_of_ne_nil (by simp),List.contains_cons]
 rw [List.getLast?_cons_cons,hl,hd2,hd,ht];have hb:=bw_cons (a:=a) hy e;rw [if_pos hn] at hb;unfold stepB;rw [ht]
 by_cases ha:a=t
 ·rw [if_pos ha];simp [ha]
 ·rw [if_neg ha,ahead_u,hb];have:(t == a)=false:=by simp;exact fun h=>ha h.symm
  rw [this];cases hz:aheadU p n r y.ws a with
  | none=>simp
  | some z=>simp
theorem fmap_congr {α β:Type} {f g:α→Option β}:∀ {l:List α},(∀ a ∈ l,f a=g a)→l.filterMap f=l.filterMap g
 | [],_=>rfl
 | a :: l,h=>by rw [List.filterMap_cons,List.filterMap_cons,h a (by simp),fmap_congr fun b hb=>h b (by simp [hb])]
def backsR (p:Im) (t:Int) (l:List Int):List (List Int):=((prevL p (l.head?.getD 0)).filter fun a=>wayB p t (a :: l)).map (· :: l)
theorem backs_rows {p:Im} {t:Int} {y:Wy} (hy:bwW p y.path=some y) (hw:wayB p t y.path=true) :
  (z2c p y).map Wy.path=backsR p t y.path∧∀ z ∈ z2c p y,bwW p z.path=some z∧wayB p t z.path=true:=by
 obtain ⟨_,n,r,e,_⟩:=bw_ok hy;have hpath:y.path=n.at_ :: r.map (·.at_):=by unfold Wy.path;rw [e];rfl
 rw [hpath] at hy hw ⊢;have key:∀ a ∈ prevL p n.at_,stepB p n r y.ws a=if wayB p t (a :: n.at_ :: r.map (·.at_)) then bwW p (a :: n.at_ :: r.map (·.at_)) else none:=fun a ha=>step_way hy e hw (mem_prev.1 ha).2
 have eb:z2c p y=(prevL p n.at_).filterMap fun a=>if wayB p t (a :: n.at_ :: r.map (·.at_)) then bwW p (a :: n.at_ :: r.map (·.at_)) else none:=by
  unfold z2c;rw [e];exact fmap_congr key
 have hex:∀ l,wayB p t l=true→∃ z,bwW p l=some z:=fun l h=>by
  unfold wayB at h;cases hz:bwW p l with
  | none=>rw [hz] at h;simp at h
  | some z=>exact ⟨z,rfl⟩
 rw [eb];unfold backsR;constructor
 ·simp only [List.head?_cons,Option.getD_some];generalize prevL p n.at_=l
  induction l with
  | nil=>rfl
  | cons a l ih =>
   cases hc:wayB p t (a :: n.at_ :: r.map (·.at_)) with
   | false=>rw [List.filterMap_cons,List.filter_cons];simp only [hc];exact ih
   | true =>
    obtain ⟨z,hz⟩:=hex _ hc;rw [List.filterMap_cons,List.filter_cons];simp only [hc,hz,if_true,List.map_cons];rw [ih,(bw_ok hz).path]
 ·intro z hz;obtain ⟨a,ha,hs⟩:=List.mem_filterMap.1 hz
  split at hs
  ·rename_i hc
   rw [(bw_ok hs).path];exact ⟨hs,hc⟩
  ·cases hs
theorem way0_bw {p:Im} {t:Int} (h1:0≤p.f1):bwW p (way0 t).path=some (way0 t)∧wayB p t (way0 t).path=true:=by
 refine ⟨rfl,?_⟩;unfold wayB;show (([t].getLast? == some t) && !([t].dropLast.contains t) && decide (rangeW (way0 t)≤p.f1))=true;have h2:rangeW (way0 t)≤p.f1:=h1;simp [h2]
theorem que_way {p:Im} {t steps:Int} (h1:0≤p.f1) (k:Nat):∀ y ∈ queW p t steps k,bwW p y.path=some y∧wayB p t y.path=true:=by
 induction k with
 | zero =>
  intro y hy;unfold queW at hy
  split at hy
  ·obtain rfl:=List.mem_singleton.1 hy;exact way0_bw h1
  ·cases hy
 | succ k ih =>
  intro y hy;unfold queW at hy
  rcases List.mem_append.1 hy with h|h
  ·exact ih y h
  ·split at h
   ·cases h
   ·rename_i z hz
    have hm:=List.mem_of_getElem? hz
    split at h
    ·cases h
    ·exact (backs_rows (ih z hm).1 (ih z hm).2).2 y h
def queR (p:Im) (t steps:Int):Nat→List (List Int)
 | 0=>if (0≤t∧t < p.f5.length)∧0≤steps then [[t]] else []
 | k+1=>queR p t steps k ++ (match (queR p t steps k)[k]? with
  | none=>[]
  | some l=>if (l.length:Int) > steps then [] else backsR p t l)
theorem que_rows {p:Im} {t steps:Int} (h1:0≤p.f1) (k:Nat):(queW p t steps k).map Wy.path=queR p t steps k:=by
 induction k with
 | zero=>unfold queW queR;split <;> rfl
 | succ k ih =>
  unfold queW queR;rw [List.map_append,ih,← ih,List.getElem?_map]
  congr 1
  cases hz:(queW p t steps k)[k]? with
  | none=>rfl
  | some y =>
   have hm:=List.mem_of_getElem? hz;obtain ⟨h2,h3⟩:=que_way h1 k y hm;simp only [Option.map_some];have hl:y.path.length=y.ns.length:=by unfold Wy.path;simp
   rw [hl]
   split
   ·rfl
   ·exact (backs_rows h2 h3).1
section
variable {p:Im} {t steps:Int}
theorem backsR_len {l m:List Int} (h:m ∈ backsR p t l):m.length=l.length+1:=by
 unfold backsR at h;obtain ⟨a,_,rfl⟩:=List.mem_map.1 h;rfl
theorem z2x {k:Nat}:queR p t steps (k+1)=queR p t steps k ++ (match (queR p t steps k)[k]? with
  | none=>[]
  | some l=>if (l.length:Int) > steps then [] else backsR p t l):=rfl
theorem queR_up (k:Nat):(∀ (i j:Nat) (li lj:List Int),i≤j→(queR p t steps k)[i]?=some li→(queR p t steps k)[j]?=some lj→li.length≤lj.length) ∧
  (∀ (i j:Nat) (li lj:List Int),k≤i→(queR p t steps k)[i]?=some li→(queR p t steps k)[j]?=some lj→lj.length≤li.length+1):=by
 induction k with
 | zero =>
  have h0:∀ (i:Nat) (li:List Int),(queR p t steps 0)[i]?=some li→li.length=1:=fun i li h=>by
   have hm:=List.mem_of_getElem? h;unfold queR at hm
   split at hm
   ·rw [List.mem_singleton.1 hm];rfl
   ·cases hm
  exact ⟨fun i j li lj _ h1 h2=>by rw [h0 i li h1,h0 j lj h2];exact Nat.le_refl _,fun i j li lj _ h1 h2=>by rw [h0 i li h1,h0 j lj h2];exact Nat.le_succ _⟩
 | succ k ih =>
  obtain ⟨up,one⟩:=ih;rw [z2x];cases hl:(queR p t steps k)[k]? with
  | none =>
   simp only [List.append_nil];exact ⟨up,fun i j li lj hi=>one i j li lj (by omega)⟩
  | some l =>
   simp only;obtain ⟨N,hN⟩:∃ N,(if (l.length:Int) > steps then [] else backsR p t l)=N:=⟨_,rfl⟩;have hnew:∀ m ∈ N,m.length=l.length+1:=fun m hm=>by
    rw [← hN] at hm
    split at hm
    ·cases hm
    ·exact backsR_len hm
   rw [hN];have cases_:∀ (i:Nat) (li:List Int),(queR p t steps k ++ N)[i]?=some li→(i < (queR p t steps k).length∧(queR p t steps k)[i]?=some li)∨((queR p t steps k).length≤i∧li.length=l.length+1):=fun i li h=>by
    rcases Nat.lt_or_ge i (queR p t steps k).length with hi|hi
    ·exact .inl ⟨hi,by rwa [List.getElem?_append_left hi] at h⟩
    ·rw [List.getElem?_append_right hi] at h;exact .inr ⟨hi,hnew _ (List.mem_of_getElem? h)⟩
   have hk:=(List.getElem?_eq_some_iff.1 hl).1;constructor
   ·intro i j li lj hij h1 h2
    rcases cases_ i li h1 with ⟨_,a⟩|⟨hi,a⟩ <;> rcases cases_ j lj h2 with ⟨hj,b⟩|⟨_,b⟩
    ·exact up i j li lj hij a b
    ·have:=one k i l li (Nat.le_refl _) hl a;omega
    ·omega
    ·omega
   ·intro i j li lj hi h1 h2;have h3:lj.length≤l.length+1:=by
     rcases cases_ j lj h2 with ⟨_,b⟩|⟨_,b⟩
     ·exact one k j l lj (Nat.le_refl _) hl b
     ·omega
    have h4:l.length≤li.length:=by
     rcases cases_ i li h1 with ⟨_,a⟩|⟨_,a⟩
     ·exact up k i l li (by omega) hl a
     ·omega
    omega
theorem queR_more (hs:0≤steps) (k:Nat):queR p t steps k <+: queR p t (steps+1) k:=by
 have key:queR p t steps k=queR p t (steps+1) k∨(queR p t steps k <+: queR p t (steps+1) k∧∀ i l,k≤i→(queR p t steps k)[i]?=some l→(l.length:Int) > steps):=by
  induction k with
  | zero =>
   left
   unfold queR;have:((0≤t∧t < p.f5.length)∧0≤steps)↔((0≤t∧t < p.f5.length)∧0≤steps+1):=⟨fun h=>⟨h.1,by omega⟩,fun h=>⟨h.1,hs⟩⟩
   by_cases h:(0≤t∧t < p.f5.length)∧0≤steps
   ·rw [if_pos h,if_pos (this.1 h)]
   ·rw [if_neg h,if_neg fun q=>h (this.2 q)]
  | succ k ih =>
   rcases ih with h|⟨h,hb⟩
   ·rw [z2x,z2x,← h];cases hl:(queR p t steps k)[k]? with
    | none=>exact .inl rfl
    | some l =>
     simp only
     by_cases h1:(l.length:Int) > steps
     ·rw [if_pos h1];refine .inr ⟨⟨if (l.length:Int) > steps+1 then [] else backsR p t l,by rw [List.append_nil]⟩,fun i m hi hm=>?_⟩;rw [List.append_nil] at hm;have:=(queR_up (p:=p) (t:=t) (steps:=steps) k).1 k i l m (by omega) hl hm;omega
     ·rw [if_neg h1,if_neg (by omega)];exact .inl rfl
   ·have h0:queR p t steps (k+1)=queR p t steps k:=by
     rw [z2x];cases hl:(queR p t steps k)[k]? with
     | none=>simp
     | some l=>simp only;rw [if_pos (hb k l (Nat.le_refl _) hl),List.append_nil]
    rw [h0];exact .inr ⟨h.trans ⟨_,z2x.symm⟩,fun i l hi=>hb i l (by omega)⟩
 rcases key with h|h
 ·rw [h];exact List.prefix_refl _
 ·exact h.1
theorem queR_len (hs:0≤steps) (k:Nat):∀ l ∈ queR p t steps k,l≠[]∧(l.length:Int)≤steps+1:=by
 induction k with
 | zero =>
  intro l hl;unfold queR at hl
  split at hl
  ·rw [List.mem_singleton.1 hl];exact ⟨by simp,by simp;omega⟩
  ·cases hl
 | succ k ih =>
  intro l hl;rw [z2x] at hl
  rcases List.mem_append.1 hl with h|h
  ·exact ih l h
  ·cases hm:(queR p t steps k)[k]? with
   | none=>rw [hm] at h;cases h
   | some m =>
    rw [hm] at h;simp only at h
    split at h
    ·cases h
    ·have:=backsR_len h;refine ⟨fun e=>by rw [e] at this;simp at this,by omega⟩
theorem queR_tail (k:Nat):∀ l ∈ queR p t steps k,l=[t]∨∃ a m,l=a :: m∧m ∈ queR p t steps k∧a ∈ prevL p (m.head?.getD 0)∧wayB p t l=true:=by
 induction k with
 | zero =>
  intro l hl;unfold queR at hl
  split at hl
  ·exact .inl (List.mem_singleton.1 hl)
  ·cases hl
 | succ k ih =>
  intro l hl;rw [z2x] at hl ⊢
  rcases List.mem_append.1 hl with h|h
  ·rcases ih l h with h|⟨a,m,h1,h2,h3⟩
   ·exact .inl h
   ·exact .inr ⟨a,m,h1,List.mem_append_left _ h2,h3⟩
  ·cases hm:(queR p t steps k)[k]? with
   | none=>rw [hm] at h;cases h
   | some m =>
    rw [hm] at h;simp only at h
    split at h
    ·cases h
    ·unfold backsR at h;obtain ⟨a,ha,rfl⟩:=List.mem_map.1 h;obtain ⟨h1,h2⟩:=List.mem_filter.1 ha;exact .inr ⟨a,m,rfl,List.mem_append_left _ (List.mem_of_getElem? hm),h1,h2⟩
end
def lexB:List Int→List Int→Bool
 | a :: l,b :: m=>if a=b then lexB l m else decide (a < b)
 | _,_=>false
def befB (a b:List Int):Bool:=if a.length=b.length then lexB a b else decide (a.length < b.length)
theorem lex_irr:∀ a,lexB a a=false
 | []=>rfl
 | a :: l=>by unfold lexB;rw [if_pos rfl];exact lex_irr l
theorem lex_tr:∀ {a b c},lexB a b=true→lexB b c=true→lexB a c=true
 | a :: l,b :: m,c :: n,h,k=>by
  unfold lexB at h k ⊢
  by_cases e:a=b
  ·subst e;rw [if_pos rfl] at h
   by_cases e2:a=c
   ·subst e2;rw [if_pos rfl] at k ⊢;exact lex_tr h k
   ·rw [if_neg e2] at k ⊢;exact k
  ·rw [if_neg e] at h
   by_cases e2:b=c
   ·subst e2;rw [if_pos rfl] at k;rw [if_neg e];exact h
   ·rw [if_neg e2] at k;have h1:=of_decide_eq_true h;have h2:=of_decide_eq_true k;rw [if_neg (by omega)];exact decide_eq_true (by omega)
theorem lex_eq:∀ {a b},a.length=b.length→lexB a b=false→lexB b a=false→a=b
 | [],[],_,_,_=>rfl
 | a :: l,b :: m,hl,h,k=>by
  unfold lexB at h k
  by_cases e:a=b
  ·subst e;rw [if_pos rfl] at h k;rw [lex_eq (by simpa using hl) h k]
  ·rw [if_neg e] at h;rw [if_neg fun q=>e q.symm] at k;have h1:=of_decide_eq_false h;have h2:=of_decide_eq_false k;omega
theorem bef_irr (a:List Int):befB a a=false:=by unfold befB;rw [if_pos rfl];exact lex_irr a
theorem bef_tr {a b c:List Int} (h:befB a b=true) (k:befB b c=true):befB a c=true:=by
 unfold befB at *
 by_cases e:a.length=b.length
 ·rw [if_pos e] at h
  by_cases e2:b.length=c.length
  ·rw [if_pos e2] at k;rw [if_pos (e.trans e2)];exact lex_tr h k
  ·rw [if_neg e2] at k;rw [if_neg (by omega)];rw [e];exact k
 ·rw [if_neg e] at h;have h1:=of_decide_eq_true h
  by_cases e2:b.length=c.length
  ·rw [if_neg (by omega)];exact decide_eq_true (by omega)
  ·rw [if_neg e2] at k;have h2:=of_decide_eq_true k;rw [if_neg (by omega)];exact decide_eq_true (by omega)
theorem bef_eq {a b:List Int} (h:befB a b=false) (k:befB b a=false):a=b:=by
 unfold befB at *
 by_cases e:a.length=b.length
 ·rw [if_pos e] at h;rw [if_pos e.symm] at k;exact lex_eq e h k
 ·rw [if_neg e] at h;rw [if_neg (by omega)] at k;have h1:=of_decide_eq_false h;have h2:=of_decide_eq_false k;omega
theorem bef_ntr {a b c:List Int} (h:befB a b=false) (k:befB b c=false):befB a c=false:=by
 cases hac:befB a c with
 | false=>rfl
 | true =>
  exfalso
  cases hba:befB b a with
  | true=>have:=bef_tr hba hac;rw [k] at this;cases this
  | false=>have:=bef_eq h hba;subst this;rw [k] at hac;cases hac
def UpR (l:List (List Int)):Prop:=l.Pairwise fun a b=>befB b a=false
theorem up_uniq:∀ {l m:List (List Int)},l.Perm m→UpR l→UpR m→l=m
 | [],m,h,_,_=>by rw [h.nil_eq]
 | a :: l,m,h,hl,hm=>by
  cases m with
  | nil=>exact absurd h.symm.nil_eq (by simp)
  | cons b m =>
   have h1:=List.pairwise_cons.1 hl;have h2:=List.pairwise_cons.1 hm;have e:a=b:=by
    rcases List.mem_cons.1 (h.mem_iff.1 (List.mem_cons_self (a:=a) (l:=l))) with e|e
    ·exact e
    ·rcases List.mem_cons.1 (h.mem_iff.2 (List.mem_cons_self (a:=b) (l:=m))) with e2|e2
     ·exact e2.symm
     ·exact bef_eq (h2.1 a e) (h1.1 b e2)
   subst e;rw [up_uniq (List.Perm.cons_inv h) h1.2 h2.2]
end Go.Proofs.YtcbnhfnnjkkceaaGreat.X
end
section
namespace Go.Proofs
open Go.Shelf
def Tryz.laysSlF6_f70_ren:Go.Shelf.Ren:=⟨fun|6=>70|15=>94|14=>93|28=>137|29=>138|20=>129|21=>130|22=>131|23=>132|24=>133|25=>134|26=>135|27=>136|46=>155|47=>156|48=>157|49=>158|50=>159|57=>175|n=>n,fun|22=>52|24=>23|25=>116|3=>3|39=>125|0=>0|53=>86|55=>43|4=>4|46=>156|45=>155|50=>160|5=>5|9=>9|66=>181|70=>185|76=>199|77=>147|n=>n,fun|n=>n⟩
theorem Tryz.laysSlF6_f70:Go.Proofs.SlLaysF.n6 Tryz.prog Tryz.laysSlF6_f70_ren:={
 mixed:=by kernel_rfl
 f6:=⟨Tryz.f70.name,by decide,Tryz.func70.trans (congrArg some (by kernel_rfl))⟩
 f14:=⟨Tryz.f93.name,by decide,Tryz.func93.trans (congrArg some (by kernel_rfl))⟩
 f15:=Tryz.func94.trans (congrArg some (by kernel_rfl))
 f20:=⟨Tryz.f129.name,by decide,Tryz.func129.trans (congrArg some (by kernel_rfl))⟩
 f21:=⟨Tryz.f130.name,by decide,Tryz.func130.trans (congrArg some (by kernel_rfl))⟩
 f22:=⟨Tryz.f131.name,by decide,Tryz.func131.trans (congrArg some (by kernel_rfl))⟩
 f23:=⟨Tryz.f132.name,by decide,Tryz.func132.trans (congrArg some (by kernel_rfl))⟩
 f24:=⟨Tryz.f133.name,by decide,Tryz.func133.trans (congrArg some (by kernel_rfl))⟩
 f25:=⟨Tryz.f134.name,by decide,Tryz.func134.trans (congrArg some (by kernel_rfl))⟩
 f26:=⟨Tryz.f135.name,by decide,Tryz.func135.trans (congrArg some (by kernel_rfl))⟩
 f27:=⟨Tryz.f136.name,by decide,Tryz.func136.trans (congrArg some (by kernel_rfl))⟩
 f28:=Tryz.func137.trans (congrArg some (by kernel_rfl))
 f29:=Tryz.func138.trans (congrArg some (by kernel_rfl))
 f46:=⟨Tryz.f155.name,by decide,Tryz.func155.trans (congrArg some (by kernel_rfl))⟩
 f47:=Tryz.func156.trans (congrArg some (by kernel_rfl))
 f48:=Tryz.func157.trans (congrArg some (by kernel_rfl))
 f49:=⟨Tryz.f158.name,by decide,Tryz.func158.trans (congrArg some (by kernel_rfl))⟩
 f50:=⟨Tryz.f159.name,by decide,Tryz.func159.trans (congrArg some (by kernel_rfl))⟩
 f57:=⟨Tryz.f175.name,by decide,Tryz.func175.trans (congrArg some (by kernel_rfl))⟩
 t0:=Tryz.underlying0
 a0:=Tryz.isAgg0
 z0:=Tryz.sizeOf0
 v0:=Tryz.zeroValue0
 t3:=Tryz.underlying3
 a3:=Tryz.isAgg3
 z3:=Tryz.sizeOf3
 v3:=Tryz.zeroValue3
 t4:=Tryz.underlying4
 a4:=Tryz.isAgg4
 z4:=Tryz.sizeOf4
 v4:=Tryz.zeroValue4
 t5:=Tryz.underlying5
 a5:=Tryz.isAgg5
 z5:=Tryz.sizeOf5
 v5:=Tryz.zeroValue5
 t9:=Tryz.underlying9
 a9:=Tryz.isAgg9
 z9:=Tryz.sizeOf9
 v9:=Tryz.zeroValue9
 t22:=Tryz.underlying52
 a22:=Tryz.isAgg52
 z22:=Tryz.sizeOf52
 v22:=Tryz.zeroValue52
 a24:=Tryz.isAgg23
 z24:=Tryz.sizeOf23
 t25:=Tryz.underlying116
 a25:=Tryz.isAgg116
 z25:=Tryz.sizeOf116
 v25:=Tryz.zeroValue116
 t39:=Tryz.underlying125
 a39:=Tryz.isAgg125
 z39:=Tryz.sizeOf125
 v39:=Tryz.zeroValue125
 t45:=Tryz.underlying155
 a45:=Tryz.isAgg155
 z45:=Tryz.sizeOf155
 v45:=Tryz.zeroValue155
 t46:=Tryz.underlying156
 a46:=Tryz.isAgg156
 z46:=Tryz.sizeOf156
 v46:=Tryz.zeroValue156
 t50:=Tryz.underlying160
 a50:=Tryz.isAgg160
 z50:=Tryz.sizeOf160
 v50:=Tryz.zeroValue160
 t53:=Tryz.underlying86
 a53:=Tryz.isAgg86
 z53:=Tryz.sizeOf86
 v53:=Tryz.zeroValue86
 t55:=Tryz.underlying43
 a55:=Tryz.isAgg43
 z55:=Tryz.sizeOf43
 v55:=Tryz.zeroValue43
 t66:=Tryz.underlying181
 a66:=Tryz.isAgg181
 z66:=Tryz.sizeOf181
 v66:=Tryz.zeroValue181
 t70:=Tryz.underlying185
 a70:=Tryz.isAgg185
 z70:=Tryz.sizeOf185
 v70:=Tryz.zeroValue185
 t76:=Tryz.underlying199
 a76:=Tryz.isAgg199
 z76:=Tryz.sizeOf199
 v76:=Tryz.zeroValue199
 t77:=Tryz.underlying147
 a77:=Tryz.isAgg147
 z77:=Tryz.sizeOf147
 v77:=Tryz.zeroValue147 }
open Go.RowKit Go.Lib Go.Sort in
theorem Tryz.slices_SortFunc {α:Type} [Inhabited α] (enc:α→Value) (h1:OneCell enc) (cf:α→α→Int) (hO:SWO (ltOf cf)) (g:Nat) (cb:Array Value) (blk off cap:Nat) (d:Array α) (w:World) (eg:∀ args w,(callFunc g args).run Tryz.prog w=.ok (.enter g args) w) (hcmp:CmpLays1 Tryz.prog g cb enc cf blk off d.size w) (hH:Holds enc w blk off d) (hblk:blk < w.heap.size) (hsz:d.size < 4611686018427387904) :
  Calls Tryz.prog 70 #[.slice (some ⟨blk,off,none⟩) d.size cap,.func (.func g) #[] cb] w fun e w' =>
   e=.returned (.tuple #[])∧∃ d' n os,PermIn 0 d.size d d'∧SortedIn (ltOf cf) 0 d.size d'∧w'=sortWorld enc w blk off n d' os:=Any.slices_SortFunc Tryz.laysSlF6_f70 enc h1 cf hO g cb blk off cap d w eg hcmp hH hblk hsz
def Tryz.laysSlF06_f70_ren:Go.Shelf.Ren:=⟨fun|6=>70|15=>94|14=>93|28=>137|29=>138|20=>129|21=>130|22=>131|23=>132|24=>133|25=>134|26=>135|27=>136|46=>155|47=>156|48=>157|49=>158|50=>159|57=>175|n=>n,fun|22=>52|24=>23|25=>116|3=>3|39=>125|0=>0|53=>86|55=>43|4=>4|46=>156|45=>155|50=>160|5=>5|9=>9|66=>181|70=>185|76=>199|77=>147|n=>n,fun|n=>n⟩
theorem Tryz.laysSlF06_f70:Go.Proofs.SlLaysF0.n6 Tryz.prog Tryz.laysSlF06_f70_ren:={
 mixed:=by kernel_rfl
 f6:=⟨Tryz.f70.name,by decide,Tryz.func70.trans (congrArg some (by kernel_rfl))⟩
 f14:=⟨Tryz.f93.name,by decide,Tryz.func93.trans (congrArg some (by kernel_rfl))⟩
 f15:=Tryz.func94.trans (congrArg some (by kernel_rfl))
 f20:=⟨Tryz.f129.name,by decide,Tryz.func129.trans (congrArg some (by kernel_rfl))⟩
 f21:=⟨Tryz.f130.name,by decide,Tryz.func130.trans (congrArg some (by kernel_rfl))⟩
 f22:=⟨Tryz.f131.name,by decide,Tryz.func131.trans (congrArg some (by kernel_rfl))⟩
 f23:=⟨Tryz.f132.name,by decide,Tryz.func132.trans (congrArg some (by kernel_rfl))⟩
 f24:=⟨Tryz.f133.name,by decide,Tryz.func133.trans (congrArg some (by kernel_rfl))⟩
 f25:=⟨Tryz.f134.name,by decide,Tryz.func134.trans (congrArg some (by kernel_rfl))⟩
 f26:=⟨Tryz.f135.name,by decide,Tryz.func135.trans (congrArg some (by kernel_rfl))⟩
 f27:=⟨Tryz.f136.name,by decide,Tryz.func136.trans (congrArg some (by kernel_rfl))⟩
 f28:=Tryz.func137.trans (congrArg some (by kernel_rfl))
 f29:=Tryz.func138.trans (congrArg some (by kernel_rfl))
 f46:=⟨Tryz.f155.name,by decide,Tryz.func155.trans (congrArg some (by kernel_rfl))⟩
 f47:=Tryz.func156.trans (congrArg some (by kernel_rfl))
 f48:=Tryz.func157.trans (congrArg some (by kernel_rfl))
 f49:=⟨Tryz.f158.name,by decide,Tryz.func158.trans (congrArg some (by kernel_rfl))⟩
 f50:=⟨Tryz.f159.name,by decide,Tryz.func159.trans (congrArg some (by kernel_rfl))⟩
 f57:=⟨Tryz.f175.name,by decide,Tryz.func175.trans (congrArg some (by kernel_rfl))⟩
 t0:=Tryz.underlying0
 a0:=Tryz.isAgg0
 z0:=Tryz.sizeOf0
 v0:=Tryz.zeroValue0
 t3:=Tryz.underlying3
 a3:=Tryz.isAgg3
 z3:=Tryz.sizeOf3
 v3:=Tryz.zeroValue3
 t4:=Tryz.underlying4
 a4:=Tryz.isAgg4
 z4:=Tryz.sizeOf4
 v4:=Tryz.zeroValue4
 t5:=Tryz.underlying5
 a5:=Tryz.isAgg5
 z5:=Tryz.sizeOf5
 v5:=Tryz.zeroValue5
 t9:=Tryz.underlying9
 a9:=Tryz.isAgg9
 z9:=Tryz.sizeOf9
 v9:=Tryz.zeroValue9
 t22:=Tryz.underlying52
 a22:=Tryz.isAgg52
 z22:=Tryz.sizeOf52
 v22:=Tryz.zeroValue52
 t25:=Tryz.underlying116
 a25:=Tryz.isAgg116
 z25:=Tryz.sizeOf116
 v25:=Tryz.zeroValue116
 t39:=Tryz.underlying125
 a39:=Tryz.isAgg125
 z39:=Tryz.sizeOf125
 v39:=Tryz.zeroValue125
 t45:=Tryz.underlying155
 a45:=Tryz.isAgg155
 z45:=Tryz.sizeOf155
 v45:=Tryz.zeroValue155
 t46:=Tryz.underlying156
 a46:=Tryz.isAgg156
 z46:=Tryz.sizeOf156
 v46:=Tryz.zeroValue156
 t50:=Tryz.underlying160
 a50:=Tryz.isAgg160
 z50:=Tryz.sizeOf160
 v50:=Tryz.zeroValue160
 t53:=Tryz.underlying86
 a53:=Tryz.isAgg86
 z53:=Tryz.sizeOf86
 v53:=Tryz.zeroValue86
 t55:=Tryz.underlying43
 a55:=Tryz.isAgg43
 z55:=Tryz.sizeOf43
 v55:=Tryz.zeroValue43
 t66:=Tryz.underlying181
 a66:=Tryz.isAgg181
 z66:=Tryz.sizeOf181
 v66:=Tryz.zeroValue181
 t70:=Tryz.underlying185
 a70:=Tryz.isAgg185
 z70:=Tryz.sizeOf185
 v70:=Tryz.zeroValue185
 t76:=Tryz.underlying199
 a76:=Tryz.isAgg199
 z76:=Tryz.sizeOf199
 v76:=Tryz.zeroValue199
 t77:=Tryz.underlying147
 a77:=Tryz.isAgg147
 z77:=Tryz.sizeOf147
 v77:=Tryz.zeroValue147 }
open Go.RowKit Go.Lib Go.Sort in
theorem Tryz.slices_SortFunc_none {α:Type} [Inhabited α] (p:Option Addr) (cap:Nat) (fv:Value) (w:World) :
  Calls Tryz.prog 70 #[.slice p 0 cap,fv] w fun e w'=>e=.returned (.tuple #[])∧w'=w:=AnyF.slices_SortFunc_none Tryz.laysSlF06_f70 p cap fv w
end Go.Proofs
end
section
namespace Go.Proofs.YtcbnhfnnjkkceaaGreat.X
open Go.RowKit Go.Proofs.YtcbnhfnnjkkceaaGreatW.PrintWords Go.Proofs.YtcbnhfnnjkkceaaGreatW.PrintLast Go.Proofs.YtcbnhfnnjkkceaaGreatW.PrintMore Go.Proofs.YtcbnhfnnjkkceaaGreat.Gr
theorem Que.c {w:World} {ok:Nat→Prop} {A:Option Addr} {n cap:Nat} {l:List Int} (h:Que w ok (.slice A n cap) l):Kd.C (Kd.int .i64) w A l.length l:=by
 obtain ⟨ao,c,e,hle,hmax,hl⟩:=h;cases e;refine ⟨rfl,Nat.le_trans hle (Nat.le_trans hmax (by decide)),fun h0=>?_⟩;obtain ⟨b,off,rfl,_,_,h1,_⟩:=hl (by omega);refine ⟨_,rfl,fun j p hj=>⟨[.int .i64 p],rfl,rfl,fun i u hu=>?_⟩⟩;have hjl:=(List.getElem?_eq_some_iff.1 hj).1;have hjp:l[j]=p:=by
  have:=List.getElem?_eq_getElem hjl;rw [hj] at this;exact (Option.some.inj this).symm
 rcases i with _|i
 ·cases hu;have ea:∀ k,(⟨b,off,none⟩:Addr).add k=⟨b,off+k,none⟩:=fun k=>by
   unfold Addr.add;first|(split <;> simp_all)|simp
  have h2:=h1 j hjl;rw [hjp] at h2;show w.cell? ((⟨b,off,none⟩:Addr).add (j * 1+0))=_;rw [ea,Nat.mul_one,Nat.add_zero];exact h2
 ·simp at hu
theorem nan_calls (x:Int) (w:World):Calls Tryz.prog 139 #[.int .i64 x] w fun e w'=>e=.returned (.bool false)∧w'=w:=by
 go_enter Tryz.func139,Tryz.ntmps139
 go_wp2;go_ret
 exact ⟨by simp,rfl⟩
def cmpI (x y:Int):Int:=if x < y then -1 else if y < x then 1 else 0
set_option maxHeartbeats 1000000 in
theorem cmp_calls (x y:Int) (w:World):Calls Tryz.prog 95 #[.int .i64 x,.int .i64 y] w fun e w'=>e=.returned (.int .i64 (cmpI x y))∧w'=w:=by
 go_enter Tryz.func95,Tryz.ntmps95
 go_wp2_with (go_at_call 139;refine (nan_calls _ _).mono ?_;rintro e w' ⟨rfl,rfl⟩)
 all_goals (go_ret;refine ⟨?_,rfl⟩;unfold cmpI;(repeat' split) <;> first|rfl|(exfalso;omega))
def cmpL:List Int→List Int→Int
 | [],[]=>0
 | [],_ :: _=>-1
 | _ :: _,[]=>1
 | a :: l,b :: m=>if cmpI a b=0 then cmpL l m else cmpI a b
def cmpR (a b:List Int):Int:=if a.length=b.length then cmpL a b else (a.length:Int) - b.length
theorem cmpL_lex:∀ {a b:List Int},a.length=b.length→(decide (cmpL a b < 0)=lexB a b)
 | [],[],_=>rfl
 | a :: l,b :: m,h=>by
  unfold cmpL lexB cmpI;have:=cmpL_lex (a:=l) (b:=m) (by simpa using h)
  by_cases h1:a < b
  ·rw [if_pos h1,if_neg (by decide),if_neg (by omega)];rw [decide_eq_true h1]
   decide
  ·rw [if_neg h1]
   by_cases h2:b < a
   ·rw [if_pos h2,if_neg (by decide),if_neg (by omega),decide_eq_false h1]
    decide
   ·rw [if_neg h2,if_pos rfl,if_pos (by omega)];exact this
theorem cmpR_bef (a b:List Int):decide (cmpR a b < 0)=befB a b:=by
 unfold cmpR befB
 by_cases h:a.length=b.length
 ·rw [if_pos h,if_pos h];exact cmpL_lex h
 ·rw [if_neg h,if_neg h]
  by_cases h2:a.length < b.length
  ·rw [decide_eq_true h2];exact decide_eq_true (by omega)
  ·rw [decide_eq_false h2];exact decide_eq_false (by omega)
theorem cmpL_step {l m:List Int} {i:Nat} {r:Int} (hr:cmpL (l.drop i) (m.drop i)=r) (h:i < l.length) :
  (m.length≤i→r=1)∧(i < m.length→(cmpI (rd l (i:Int)) (rd m (i:Int))≠0→r=cmpI (rd l (i:Int)) (rd m (i:Int)))∧(cmpI (rd l (i:Int)) (rd m (i:Int))=0→cmpL (l.drop (i+1)) (m.drop (i+1))=r)):=by
 have e:∀ (x:List Int) (hx:i < x.length),x.drop i=rd x (i:Int) :: x.drop (i+1):=fun x hx=>by
  rw [List.drop_eq_getElem_cons hx]
  congr 1
  unfold rd;simp [List.getD_eq_getElem?_getD,List.getElem?_eq_getElem hx]
 rw [e l h] at hr;constructor
 ·intro hm;rw [List.drop_eq_nil_of_le hm] at hr;exact hr.symm
 ·intro hm;rw [e m hm] at hr;unfold cmpL at hr;constructor
  ·intro h0;rw [if_neg h0] at hr;exact hr.symm
  ·intro h0;rw [if_pos h0] at hr;exact hr
theorem cmpL_end {l m:List Int} {i:Nat} {r:Int} (hr:cmpL (l.drop i) (m.drop i)=r) (h:l.length=i) (hm:i≤m.length):r=if l.length < m.length then -1 else 0:=by
 rw [List.drop_eq_nil_of_le (by omega)] at hr
 by_cases h2:l.length < m.length
 ·rw [if_pos h2];rw [List.drop_eq_getElem_cons (by omega)] at hr;exact hr.symm
 ·rw [if_neg h2,← hr,List.drop_eq_nil_of_le (by omega)];rfl
set_option maxHeartbeats 4000000 in
theorem compare_calls {w:World} {A0 A1:Option Addr} {c0 c1:Nat} {l m:List Int} (h0:Kd.C (Kd.int .i64) w A0 l.length l) (hc0:l.length≤c0) (h1:Kd.C (Kd.int .i64) w A1 m.length m) (hc1:m.length≤c1) :
  Calls Tryz.prog 72 #[.slice A0 l.length c0,.slice A1 m.length c1] w fun e w'=>e=.returned (.int .i64 (cmpL l m))∧w'=w:=by
 obtain ⟨r,hr⟩:∃ r,cmpL l m=r:=⟨_,rfl⟩;rw [hr];have H0:=Aside0.mk h0;have H1:=Aside0.mk h1;have HR:Aside0 (cmpL (l.drop 0) (m.drop 0)=r):=⟨hr⟩;have HLL:Aside0 (l.length≤9223372036854775807):=⟨h0.2.1⟩;clear h0 h1 hr
 go_enter Tryz.func72,Tryz.ntmps72
 go_wp2
 go_loopw [11] (fun v11 wr=>Aside0 (wr=w)∧∃ i:Nat,v11=.int .i64 i∧Aside0 (i≤l.length∧i≤m.length)∧Aside0 (cmpL (l.drop i) (m.drop i)=r)) (fun v _=>l.length - (intOf v).toNat)
 case atStart=>exact ⟨⟨rfl⟩,0,rfl,⟨by omega,by omega⟩,HR⟩
 case round =>
  obtain ⟨⟨rfl⟩,i,rfl,hi,hri⟩:=hrel;have hil:=hi.out.1;have him:=hi.out.2
  by_cases hlt:i < l.length
  ·have hd:decide ((i:Int) < (l.length:Int))=true:=decide_eq_true (by omega);have hd2:decide (i < l.length)=true:=decide_eq_true hlt;have hp0:(0≤(i:Int))=True:=eq_true (by omega);have hp1:((i:Int) < (l.length:Int))=True:=eq_true (by omega);have hp2:(i < l.length)=True:=eq_true hlt;obtain ⟨a0,ea,hx⟩:=Kd.at_int H0.out (i:Int) (by omega) (by omega);subst ea;rw [Int.toNat_natCast] at hx;have HS:=Aside0.mk (cmpL_step hri.out hlt)
   by_cases hm:i < m.length
   ·have hq1:decide ((i:Int) ≥ (m.length:Int))=false:=decide_eq_false (by omega);have hq2:decide ((m.length:Int)≤(i:Int))=false:=decide_eq_false (by omega);have hq3:decide (m.length≤i)=false:=decide_eq_false (by omega);have hr1:((i:Int) < (m.length:Int))=True:=eq_true (by omega);have hr2:(i < m.length)=True:=eq_true hm;obtain ⟨a1,eb,hy⟩:=Kd.at_int H1.out (i:Int) (by omega) (by omega);subst eb;rw [Int.toNat_natCast] at hy;have hwi:IntKind.i64.wrap ((i:Int)+1)=(i:Int)+1:=IntWalk.i64_in _ (by have:=HLL.out;omega);have HSM:=Aside0.mk (HS.out.2 hm);have HLM:=Aside0.mk (And.intro hlt hm);generalize rd l (i:Int)=x at hx HSM;generalize rd m (i:Int)=y at hy HSM;clear HS hlt hm hil him;obtain ⟨cc,hcc⟩:∃ cc,cmpI x y=cc:=⟨_,rfl⟩;have HCC:=Aside0.mk (hcc ▸ cmp_calls x y);rw [hcc] at HSM;clear hcc
    by_cases hz:cc=0
    ·have e1:(cc != 0)=false:=(by simpa using hz);have HE:=Aside0.mk (HSM.out.2 hz);subst hz
     go_wp2_with (go_at_call 95;refine (HCC.out _).mono ?_;rintro e w' ⟨rfl,rfl⟩)
     go_roundw
     case rel=>exact ⟨⟨trivial⟩,i+1,by go_num,⟨by have:=HLM.out;omega,by have:=HLM.out;omega⟩,HE⟩
     case measure=>have:=HLM.out;simp [intOf];omega
    ·have e1:(cc != 0)=true:=(by simpa using hz);have HE:=Aside0.mk (HSM.out.1 hz);clear hz
     go_wp2_with (go_at_call 95;refine (HCC.out _).mono ?_;rintro e w' ⟨rfl,rfl⟩)
     go_ret
     exact ⟨by rw [HE.out];rfl,rfl⟩
   ·have hq1:decide ((i:Int) ≥ (m.length:Int))=true:=decide_eq_true (by omega);have hq2:decide ((m.length:Int)≤(i:Int))=true:=decide_eq_true (by omega);have hq3:decide (m.length≤i)=true:=decide_eq_true (by omega);have HE:=Aside0.mk (HS.out.1 (by omega));clear hm HS hlt hil him;go_wp2;go_ret
    exact ⟨by rw [HE.out];rfl,rfl⟩
  ·have hd:decide ((i:Int) < (l.length:Int))=false:=decide_eq_false (by omega);have hd2:decide (i < l.length)=false:=decide_eq_false hlt;have HE:=Aside0.mk (cmpL_end hri.out (by omega) him);clear hlt hil him
   by_cases hlm:l.length < m.length
   ·have hk1:decide ((l.length:Int) < (m.length:Int))=true:=decide_eq_true (by omega);have hk2:decide (l.length < m.length)=true:=decide_eq_true hlm;have HF:=Aside0.mk hlm;clear hlm;go_wp2;go_ret
    exact ⟨by rw [HE.out,if_pos HF.out];rfl,rfl⟩
   ·have hk1:decide ((l.length:Int) < (m.length:Int))=false:=decide_eq_false (by omega);have hk2:decide (l.length < m.length)=false:=decide_eq_false hlm;have HF:=Aside0.mk hlm;clear hlm;go_wp2;go_ret
    exact ⟨by rw [HE.out,if_neg HF.out];rfl,rfl⟩
set_option maxHeartbeats 4000000 in
theorem all1_calls {w:World} {A0 A1:Option Addr} {c0 c1:Nat} {l m:List Int} (h0:Kd.C (Kd.int .i64) w A0 l.length l) (hc0:l.length≤c0) (h1:Kd.C (Kd.int .i64) w A1 m.length m) (hc1:m.length≤c1) (hb:l.length < 1000000∧m.length < 1000000) :
  Calls Tryz.prog 71 #[.slice A0 l.length c0,.slice A1 m.length c1] w fun e w'=>e=.returned (.int .i64 (cmpR l m))∧w'=w:=by
 have HC:=Aside0.mk (compare_calls h0 hc0 h1 hc1);clear h0 h1
 by_cases he:l.length=m.length
 ·have e1:((l.length:Int) != (m.length:Int))=false:=bne_eq_false_iff_eq.2 (by omega);have HE:Aside0 (cmpR l m=cmpL l m):=⟨if_pos he⟩;clear he
  go_enter Tryz.func71,Tryz.ntmps71
  go_wp2_with (go_at_call 72;refine HC.out.mono ?_;rintro e w' ⟨rfl,rfl⟩)
  go_ret
  exact ⟨by rw [HE.out];rfl,rfl⟩
 ·have e1:((l.length:Int) != (m.length:Int))=true:=bne_iff_ne.2 (by omega);have HE:Aside0 (cmpR l m=(l.length:Int) - m.length):=⟨if_neg he⟩;have hwi:IntKind.i64.wrap ((l.length:Int) - (m.length:Int))=(l.length:Int) - m.length:=IntWalk.i64_in _ (by omega);clear he
  go_enter Tryz.func71,Tryz.ntmps71
  go_wp2;go_ret
  exact ⟨by rw [HE.out];rfl,rfl⟩
end Go.Proofs.YtcbnhfnnjkkceaaGreat.X
end
section
namespace Go.Proofs.YtcbnhfnnjkkceaaGreat.X
open Go.RowKit Go.Shelf Go.Lib Go.Sort Go.Proofs.YtcbnhfnnjkkceaaGreatW.PrintWords Go.Proofs.YtcbnhfnnjkkceaaGreatW.PrintLast Go.Proofs.YtcbnhfnnjkkceaaGreatW.PrintMore Go.Proofs.YtcbnhfnnjkkceaaGreat.Gr
section
variable {α:Type} [Inhabited α] {enc:α→Value} {w:World} {g n:Nat} {os:Array Obj} {cur:Array Value} {e:TypeId}
theorem holdsE {ss:List α} (hb:w.heap[g]?=some (.cells cur e (0,0))) (ht:cur.toList.take ss.length=ss.map enc):Holds enc w g 0 ss.toArray:=by
 intro j hj;have hj':j < ss.length:=by simpa using hj
 refine ⟨?_,by simp [World.frozen?,hb]⟩;have h1:(cur.toList.take ss.length)[j]?=(ss.map enc)[j]?:=by rw [ht]
 rw [List.getElem?_take_of_lt hj'] at h1;simp only [World.cell?,hb,Nat.zero_add];simp only [Option.isSome_none,Bool.false_eq_true,if_false];rw [← Array.getElem?_toList,h1];simp [hj']
theorem heapE {fr:Nat × Nat} (d:Array α) (hb:w.heap[g]?=some (.cells cur e fr)) :
  (grow (putRow enc (Sort.ahead w n) g 0 d) os).heap[g]?=some (.cells (putCells enc 0 d cur) e fr):=by
 have hg:g < w.heap.size:=(Array.getElem?_eq_some_iff.1 hb).1;rw [heap_grow_old _ _ (by simpa using hg)];simp [putRow,mapBlock,Sort.ahead,Array.getElem?_modify,hb,onCells]
theorem grownE (d:Array α):w.grownBy (grow (putRow enc (Sort.ahead w n) g 0 d) os) (some g):=by
 refine ⟨rfl,rfl,rfl,by simp,fun k hk hne=>?_⟩;rw [heap_grow_old _ _ (by simpa using hk)];have:g≠k:=fun e=>hne (by rw [e])
 simp [putRow,mapBlock,Sort.ahead,Array.getElem?_modify,this]
theorem takeE (ts:List α) (h:ts.length≤cur.size):(putCells enc 0 ts.toArray cur).toList.take ts.length=ts.map enc:=by
 apply List.ext_getElem?
 intro j
 by_cases hj:j < ts.length
 ·rw [List.getElem?_take_of_lt hj,Array.getElem?_toList];simp [putCells,hj,show j < cur.size by omega]
 ·rw [List.getElem?_take_eq_none (by omega),List.getElem?_eq_none (by simp;omega)]
theorem ownsE {base cap:Nat} {ss ts:List α} (hl:ts.length=ss.length) (hbase:base≤g) (hb:w.heap[g]?=some (.cells cur e (0,0))) (h1:ss.length≤cap) (h2:cap≤maxLen) (h3:cur.size=cap * 1) :
  (grow (putRow enc (Sort.ahead w n) g 0 ts.toArray) os).ownsRow base e 1 (.slice (some ⟨g,0,none⟩) ss.length cap) ss.length (ts.map enc) :=
 ⟨by simp [hl],.inr ⟨g,cap,_,rfl,hbase,heapE _ hb,h1,h2,by simp [putCells,h3],by rw [Nat.mul_one,← hl];exact takeE ts (by omega)⟩⟩
end
abbrev Qx:=List Int × Value
def RowQ (w:World) (base:Nat) (v:Value) (qs:List Qx):Prop:=w.ownsRow base 23 1 v qs.length (qs.map (·.2))
def QsAt (w:World) (ok:Nat→Prop) (qs:List Qx):Prop:=∀ q ∈ qs,Que w ok q.2 q.1∧q.1.length < 1000000
theorem RowQ.keep {w w':World} {base:Nat} {v:Value} {xs:List Qx} (h:RowQ w base v xs) (hk:∀ k c,v.ownBlock=some k→w.heap[k]?=some (.cells c 23 (0,0))→w'.heap[k]?=some (.cells c 23 (0,0))):RowQ w' base v xs:=by
 refine ⟨h.1,?_⟩
 rcases h.2 with h|⟨b,cap,cur,rfl,hb,hc,r⟩
 ·exact .inl h
 ·exact .inr ⟨b,cap,cur,rfl,hb,hk b cur rfl hc,r⟩
theorem RowQ.own {w:World} {base:Nat} {v:Value} {xs:List Qx} (h:RowQ w base v xs):∀ k,v.ownBlock=some k→base≤k∧∃ c,w.heap[k]?=some (.cells c 23 (0,0)):=by
 rcases h.2 with ⟨rfl,_⟩|⟨b,cap,cur,rfl,hb,hc,r⟩
 ·intro k hk;cases hk
 ·intro k hk;cases hk;exact ⟨hb,_,hc⟩
theorem RowQ.form {w:World} {base:Nat} {v:Value} {xs:List Qx} (h:RowQ w base v xs):∃ a c,v=.slice a xs.length c∧xs.length≤c:=by
 rcases h.2 with ⟨rfl,hn⟩|⟨b,cap,cur,rfl,_,_,hc,_⟩
 ·exact ⟨none,0,by rw [hn],by omega⟩
 ·exact ⟨_,_,rfl,hc⟩
theorem RowQ.lower {w:World} {base b2:Nat} {v:Value} {xs:List Qx} (h:RowQ w base v xs) (hb:b2≤base):RowQ w b2 v xs:=by
 refine ⟨h.1,?_⟩
 rcases h.2 with h|⟨b,cap,cur,rfl,hb',hc,r⟩
 ·exact .inl h
 ·exact .inr ⟨b,cap,cur,rfl,Nat.le_trans hb hb',hc,r⟩
theorem RowQ.push {w:World} {base:Nat} {v:Value} {xs:List Qx} {x:Qx} (h:w.ownsRow base 23 1 v (xs.length+1) (xs.map (·.2) ++ [x.2])):RowQ w base v (xs ++ [x]):=by
 unfold RowQ;rw [List.length_append,List.map_append];exact h
theorem lift_list {α:Type} {P:α→Prop}:∀ (l:List α),(∀ x ∈ l,P x)→∃ d:List {x // P x},d.map (·.1)=l
 | [],_=>⟨[],rfl⟩
 | x :: l,h=>by
  obtain ⟨d,hd⟩:=lift_list l fun y hy=>h y (List.mem_cons_of_mem _ hy)
  exact ⟨⟨x,h x (by simp)⟩ :: d,by rw [List.map_cons,hd]⟩
set_option maxHeartbeats 4000000 in
theorem sort_rows {w:World} {base:Nat} {v:Value} {qs:List Qx} (hrow:RowQ w base v qs) (hq:QsAt w (fun i=>v.ownBlock≠some i) qs) (hn:qs.length < 1000000) :
  Calls Tryz.prog 70 #[v,.func (.func 71) #[] #[]] w fun e w'=>e=.returned (.tuple #[])∧∃ qs',qs'.Perm qs∧UpR (qs'.map (·.1))∧RowQ w' base v qs'∧w.grownBy w' v.ownBlock:=by
 rcases hrow.2 with ⟨rfl,h0⟩|⟨gg,cap,cur,rfl,hbase,hb,h1,h2,h3,h4⟩
 ·have hqs:qs=[]:=List.eq_nil_of_length_eq_zero h0;subst hqs;refine (Tryz.slices_SortFunc_none (α:=Int) none 0 _ w).mono ?_;rintro e w' ⟨rfl,rfl⟩;exact ⟨rfl,[],List.Perm.refl _,List.Pairwise.nil,hrow,⟨rfl,rfl,rfl,Nat.le_refl _,fun _ _ _=>rfl⟩⟩
 ·obtain ⟨ds,hds⟩:=lift_list (P:=fun q:Qx=>Que w (fun i=>(Value.slice (some ⟨gg,0,none⟩) qs.length cap).ownBlock≠some i) q.2 q.1∧q.1.length < 1000000) qs hq;have hlen:ds.length=qs.length:=by have:=congrArg List.length hds;simpa using this
  let α:={q:Qx // Que w (fun i=>(Value.slice (some ⟨gg,0,none⟩) qs.length cap).ownBlock≠some i) q.2 q.1∧q.1.length < 1000000}
  letI:Inhabited α:=⟨⟨([],.slice none 0 0),Que.nil _ _,by decide⟩⟩
  let enc:α→Value:=fun a=>a.1.2
  let cf:α→α→Int:=fun a b=>cmpR a.1.1 b.1.1
  have hlt:∀ a b,ltOf cf a b=befB a.1.1 b.1.1:=fun a b=>cmpR_bef _ _
  have hO:SWO (ltOf cf):=⟨fun x=>by rw [hlt];exact bef_irr _,fun x y z h k=>by rw [hlt] at *;exact bef_tr h k,fun x y z h k=>by rw [hlt] at *;exact bef_ntr h k⟩;have eg:∀ args w,(callFunc 71 args).run Tryz.prog w=.ok (.enter 71 args) w:=enters_of Tryz.func71 (by kernel_rfl) rfl;have hcmp:CmpLays1 Tryz.prog 71 #[] enc cf gg 0 ds.toArray.size w:=fun m os dk _ x y=>by
   have hk:∀ a:α,Que (sortWorld enc w gg 0 m dk os) (fun i=>(Value.slice (some ⟨gg,0,none⟩) qs.length cap).ownBlock≠some i) a.1.2 a.1.1:=fun a=>a.2.1.keep (grownE dk).size fun i hi ho=>(grownE dk).block i hi fun e=>ho e.symm
   obtain ⟨A0,c0,e0,l0⟩:=(hk x).slice;obtain ⟨A1,c1,e1,l1⟩:=(hk y).slice;have hx:=hk x;have hy:=hk y;rw [e0] at hx;rw [e1] at hy;have hc:=all1_calls hx.c l0 hy.c l1 ⟨x.2.2,y.2.2⟩;rw [← e0,← e1] at hc;exact hc.mono fun _ _ ⟨he,hw⟩=>⟨he,0,#[],by rw [hw,grow_empty];rfl⟩
  have h4':cur.toList.take ds.length=ds.map enc:=by
   rw [hlen,← Nat.mul_one qs.length,h4,← hds,List.map_map];rfl
  have hsz:ds.toArray.size=qs.length:=by simpa using hlen
  have hcon:=Tryz.slices_SortFunc enc (fun a=>by obtain ⟨A0,c0,e0,_⟩:=a.2.1.slice;show (a.1.2).oneCell'=true;rw [e0];rfl) cf hO 71 #[] gg 0 cap ds.toArray w eg hcmp (holdsE hb h4') (z0s hb) (by rw [hsz];omega);rw [hsz] at hcon;refine hcon.mono ?_;rintro e w' ⟨rfl,d',n,os,hp,hs,rfl⟩;have hds':d'.size=qs.length:=hp.1.trans hsz;have hperm:d'.toList.Perm ds:=by
   have h:=hp.2.2;simp only [Array.toList_extract,List.extract_eq_take_drop,List.drop_zero,Nat.sub_zero] at h
   rwa [List.take_of_length_le (by rw [Array.length_toList,hds'];exact Nat.le_refl _),List.take_of_length_le (Nat.le_of_eq hlen)] at h
  refine ⟨rfl,d'.toList.map (·.1),?_,?_,?_,grownE d'⟩
  ·rw [← hds];exact hperm.map _
  ·unfold UpR;rw [List.map_map];refine List.pairwise_iff_getElem.2 fun i j hi hj hij=>?_
   have hi':i < d'.size:=by simpa using hi
   have hj':j < d'.size:=by simpa using hj
   have h1:=hs i j (Nat.zero_le _) hij (by omega);rw [hlt,getElem!_pos d' i hi',getElem!_pos d' j hj'] at h1
   simpa using h1
  ·have h5:=ownsE (enc:=enc) (w:=w) (n:=n) (os:=os) (ss:=ds) (ts:=d'.toList) (by simp;omega) hbase hb (by omega) h2 h3;unfold RowQ;rw [List.map_map,List.length_map];have e1:d'.toList.length=qs.length:=by simp;omega
   rw [e1];rw [hlen] at h5;exact h5
end Go.Proofs.YtcbnhfnnjkkceaaGreat.X
end
section
namespace Go.Proofs.YtcbnhfnnjkkceaaGreat.X
open Go.RowKit Go.Proofs.YtcbnhfnnjkkceaaGreatW.PrintWords Go.Proofs.YtcbnhfnnjkkceaaGreatW.PrintLast Go.Proofs.YtcbnhfnnjkkceaaGreatW.PrintMore Go.Proofs.YtcbnhfnnjkkceaaGreat.Gr
attribute [local go_sem] Oper.semAt_some
theorem Que.cells {w:World} {ok:Nat→Prop} {v:Value} {l:List Int} (h:Que w ok v l):Que w (fun i=>ok i∧∃ c t fz,w.heap[i]?=some (.cells c t fz)) v l:=by
 obtain ⟨ao,cap,e,hle,hmax,hl⟩:=h;refine ⟨ao,cap,e,hle,hmax,fun hc=>?_⟩;obtain ⟨b,off,e,hk,hlt,h1,h2⟩:=hl hc;refine ⟨b,off,e,⟨hk,?_⟩,hlt,h1,h2⟩;have h3:=(h2 0 hc).1;cases hb:w.heap[b]? with
 | none=>simp [World.cell?,hb] at h3
 | some o =>
  cases o with
  | cells c t fz=>exact ⟨_,_,_,rfl⟩
  | _=>simp [World.cell?,hb] at h3
theorem Que.st {g N:Nat} {A Bw:World} {ok:Nat→Prop} {v:Value} {l:List Int} (h:Que A ok v l) (st:StG g N A Bw) (hok:∀ i,ok i→i≠g):Que Bw ok v l :=
 (h.cells.keep st.size fun i hi ⟨hk,c,t,fz,hc⟩=>(st.keep hc (hok i hk) (fun es c e=>by cases e)).trans hc.symm).mono fun i _ h=>h.1
theorem Que.lp {N:Nat} {A Bw:World} {ok:Nat→Prop} {v:Value} {l:List Int} (h:Que A ok v l) (st:LpK N A Bw):Que Bw ok v l :=
 (h.cells.keep st.size fun i hi ⟨hk,c,t,fz,hc⟩=>(st.keep hc (fun r e=>by cases e) (fun r e=>by cases e)).trans hc.symm).mono fun i _ h=>h.1
theorem infoC_ints:(Tryz.prog.info? 23).map (fun i=>(i.zero,i.size,i.bytes))=some (some (.slice none 0 0),1,24):=by kernel_rfl
theorem undC_rows:Tryz.prog.underlying 52=some (.slice 23):=by kernel_rfl
def z2u (w:World) (base:Nat) (v:Value) (ls:List (List Int)):Prop:=∃ qs:List Qx,ls=qs.map (·.1)∧RowQ w base v qs∧QsAt w (fun i=>base≤i) qs
def AllPost (w:World) (g B:Nat) (p:Im) (Y:Nat→Prop) (t steps M:Int) (e:Ending) (w':World):Prop :=
 ∃ (v:Value) (ls:List (List Int)) (ys:List Wy),e=.returned v∧z2u w' w.heap.size v ls∧Gone p t steps ys ∧
  (((ys.length:Int)≤M∧(queW p t steps ys.length).length≤ys.length∧ls.Perm (ys.map Wy.path)∧UpR ls)∨((ys.length:Int)=M+1∧ls=[]))∧GrY w' g B p (fun i=>Y i∨w.heap.size≤i)∧Fr w w' (fun i=>i=g)
structure AllI (w:World) (g b7 b8 b9:Nat) (most M:Int) (pre:List Wx) (O:Nat→Prop) (W:World) (v:Value) (qs:List Qx):Prop where
 c9:W.heap[b9]?=some (.cells #[v] 52 (0,0))
 c8:W.heap[b8]?=some (.cells #[.slice none 0 0] 52 (0,0))
 c7:W.heap[b7]?=some (.cells #[.int .i64 most] 3 (0,0))
 row:RowQ W (b9+1) v qs
 rows:QsAt W (fun i=>b9 < i∧¬ O i) qs
 eq:qs.map (·.1)=pre.map (·.1.path)
 O:∀ i,O i↔i=b8∨i=b9∨v.ownBlock=some i
 fr:Fr w W (fun i=>i=g)
 le:(pre.length:Int)≤M
section
variable {w A Bw:World} {g N b7 b8 b9:Nat} {most M:Int} {pre:List Wx} {O:Nat→Prop} {v:Value} {qs:List Qx}
theorem AllI.st (h:AllI w g b7 b8 b9 most M pre O A v qs) (st:StG g N A Bw) (hg:g < b7∧b7 < b8∧b8 < b9) (hN:w.heap.size≤N):AllI w g b7 b8 b9 most M pre O Bw v qs :=
 ⟨st.keep h.c9 (by omega) (fun es c e=>by cases e),st.keep h.c8 (by omega) (fun es c e=>by cases e),st.keep h.c7 (by omega) (fun es c e=>by cases e),h.row.keep fun k c hk hc=>st.keep hc (fun e=>by have:=(h.row.own k hk).1;omega) (fun es c e=>by cases e),
  fun q hq=>⟨(h.rows q hq).1.st st fun i hi e=>by omega,(h.rows q hq).2⟩,h.eq,h.O,st.old h.fr hN,h.le⟩
theorem AllI.lp (h:AllI w g b7 b8 b9 most M pre O A v qs) (st:LpK N A Bw) (hN:w.heap.size≤N):AllI w g b7 b8 b9 most M pre O Bw v qs :=
 ⟨st.keep h.c9 (fun r e=>by cases e) (fun r e=>by cases e),st.keep h.c8 (fun r e=>by cases e) (fun r e=>by cases e),st.keep h.c7 (fun r e=>by cases e) (fun r e=>by cases e),h.row.keep fun k c hk hc=>st.keep hc (fun r e=>by cases e) (fun r e=>by cases e),
  fun q hq=>⟨(h.rows q hq).1.lp st,(h.rows q hq).2⟩,h.eq,h.O,st.old h.fr hN,h.le⟩
end
theorem GrY.apart {w w1:World} {g B:Nat} {p:Im} {Y:Nat→Prop} (h:GrY w g B p Y) {k:Nat} {c0:Array Value} {t0:TypeId} (hk:w.heap[k]?=some (.cells c0 t0 (0,0))) (ht:t0≠5∧t0≠3∧t0≠79∧t0≠97)
  (hkeep:∀ i,i < w.heap.size→i≠k→w1.heap[i]?=w.heap[i]?):GrY w1 g B p Y:=by
 have h2:GrY w g B p (fun i=>Y i∧i≠k):=by
  obtain ⟨h0,dv,fv,cv,h1,h2,h3⟩:=h;have key:∀ {i:Nat} {c:Array Value} {t:TypeId},w.heap[i]?=some (.cells c t (0,0))→t≠t0→i≠k:=fun {i c t} hc hne e=>by rw [e,hk] at hc;injection hc with hc;injection hc with _ hc;exact hne hc.symm
  refine ⟨h0,dv,fv,cv,h1,fun i hi=>⟨h2 i hi,?_⟩,?_⟩
  ·rcases hi with hi|hi|hi
   ·obtain ⟨c,hc⟩:=Kd.R_typed h1.d i hi;exact key hc ht.1.symm
   ·obtain ⟨c,hc⟩:=Kd.R_typed h1.f i hi;exact key hc ht.2.1.symm
   ·obtain ⟨c,hc⟩:=Kd.R_typed h1.c i hi;exact key hc ht.2.2.1.symm
  ·rcases h3 with h3|⟨bs,n,V,h3,h4,h5,h6⟩
   ·exact .inl h3
   ·refine .inr ⟨bs,n,V,h3,h4,h5,fun i hi=>⟨h6 i hi,?_⟩⟩
    rcases (h4.in_lt hi).2.2 with ⟨es,c,hc⟩|⟨c,hc⟩
    ·intro e;rw [e,hk] at hc;cases hc
    ·exact key hc ht.2.1.symm
 refine (h2.keep fun i hi hy=>hkeep i hi ?_).mono fun i hi=>hi.1
 rcases hy with rfl|hy
 ·intro e;obtain ⟨c,hc⟩:=h.gr.typed;rw [e,hk] at hc;injection hc with hc
  injection hc with _ hc
  exact ht.2.2.2 hc
 ·exact hy.2
theorem results_c1 {fn:Func} {p:Tmp} {ty:TypeId} {P:Program} (h:fn.results=#[.cell p ty]) (tmps:Array Value) (w:World) (g:Nat) (v:Value) (hp:tmps.getD p undef=.pointer (some ⟨g,0,none⟩)) (hl:(loadVar ty ⟨g,0,none⟩).run P w=.ok v w) :
  (results fn tmps).run P w=.ok v w:=by
 have hp':tmps[p]?.getD undef=.pointer (some ⟨g,0,none⟩):=by simpa using hp
 simp [results,h,hp',asAddr,hl]
theorem load_rows {w:World} {g:Nat} {v:Value} (hc:w.cell? ⟨g,0,none⟩=some v):(loadVar 52 ⟨g,0,none⟩).run Tryz.prog w=.ok v w:=by
 go_simp
theorem opIn_value {F:Fence} {n:Nat} {P:Program} {ops:Array Oper} {Q:Exit→Act→World→Prop} {o:Oper} {a:Act} {w w1:World} {K:Act→World→Prop} {v:Value} {E:Prop} (hw:Region.wanted o (yielded ops a.tmps)=true)
  (hab:∀ f,o.about P w a.eval=some f→F.fn f) (hsem:(o.semAt F.round a.eval).run P w=.ok (.value v) w1) (h:K (a.put o.dst v) w1):if Region.wanted o (yielded ops a.tmps)=true then Oper.wpIn F n P o a w K Q else E:=by
 rw [if_pos hw];refine ⟨hab,?_⟩;rw [hsem];exact h
theorem all_calls {w:World} {g B:Nat} {p:Im} {Y:Nat→Prop} (hp:Rt p) (hl3:p.f3.length≤100) (hl4:p.f4.length≤40) (hl5:p.f5.length≤256) (hgy:GrY w g B p Y) (t steps most:Int) (hm:most≤300) :
  Calls Tryz.prog 41 #[.pointer (some ⟨g,0,none⟩),.int .i64 t,.int .i64 steps,.int .i64 most] w (AllPost w g B p Y t steps (max most 0)):=by
 refine (callsIn_wide (n:=3)).1 ?_;refine callsIn_of_wp_marks Tryz.func41 rfl trivial ?_;simp only [Tryz.ntmps41,List.size_toArray,List.length_cons,List.length_nil,Nat.reduceAdd,Nat.reduceSub,Array.replicate_succ,Array.replicate_zero,List.push_toArray,List.append_toArray,List.nil_append,List.cons_append];have HP:=Aside0.mk hp;have HL:=Aside0.mk (And.intro hl3 (And.intro hl4 hl5));have HGY:=Aside0.mk hgy;have HM:=Aside0.mk hm;clear hp hl3 hl4 hl5 hgy hm;have hs1:∀ (w:World) (o:Obj),(w.alloc o).heap.size=w.heap.size+1:=fun w o=>by show (w.heap.push _).size=_;simp
 have HBA:=Aside0.mk (z04 (z04 (z04 (Below.refl w.heap.size w) (.cells #[.int .i64 most] 3)) (.cells #[.slice none 0 0] 52)) (.cells #[.slice none 0 0] 52));have B7:=Aside0.mk (z06 (z06 (z14 w (.cells #[.int .i64 most] 3)) (.cells #[.slice none 0 0] 52)) (.cells #[.slice none 0 0] 52));have h8:=z06 (z14 (w.alloc (.cells #[.int .i64 most] 3)) (.cells #[.slice none 0 0] 52)) (.cells #[.slice none 0 0] 52);have h9:=z14 ((w.alloc (.cells #[.int .i64 most] 3)).alloc (.cells #[.slice none 0 0] 52)) (.cells #[.slice none 0 0] 52);rw [hs1] at h8;rw [hs1,hs1] at h9;have B8:=Aside0.mk h8;have B9:=Aside0.mk h9;have HZ:Aside0 ((((w.alloc (.cells #[.int .i64 most] 3)).alloc (.cells #[.slice none 0 0] 52)).alloc (.cells #[.slice none 0 0] 52)).heap.size=w.heap.size+3):=⟨by rw [hs1,hs1,hs1]⟩;clear h8 h9 hs1
 gi_wp2_with (fail)
 refine ⟨trivial,(callsIn_wide.2 (walk_calls _ g t steps)).mono ?_⟩;rintro e w3 ⟨b1,b2,b3,rfl,h1,h2,h3,hB,hge⟩;have HW3:=Aside0.mk (And.intro h1 (And.intro h2 (And.intro h3 (And.intro hB hge))));clear h1 h2 h3 hB hge
 gi_wp2
 generalize ((w.alloc (.cells #[.int .i64 most] 3)).alloc (.cells #[.slice none 0 0] 52)).alloc (.cells #[.slice none 0 0] 52)=w2 at HBA B7 B8 B9 HZ HW3;obtain ⟨h1,h2,h3,hB,hg1,hg2,hg3⟩:=HW3.out;have HB3:=Aside0.mk (z0x HBA.out HBA.out.size hB);have B73:=Aside0.mk (z0h B7.out hB);have B83:=Aside0.mk (z0h B8.out hB);have B93:=Aside0.mk (z0h B9.out hB);have HZ3:Aside0 (w.heap.size+3≤w3.heap.size∧w.heap.size+3≤b1∧w.heap.size+3≤b2∧w.heap.size+3≤b3∧b1 < w3.heap.size∧b2 < w3.heap.size∧b3 < w3.heap.size):=⟨by have:=HZ.out;exact ⟨by have:=hB.size;omega,by omega,by omega,by omega,z0s h1,z0s h2,z0s h3⟩⟩;have HC:=Aside0.mk (And.intro h1 (And.intro h2 h3));have HG0:=Aside0.mk HGY.out.gr.lt;have eg:∀ args w,(callFunc 92 args).run Tryz.prog w=.ok (.enter 92 args) w:=enters_of Tryz.func92 (by kernel_rfl) rfl;clear h1 h2 h3 hB hg1 hg2 hg3 HW3 B7 B8 B9 HZ HBA;obtain ⟨b9,hb9⟩:∃ b9,w.heap.size+1+1=b9:=⟨_,rfl⟩;obtain ⟨b8,hb8⟩:∃ b8,w.heap.size+1=b8:=⟨_,rfl⟩;obtain ⟨b7,hb7⟩:∃ b7,w.heap.size=b7:=⟨_,rfl⟩;rw [hb9] at B93;rw [hb8] at B83;rw [hb7] at B73;simp only [hb9];simp only [hb8];simp only [hb7];have HBB:Aside0 (b9=w.heap.size+2∧b8=w.heap.size+1∧b7=w.heap.size):=⟨by omega,by omega,by omega⟩;clear hb9 hb8 hb7;have HS:SeqO 2 Tryz.prog 92 _ _ _ _ _ _ _ g w3.heap.size (fun i=>i=b8∨i=b9) _:=walk1_seq (m:=2) (g:=g) (B:=B) (N:=w3.heap.size) (b1:=b1) (b2:=b2) (b3:=b3) (p:=p) (t:=t) (steps:=steps) (Y:=fun i=>Y i∧i < w.heap.size) (X:=fun i=>i=b8∨i=b9) HP.out HL.out.1 HL.out.2.1 HL.out.2.2
  (fun i hi=>⟨by have:=hi.2;have:=HZ3.out.1;omega,fun e=>by have:=hi.2;have:=HBB.out;omega⟩) ⟨by have:=HG0.out;have:=HZ3.out.1;omega,fun e=>by have:=HG0.out;have:=HBB.out;omega⟩
  ⟨⟨HZ3.out.2.2.2.2.1,fun e=>by have:=HZ3.out.2.1;have:=HBB.out;omega⟩,⟨HZ3.out.2.2.2.2.2.1,fun e=>by have:=HZ3.out.2.2.1;have:=HBB.out;omega⟩,⟨HZ3.out.2.2.2.2.2.2,fun e=>by have:=HZ3.out.2.2.2.1;have:=HBB.out;omega⟩⟩
 have hgb:g < b7∧b7 < b8∧b8 < b9:=by have:=HG0.out;have:=HBB.out;omega
 have hN:w.heap.size≤w3.heap.size:=by have:=HZ3.out.1;omega
 obtain ⟨M,hM⟩:∃ M,max most 0=M:=⟨_,rfl⟩;have HMM:Aside0 (0≤M∧M≤300∧(0≤most→M=most)∧(most < 0→M=0)):=⟨by have:=HM.out;omega⟩;have HMX:=Aside0.mk hM;clear hM;refine rangeO (m:=2) rfl eg HS (fun _=>rfl) (by have:=HG0.out;have:=HZ3.out.1;omega)
  (fun W1 hb=>⟨z0h HC.out.1 hb,z0h HC.out.2.1 hb,z0h HC.out.2.2 hb,HGY.out.lt'.below (z0x HB3.out HB3.out.size hb)⟩) (fun x A B h hb=>h.keep (WKeep.below hb)) (fun x A B h hl=>h.keep hl.wk)
  (fun pre O W=>∃ v qs,AllI w g b7 b8 b9 most M pre O W v qs) (fun c pre O W=>c=.ret∧W.heap[b8]?=some (.cells #[.slice none 0 0] 52 (0,0))∧Fr w W (fun i=>i=g)∧(pre.length:Int)=M+1)
  (fun s O A Bw ⟨v,qs,h⟩ st=>⟨v,qs,h.st st hgb hN⟩) (fun s O A Bw ⟨v,qs,h⟩ st=>⟨v,qs,h.lp st hN⟩)
  (fun c s O A Bw h st=>⟨h.1,st.keep h.2.1 (by omega) (fun es c e=>by cases e),st.old h.2.2.1 hN,h.2.2.2⟩) (fun c s O A Bw h st=>⟨h.1,st.keep h.2.1 (fun r e=>by cases e) (fun r e=>by cases e),st.old h.2.2.1 hN,h.2.2.2⟩) ?_ ?_ ?_ ?_ ?_
 ·rintro s O A ⟨v,qs,h⟩;refine ⟨by have:=HMM.out;have:=h.le;omega,fun i hi=>?_⟩
  rcases (h.O i).1 hi with rfl|rfl|hi
  ·exact ⟨z0s h.c8,fun c t hc=>by rw [h.c8] at hc;cases hc;exact ⟨by decide,by decide⟩⟩
  ·exact ⟨z0s h.c9,fun c t hc=>by rw [h.c9] at hc;cases hc;exact ⟨by decide,by decide⟩⟩
  ·obtain ⟨_,c0,hc0⟩:=h.row.own i hi;exact ⟨z0s hc0,fun c t hc=>by rw [hc0] at hc;cases hc;exact ⟨by decide,by decide⟩⟩
 ·exact ⟨.slice none 0 0,[],B93.out,B83.out,B73.out,⟨rfl,.inl ⟨rfl,rfl⟩⟩,(fun q hq=>by cases hq),rfl,(fun i=>⟨fun h=>h.elim .inl fun h=>.inr (.inl h),fun h=>h.elim .inl fun h=>h.elim .inr fun h=>by cases h⟩),(Fr.mono (Fr.of_below HB3.out) fun i h1 h2=>by omega),HMM.out.1⟩
 ·rintro l pre x O W hW hI0 hFx hT;have HI0:=Aside0.mk hI0;have HT:=Aside0.mk (que_ok pre.length x.1 (List.mem_of_getElem? hT)).2;clear hI0 hT;rw [show encW g x=#[.agg #[.pointer (some ⟨g,0,none⟩),.pointer x.2.1,.pointer x.2.2]] from rfl,fold1];simp only [zq1,zq2,zq3]
  gi_wp2
  refine ⟨z04 (Below.refl _ _) _,?_⟩;rintro W2 hl v qs hI hFx2;have B10:=Aside0.mk (hl.keep (z14 W (.cells #[.pointer (some ⟨g,0,none⟩),.pointer x.2.1,.pointer x.2.2] 63)) (fun r e=>by cases e) (fun es e=>by cases e));have HSZ:Aside0 (W.heap.size < W2.heap.size):=⟨z0s B10.out⟩;obtain ⟨A9,c9,rfl,hle9⟩:=hI.row.form;have HI:=Aside0.mk hI;have HFX:=Aside0.mk hFx2;have k9:=cell_of_one hI.c9;have k7:=(z01 hI.c7 0).trans rfl;have HE:Aside0 (qs.length=pre.length):=⟨by have:=congrArg List.length hI.eq;simpa using this⟩;have hI8:=hI.c8;have hI9:=hI.c9;clear hl hI hFx hFx2 HI0;have k8:=(z01 hI8 0).trans rfl;have f8:=z02 hI8 0;have f9:=z02 hI9 0
  by_cases hmq:most≤(qs.length:Int)
  ·have hd:decide ((qs.length:Int) ≥ most)=true:=decide_eq_true hmq;have hd2:decide (most≤(qs.length:Int))=true:=decide_eq_true hmq;have HMQ:=Aside0.mk hmq;clear hmq
   gi_wp2
   have hi:=HI.out;refine ⟨O,Fr.mono (z2l W2 ⟨b8,0,none⟩ _) fun i _ (e:i=b8)=>(hi.O i).2 (.inl e),fun i hi=>.inl hi,rfl,z1d hi.c8 0 _,z2m hi.fr (z2l W2 ⟨b8,0,none⟩ _) fun i (e:i=b8)=>.inr (by have:=HBB.out;omega),?_⟩;have h1:=hi.le;have h2:=HMQ.out;have h3:=HE.out;have h4:=HMM.out;rw [List.length_append,List.length_singleton];omega
  ·have hd:decide ((qs.length:Int) ≥ most)=false:=decide_eq_false hmq;have hd2:decide (most≤(qs.length:Int))=false:=decide_eq_false hmq;have HMQ:=Aside0.mk hmq;clear hmq
   gi_wp2_with (fail)
   have m0:=(z01 B10.out 0).trans rfl;have m1:=(z01 B10.out 1).trans rfl;have m2:=(z01 B10.out 2).trans rfl;have HPR:Aside0 (pre.length≤300):=⟨by have:=HI.out.le;have:=HMM.out;omega⟩;obtain ⟨lp,hlp⟩:∃ lp,x.1.ns.map (·.at_)=lp:=⟨_,rfl⟩;have HLP:Aside0 (lp=x.1.path∧lp.length < 1000000):=⟨hlp.symm,by rw [← hlp,List.length_map];have:=HT.out;have:=HPR.out;omega⟩;have HPC:Aside0 (∀ W',WKeep W2 W'→Calls Tryz.prog 46 #[.agg #[.pointer (some ⟨g,0,none⟩),.pointer x.2.1,.pointer x.2.2]] W' (PathPost W' lp)):=⟨fun W' hk=>by
    rw [← hlp];exact path_calls (HFX.out.2.1.keep hk) (by have:=HT.out;have:=HPR.out;omega)⟩
   clear hlp;have NEW:Aside0 (∀ (w4:World) (j:Nat) (u v4:Value),[v4][j]?=some u→(w4.alloc (.cells #[v4] 23)).cell? ((⟨w4.heap.size,0,none⟩:Addr).add j)=some u):=⟨fun w4 j u v4 hu=>by
    rcases j with _|j
    ·cases hu;exact (z01 (z14 w4 (.cells #[u] 23)) 0).trans rfl
    ·simp at hu⟩
   obtain ⟨i0,hi0,hz0,hz1,hz2⟩:=info_parts infoC_ints;refine wpIn_region_any (by kernel_rfl) ?_
   change wpAnyIn _ _ _ _ _ _ _ _ _ (World.drew _)
   refine wpAnyIn_ready (rs:=[0,1]) (by kernel_rfl) (by simp) ?_;refine AllReadyIn.cons rfl (fun K hK=>?_) (AllReadyIn.cons rfl (fun K hK=>?_) (AllReadyIn.nil))
   ·go_simp;refine hK _ _ ?_;clear hK K;refine wpAnyIn_ready (rs:=[1]) (by kernel_rfl) (by simp) ?_;refine AllReadyIn.cons rfl (fun K hK=>?_) (AllReadyIn.nil);go_simp;refine hK _ _ ?_;clear hK K;refine wpAnyIn_ready (rs:=[2]) (by kernel_rfl) (by simp) ?_;refine AllReadyIn.cons rfl (fun K hK=>?_) (AllReadyIn.nil);go_simp;refine ⟨trivial,(CallsIn.inRound l (callsIn_wide.2 (HPC.out _ (WKeep.below (z12 (Below.refl W2.heap.size W2)))))).mono ?_⟩;rintro e w4 ⟨v4,rfl,hq4,hb4⟩;obtain ⟨a4,c4,rfl,hle4⟩:=hq4.slice;dsimp only;have HQ4:=Aside0.mk hq4;have HB4:=Aside0.mk (z0x (z12 (Below.refl W2.heap.size W2)) (z12 (Below.refl W2.heap.size W2)).size hb4);have B94:=Aside0.mk (z0h HI.out.c9 HB4.out);have k94:=cell_of_one B94.out;clear hq4 hb4;refine hK _ _ ?_;clear hK K;refine wpAnyIn_ready (rs:=[3]) (by kernel_rfl) (by simp) ?_;refine AllReadyIn.cons rfl (fun K hK=>?_) (AllReadyIn.nil);go_simp;refine hK _ _ ?_;clear hK K;have B95:=Aside0.mk (z06 B94.out (.cells #[.slice a4 lp.length c4] 23));have k95:=cell_of_one B95.out;obtain ⟨v',w6,hrun,how,hgr,_,hor⟩:=run_append_own_at (P:=Tryz.prog) (w4.alloc (.cells #[.slice a4 lp.length c4] 23)) (b9+1) 52 52 23 i0 _ 1 24 undC_rows hi0 hz0 hz1 hz2 rfl (by decide) _ qs.length _ ((HI.out.row.keep fun k c _ hc=>z06 (z0h hc HB4.out) (.cells #[.slice a4 lp.length c4] 23))) ⟨w4.heap.size,0,none⟩ 1 1 [.slice a4 lp.length c4] rfl (fun j u hu=>NEW.out _ j u _ hu) (by simp [Value.oneCell']) (Nat.le_trans (show _≤400 by have:=HE.out;have:=HPR.out;omega) (by decide)) (by have:=HE.out;have:=HPR.out;omega) (by have:=z0s B95.out;omega);refine wpAnyIn_ready (rs:=[4]) (by kernel_rfl) (by simp) ?_;refine AllReadyIn.cons rfl (fun K hK=>?_) (AllReadyIn.nil);refine opIn_value (v:=v') (w1:=w6) (by rfl) (by simp [Oper.about,resolve,Target.leads,Sem.run_pure]) (by rw [Oper.semAt_plain _ _ _ (by intro c hc';cases hc')];simp [execOp,resolve,invoke,builtin,Act.eval,hrun,Result.andThen]) ?_;refine hK _ _ ?_;clear hK K;have HOW:=Aside0.mk (RowQ.push (x:=(lp,.slice a4 lp.length c4)) how);obtain ⟨a',c',hv',_⟩:=HOW.out.form;subst hv';simp only [List.length_append,List.length_singleton] at HOW hor;have HGR:=Aside0.mk hgr;have HOR:=Aside0.mk hor;have B96:=Aside0.mk ((hgr.block b9 (z0s B95.out) fun e=>by have:=(HI.out.row.own b9 e.symm).1;omega).trans B95.out);have k96:=cell_of_one B96.out;have f96:=z02 B96.out 0;clear how hgr hor hrun;refine wpAnyIn_ready (rs:=[5]) (by kernel_rfl) (by simp) ?_;refine AllReadyIn.cons rfl (fun K hK=>?_) (AllReadyIn.nil);go_simp;refine hK _ _ ?_;clear hK K;refine wpAnyIn_done (by kernel_rfl) ?_ _;have hi:=HI.out;have hbb:=HBB.out;have hO2:∀ i,O i→i < W2.heap.size:=fun i ho=>by
     rcases (hi.O i).1 ho with e|e|e
     ·rw [e];exact z0s hi.c8
     ·rw [e];exact z0s hi.c9
     ·obtain ⟨_,c0,hc0⟩:=hi.row.own i e;exact z0s hc0
    have hs5:(w4.alloc (.cells #[.slice a4 lp.length c4] 23)).heap.size=w4.heap.size+1:=(by show (w4.heap.push _).size=_;simp);have hs4:=HB4.out.size;have hF46:Fr w4 w6 O:=Fr.trans (z32 w4 _ _) (Fr.of_grown HGR.out fun j hj _=>(hi.O j).2 (.inr (.inr hj)));have hF47:Fr w4 (w6.setCell ⟨b9,0,none⟩ (.slice a' (qs.length+1) c')) O:=Fr.trans hF46 (Fr.mono (z2l w6 ⟨b9,0,none⟩ _) fun i _ (e:i=b9)=>(hi.O i).2 (.inr (.inl e)));have hF27:Fr W2 (w6.setCell ⟨b9,0,none⟩ (.slice a' (qs.length+1) c')) O:=Fr.trans (Fr.mono (Fr.of_below HB4.out) fun i h1 h2=>by omega) hF47;have hO':∀ i,(i=b8∨i=b9∨(Value.slice a' (qs.length+1) c').ownBlock=some i)→O i∨w4.heap.size≤i:=fun i ho=>by
     rcases ho with e|e|e
     ·exact .inl ((hi.O i).2 (.inl e))
     ·exact .inl ((hi.O i).2 (.inr (.inl e)))
     ·rcases HOR.out with h|h
      ·rw [h] at e;exact .inl ((hi.O i).2 (.inr (.inr e)))
      ·rw [h] at e;injection e with e;exact .inr (by omega)
    have k6:∀ {b:Nat} {c:Array Value} {t:TypeId},W2.heap[b]?=some (.cells c t (0,0))→b < b9→w6.heap[b]?=some (.cells c t (0,0)):=fun {b c t} hb hlt =>
     (HGR.out.block b (by have:=z0s (z0h hb HB4.out);omega) (fun e=>by have:=(hi.row.own b e.symm).1;omega)).trans (z06 (z0h hb HB4.out) _)
    show ∃ O',Fr W2 _ O∧(∀ i,O' i→O i∨W2.heap.size≤i)∧∃ v qs,AllI w g b7 b8 b9 most M (pre ++ [x]) O' _ v qs;refine ⟨fun i=>i=b8∨i=b9∨(Value.slice a' (qs.length+1) c').ownBlock=some i,hF27,fun i ho=>(hO' i ho).imp id fun h=>by omega,_,qs ++ [(lp,.slice a4 lp.length c4)],
     z1d B96.out 0 _,z0z (k6 hi.c8 (by omega)) (p:=⟨b9,0,none⟩) (by show b8≠b9;omega) _,z0z (k6 hi.c7 (by omega)) (p:=⟨b9,0,none⟩) (by show b7≠b9;omega) _,HOW.out.keep fun k c hk hc=>z0z hc (p:=⟨b9,0,none⟩) (fun e=>by have:=(HOW.out.own k hk).1;have e:k=b9:=e;omega) _,?_,?_,fun i=>Iff.rfl,?_,?_⟩
    ·intro q hq
     rcases List.mem_append.1 hq with h|h
     ·refine ⟨?_,(hi.rows q h).2⟩;have h1:=(hi.rows q h).1.mono (ok':=fun i=>b9 < i∧¬ O i∧¬ (i=b8∨i=b9∨(Value.slice a' (qs.length+1) c').ownBlock=some i)) fun i hlt ho=>⟨ho.1,ho.2,fun h2=>(hO' i h2).elim ho.2 fun h3=>by omega⟩
      exact (h1.fr hF27 fun i ho=>ho.2.1).mono fun i _ ho=>⟨ho.1,ho.2.2⟩
     ·rw [List.mem_singleton.1 h];refine ⟨?_,HLP.out.2⟩;have h1:=HQ4.out.mono (ok':=fun i=>b9 < i∧¬ O i∧¬ (i=b8∨i=b9∨(Value.slice a' (qs.length+1) c').ownBlock=some i)) fun i hlt ho=>by
       have ho:W2.heap.size≤i:=ho;have hn:¬ O i:=fun h2=>by have:=hO2 i h2;omega
       exact ⟨by have:=z0s hi.c9;omega,hn,fun h2=>(hO' i h2).elim hn fun h3=>by omega⟩
      exact (h1.fr hF47 fun i ho=>ho.2.1).mono fun i _ ho=>⟨ho.1,ho.2.2⟩
    ·rw [List.map_append,List.map_append,hi.eq,HLP.out.1];rfl
    ·refine z2m hi.fr hF27 fun i ho=>?_
     rcases (hi.O i).1 ho with e|e|e
     ·exact .inr (by omega)
     ·exact .inr (by omega)
     ·exact .inr (by have:=(hi.row.own i e).1;omega)
    ·rw [List.length_append,List.length_singleton];have h1:=HMQ.out;have h2:=HE.out;have h3:=HMM.out;omega
   ·go_simp;refine hK _ _ ?_;clear hK K;refine wpAnyIn_ready (rs:=[0,2]) (by kernel_rfl) (by simp) ?_;refine AllReadyIn.cons rfl (fun K hK=>?_) (AllReadyIn.cons rfl (fun K hK=>?_) (AllReadyIn.nil))
    ·go_simp;refine hK _ _ ?_;clear hK K;refine wpAnyIn_ready (rs:=[2]) (by kernel_rfl) (by simp) ?_;refine AllReadyIn.cons rfl (fun K hK=>?_) (AllReadyIn.nil);go_simp;refine ⟨trivial,(CallsIn.inRound l (callsIn_wide.2 (HPC.out _ (WKeep.below (z12 (Below.refl W2.heap.size W2)))))).mono ?_⟩;rintro e w4 ⟨v4,rfl,hq4,hb4⟩;obtain ⟨a4,c4,rfl,hle4⟩:=hq4.slice;dsimp only;have HQ4:=Aside0.mk hq4;have HB4:=Aside0.mk (z0x (z12 (Below.refl W2.heap.size W2)) (z12 (Below.refl W2.heap.size W2)).size hb4);have B94:=Aside0.mk (z0h HI.out.c9 HB4.out);have k94:=cell_of_one B94.out;clear hq4 hb4;refine hK _ _ ?_;clear hK K;refine wpAnyIn_ready (rs:=[3]) (by kernel_rfl) (by simp) ?_;refine AllReadyIn.cons rfl (fun K hK=>?_) (AllReadyIn.nil);go_simp;refine hK _ _ ?_;clear hK K;have B95:=Aside0.mk (z06 B94.out (.cells #[.slice a4 lp.length c4] 23));have k95:=cell_of_one B95.out;obtain ⟨v',w6,hrun,how,hgr,_,hor⟩:=run_append_own_at (P:=Tryz.prog) (w4.alloc (.cells #[.slice a4 lp.length c4] 23)) (b9+1) 52 52 23 i0 _ 1 24 undC_rows hi0 hz0 hz1 hz2 rfl (by decide) _ qs.length _ ((HI.out.row.keep fun k c _ hc=>z06 (z0h hc HB4.out) (.cells #[.slice a4 lp.length c4] 23))) ⟨w4.heap.size,0,none⟩ 1 1 [.slice a4 lp.length c4] rfl (fun j u hu=>NEW.out _ j u _ hu) (by simp [Value.oneCell']) (Nat.le_trans (show _≤400 by have:=HE.out;have:=HPR.out;omega) (by decide)) (by have:=HE.out;have:=HPR.out;omega) (by have:=z0s B95.out;omega);refine wpAnyIn_ready (rs:=[4]) (by kernel_rfl) (by simp) ?_;refine AllReadyIn.cons rfl (fun K hK=>?_) (AllReadyIn.nil);refine opIn_value (v:=v') (w1:=w6) (by rfl) (by simp [Oper.about,resolve,Target.leads,Sem.run_pure]) (by rw [Oper.semAt_plain _ _ _ (by intro c hc';cases hc')];simp [execOp,resolve,invoke,builtin,Act.eval,hrun,Result.andThen]) ?_;refine hK _ _ ?_;clear hK K;have HOW:=Aside0.mk (RowQ.push (x:=(lp,.slice a4 lp.length c4)) how);obtain ⟨a',c',hv',_⟩:=HOW.out.form;subst hv';simp only [List.length_append,List.length_singleton] at HOW hor;have HGR:=Aside0.mk hgr;have HOR:=Aside0.mk hor;have B96:=Aside0.mk ((hgr.block b9 (z0s B95.out) fun e=>by have:=(HI.out.row.own b9 e.symm).1;omega).trans B95.out);have k96:=cell_of_one B96.out;have f96:=z02 B96.out 0;clear how hgr hor hrun;refine wpAnyIn_ready (rs:=[5]) (by kernel_rfl) (by simp) ?_;refine AllReadyIn.cons rfl (fun K hK=>?_) (AllReadyIn.nil);go_simp;refine hK _ _ ?_;clear hK K;refine wpAnyIn_done (by kernel_rfl) ?_ _;have hi:=HI.out;have hbb:=HBB.out;have hO2:∀ i,O i→i < W2.heap.size:=fun i ho=>by
      rcases (hi.O i).1 ho with e|e|e
      ·rw [e];exact z0s hi.c8
      ·rw [e];exact z0s hi.c9
      ·obtain ⟨_,c0,hc0⟩:=hi.row.own i e;exact z0s hc0
     have hs5:(w4.alloc (.cells #[.slice a4 lp.length c4] 23)).heap.size=w4.heap.size+1:=(by show (w4.heap.push _).size=_;simp);have hs4:=HB4.out.size;have hF46:Fr w4 w6 O:=Fr.trans (z32 w4 _ _) (Fr.of_grown HGR.out fun j hj _=>(hi.O j).2 (.inr (.inr hj)));have hF47:Fr w4 (w6.setCell ⟨b9,0,none⟩ (.slice a' (qs.length+1) c')) O:=Fr.trans hF46 (Fr.mono (z2l w6 ⟨b9,0,none⟩ _) fun i _ (e:i=b9)=>(hi.O i).2 (.inr (.inl e)));have hF27:Fr W2 (w6.setCell ⟨b9,0,none⟩ (.slice a' (qs.length+1) c')) O:=Fr.trans (Fr.mono (Fr.of_below HB4.out) fun i h1 h2=>by omega) hF47;have hO':∀ i,(i=b8∨i=b9∨(Value.slice a' (qs.length+1) c').ownBlock=some i)→O i∨w4.heap.size≤i:=fun i ho=>by
      rcases ho with e|e|e
      ·exact .inl ((hi.O i).2 (.inl e))
      ·exact .inl ((hi.O i).2 (.inr (.inl e)))
      ·rcases HOR.out with h|h
       ·rw [h] at e;exact .inl ((hi.O i).2 (.inr (.inr e)))
       ·rw [h] at e;injection e with e;exact .inr (by omega)
     have k6:∀ {b:Nat} {c:Array Value} {t:TypeId},W2.heap[b]?=some (.cells c t (0,0))→b < b9→w6.heap[b]?=some (.cells c t (0,0)):=fun {b c t} hb hlt =>
      (HGR.out.block b (by have:=z0s (z0h hb HB4.out);omega) (fun e=>by have:=(hi.row.own b e.symm).1;omega)).trans (z06 (z0h hb HB4.out) _)
     show ∃ O',Fr W2 _ O∧(∀ i,O' i→O i∨W2.heap.size≤i)∧∃ v qs,AllI w g b7 b8 b9 most M (pre ++ [x]) O' _ v qs;refine ⟨fun i=>i=b8∨i=b9∨(Value.slice a' (qs.length+1) c').ownBlock=some i,hF27,fun i ho=>(hO' i ho).imp id fun h=>by omega,_,qs ++ [(lp,.slice a4 lp.length c4)],
      z1d B96.out 0 _,z0z (k6 hi.c8 (by omega)) (p:=⟨b9,0,none⟩) (by show b8≠b9;omega) _,z0z (k6 hi.c7 (by omega)) (p:=⟨b9,0,none⟩) (by show b7≠b9;omega) _,HOW.out.keep fun k c hk hc=>z0z hc (p:=⟨b9,0,none⟩) (fun e=>by have:=(HOW.out.own k hk).1;have e:k=b9:=e;omega) _,?_,?_,fun i=>Iff.rfl,?_,?_⟩
     ·intro q hq
      rcases List.mem_append.1 hq with h|h
      ·refine ⟨?_,(hi.rows q h).2⟩;have h1:=(hi.rows q h).1.mono (ok':=fun i=>b9 < i∧¬ O i∧¬ (i=b8∨i=b9∨(Value.slice a' (qs.length+1) c').ownBlock=some i)) fun i hlt ho=>⟨ho.1,ho.2,fun h2=>(hO' i h2).elim ho.2 fun h3=>by omega⟩
       exact (h1.fr hF27 fun i ho=>ho.2.1).mono fun i _ ho=>⟨ho.1,ho.2.2⟩
      ·rw [List.mem_singleton.1 h];refine ⟨?_,HLP.out.2⟩;have h1:=HQ4.out.mono (ok':=fun i=>b9 < i∧¬ O i∧¬ (i=b8∨i=b9∨(Value.slice a' (qs.length+1) c').ownBlock=some i)) fun i hlt ho=>by
        have ho:W2.heap.size≤i:=ho;have hn:¬ O i:=fun h2=>by have:=hO2 i h2;omega
        exact ⟨by have:=z0s hi.c9;omega,hn,fun h2=>(hO' i h2).elim hn fun h3=>by omega⟩
       exact (h1.fr hF47 fun i ho=>ho.2.1).mono fun i _ ho=>⟨ho.1,ho.2.2⟩
     ·rw [List.map_append,List.map_append,hi.eq,HLP.out.1];rfl
     ·refine z2m hi.fr hF27 fun i ho=>?_
      rcases (hi.O i).1 ho with e|e|e
      ·exact .inr (by omega)
      ·exact .inr (by omega)
      ·exact .inr (by have:=(hi.row.own i e).1;omega)
     ·rw [List.length_append,List.length_singleton];have h1:=HMQ.out;have h2:=HE.out;have h3:=HMM.out;omega
    ·go_simp;refine ⟨trivial,(CallsIn.inRound l (callsIn_wide.2 (HPC.out _ (WKeep.below (z12 (Below.refl W2.heap.size W2)))))).mono ?_⟩;rintro e w4 ⟨v4,rfl,hq4,hb4⟩;obtain ⟨a4,c4,rfl,hle4⟩:=hq4.slice;dsimp only;have HQ4:=Aside0.mk hq4;have HB4:=Aside0.mk (z0x (z12 (Below.refl W2.heap.size W2)) (z12 (Below.refl W2.heap.size W2)).size hb4);have B94:=Aside0.mk (z0h HI.out.c9 HB4.out);have k94:=cell_of_one B94.out;clear hq4 hb4;refine hK _ _ ?_;clear hK K;refine wpAnyIn_ready (rs:=[0,3]) (by kernel_rfl) (by simp) ?_;refine AllReadyIn.cons rfl (fun K hK=>?_) (AllReadyIn.cons rfl (fun K hK=>?_) (AllReadyIn.nil))
     ·go_simp;refine hK _ _ ?_;clear hK K;refine wpAnyIn_ready (rs:=[3]) (by kernel_rfl) (by simp) ?_;refine AllReadyIn.cons rfl (fun K hK=>?_) (AllReadyIn.nil);go_simp;refine hK _ _ ?_;clear hK K;have B95:=Aside0.mk (z06 B94.out (.cells #[.slice a4 lp.length c4] 23));have k95:=cell_of_one B95.out;obtain ⟨v',w6,hrun,how,hgr,_,hor⟩:=run_append_own_at (P:=Tryz.prog) (w4.alloc (.cells #[.slice a4 lp.length c4] 23)) (b9+1) 52 52 23 i0 _ 1 24 undC_rows hi0 hz0 hz1 hz2 rfl (by decide) _ qs.length _ ((HI.out.row.keep fun k c _ hc=>z06 (z0h hc HB4.out) (.cells #[.slice a4 lp.length c4] 23))) ⟨w4.heap.size,0,none⟩ 1 1 [.slice a4 lp.length c4] rfl (fun j u hu=>NEW.out _ j u _ hu) (by simp [Value.oneCell']) (Nat.le_trans (show _≤400 by have:=HE.out;have:=HPR.out;omega) (by decide)) (by have:=HE.out;have:=HPR.out;omega) (by have:=z0s B95.out;omega);refine wpAnyIn_ready (rs:=[4]) (by kernel_rfl) (by simp) ?_;refine AllReadyIn.cons rfl (fun K hK=>?_) (AllReadyIn.nil);refine opIn_value (v:=v') (w1:=w6) (by rfl) (by simp [Oper.about,resolve,Target.leads,Sem.run_pure]) (by rw [Oper.semAt_plain _ _ _ (by intro c hc';cases hc')];simp [execOp,resolve,invoke,builtin,Act.eval,hrun,Result.andThen]) ?_;refine hK _ _ ?_;clear hK K;have HOW:=Aside0.mk (RowQ.push (x:=(lp,.slice a4 lp.length c4)) how);obtain ⟨a',c',hv',_⟩:=HOW.out.form;subst hv';simp only [List.length_append,List.length_singleton] at HOW hor;have HGR:=Aside0.mk hgr;have HOR:=Aside0.mk hor;have B96:=Aside0.mk ((hgr.block b9 (z0s B95.out) fun e=>by have:=(HI.out.row.own b9 e.symm).1;omega).trans B95.out);have k96:=cell_of_one B96.out;have f96:=z02 B96.out 0;clear how hgr hor hrun;refine wpAnyIn_ready (rs:=[5]) (by kernel_rfl) (by simp) ?_;refine AllReadyIn.cons rfl (fun K hK=>?_) (AllReadyIn.nil);go_simp;refine hK _ _ ?_;clear hK K;refine wpAnyIn_done (by kernel_rfl) ?_ _;have hi:=HI.out;have hbb:=HBB.out;have hO2:∀ i,O i→i < W2.heap.size:=fun i ho=>by
       rcases (hi.O i).1 ho with e|e|e
       ·rw [e];exact z0s hi.c8
       ·rw [e];exact z0s hi.c9
       ·obtain ⟨_,c0,hc0⟩:=hi.row.own i e;exact z0s hc0
      have hs5:(w4.alloc (.cells #[.slice a4 lp.length c4] 23)).heap.size=w4.heap.size+1:=(by show (w4.heap.push _).size=_;simp);have hs4:=HB4.out.size;have hF46:Fr w4 w6 O:=Fr.trans (z32 w4 _ _) (Fr.of_grown HGR.out fun j hj _=>(hi.O j).2 (.inr (.inr hj)));have hF47:Fr w4 (w6.setCell ⟨b9,0,none⟩ (.slice a' (qs.length+1) c')) O:=Fr.trans hF46 (Fr.mono (z2l w6 ⟨b9,0,none⟩ _) fun i _ (e:i=b9)=>(hi.O i).2 (.inr (.inl e)));have hF27:Fr W2 (w6.setCell ⟨b9,0,none⟩ (.slice a' (qs.length+1) c')) O:=Fr.trans (Fr.mono (Fr.of_below HB4.out) fun i h1 h2=>by omega) hF47;have hO':∀ i,(i=b8∨i=b9∨(Value.slice a' (qs.length+1) c').ownBlock=some i)→O i∨w4.heap.size≤i:=fun i ho=>by
       rcases ho with e|e|e
       ·exact .inl ((hi.O i).2 (.inl e))
       ·exact .inl ((hi.O i).2 (.inr (.inl e)))
       ·rcases HOR.out with h|h
        ·rw [h] at e;exact .inl ((hi.O i).2 (.inr (.inr e)))
        ·rw [h] at e;injection e with e;exact .inr (by omega)
      have k6:∀ {b:Nat} {c:Array Value} {t:TypeId},W2.heap[b]?=some (.cells c t (0,0))→b < b9→w6.heap[b]?=some (.cells c t (0,0)):=fun {b c t} hb hlt =>
       (HGR.out.block b (by have:=z0s (z0h hb HB4.out);omega) (fun e=>by have:=(hi.row.own b e.symm).1;omega)).trans (z06 (z0h hb HB4.out) _)
      show ∃ O',Fr W2 _ O∧(∀ i,O' i→O i∨W2.heap.size≤i)∧∃ v qs,AllI w g b7 b8 b9 most M (pre ++ [x]) O' _ v qs;refine ⟨fun i=>i=b8∨i=b9∨(Value.slice a' (qs.length+1) c').ownBlock=some i,hF27,fun i ho=>(hO' i ho).imp id fun h=>by omega,_,qs ++ [(lp,.slice a4 lp.length c4)],
       z1d B96.out 0 _,z0z (k6 hi.c8 (by omega)) (p:=⟨b9,0,none⟩) (by show b8≠b9;omega) _,z0z (k6 hi.c7 (by omega)) (p:=⟨b9,0,none⟩) (by show b7≠b9;omega) _,HOW.out.keep fun k c hk hc=>z0z hc (p:=⟨b9,0,none⟩) (fun e=>by have:=(HOW.out.own k hk).1;have e:k=b9:=e;omega) _,?_,?_,fun i=>Iff.rfl,?_,?_⟩
      ·intro q hq
       rcases List.mem_append.1 hq with h|h
       ·refine ⟨?_,(hi.rows q h).2⟩;have h1:=(hi.rows q h).1.mono (ok':=fun i=>b9 < i∧¬ O i∧¬ (i=b8∨i=b9∨(Value.slice a' (qs.length+1) c').ownBlock=some i)) fun i hlt ho=>⟨ho.1,ho.2,fun h2=>(hO' i h2).elim ho.2 fun h3=>by omega⟩
        exact (h1.fr hF27 fun i ho=>ho.2.1).mono fun i _ ho=>⟨ho.1,ho.2.2⟩
       ·rw [List.mem_singleton.1 h];refine ⟨?_,HLP.out.2⟩;have h1:=HQ4.out.mono (ok':=fun i=>b9 < i∧¬ O i∧¬ (i=b8∨i=b9∨(Value.slice a' (qs.length+1) c').ownBlock=some i)) fun i hlt ho=>by
         have ho:W2.heap.size≤i:=ho;have hn:¬ O i:=fun h2=>by have:=hO2 i h2;omega
         exact ⟨by have:=z0s hi.c9;omega,hn,fun h2=>(hO' i h2).elim hn fun h3=>by omega⟩
        exact (h1.fr hF47 fun i ho=>ho.2.1).mono fun i _ ho=>⟨ho.1,ho.2.2⟩
      ·rw [List.map_append,List.map_append,hi.eq,HLP.out.1];rfl
      ·refine z2m hi.fr hF27 fun i ho=>?_
       rcases (hi.O i).1 ho with e|e|e
       ·exact .inr (by omega)
       ·exact .inr (by omega)
       ·exact .inr (by have:=(hi.row.own i e).1;omega)
      ·rw [List.length_append,List.length_singleton];have h1:=HMQ.out;have h2:=HE.out;have h3:=HMM.out;omega
     ·go_simp;refine hK _ _ ?_;clear hK K;have B95:=Aside0.mk (z06 B94.out (.cells #[.slice a4 lp.length c4] 23));have k95:=cell_of_one B95.out;refine wpAnyIn_ready (rs:=[0]) (by kernel_rfl) (by simp) ?_;refine AllReadyIn.cons rfl (fun K hK=>?_) (AllReadyIn.nil);go_simp;refine hK _ _ ?_;clear hK K;obtain ⟨v',w6,hrun,how,hgr,_,hor⟩:=run_append_own_at (P:=Tryz.prog) (w4.alloc (.cells #[.slice a4 lp.length c4] 23)) (b9+1) 52 52 23 i0 _ 1 24 undC_rows hi0 hz0 hz1 hz2 rfl (by decide) _ qs.length _ ((HI.out.row.keep fun k c _ hc=>z06 (z0h hc HB4.out) (.cells #[.slice a4 lp.length c4] 23))) ⟨w4.heap.size,0,none⟩ 1 1 [.slice a4 lp.length c4] rfl (fun j u hu=>NEW.out _ j u _ hu) (by simp [Value.oneCell']) (Nat.le_trans (show _≤400 by have:=HE.out;have:=HPR.out;omega) (by decide)) (by have:=HE.out;have:=HPR.out;omega) (by have:=z0s B95.out;omega);refine wpAnyIn_ready (rs:=[4]) (by kernel_rfl) (by simp) ?_;refine AllReadyIn.cons rfl (fun K hK=>?_) (AllReadyIn.nil);refine opIn_value (v:=v') (w1:=w6) (by rfl) (by simp [Oper.about,resolve,Target.leads,Sem.run_pure]) (by rw [Oper.semAt_plain _ _ _ (by intro c hc';cases hc')];simp [execOp,resolve,invoke,builtin,Act.eval,hrun,Result.andThen]) ?_;refine hK _ _ ?_;clear hK K;have HOW:=Aside0.mk (RowQ.push (x:=(lp,.slice a4 lp.length c4)) how);obtain ⟨a',c',hv',_⟩:=HOW.out.form;subst hv';simp only [List.length_append,List.length_singleton] at HOW hor;have HGR:=Aside0.mk hgr;have HOR:=Aside0.mk hor;have B96:=Aside0.mk ((hgr.block b9 (z0s B95.out) fun e=>by have:=(HI.out.row.own b9 e.symm).1;omega).trans B95.out);have k96:=cell_of_one B96.out;have f96:=z02 B96.out 0;clear how hgr hor hrun;refine wpAnyIn_ready (rs:=[5]) (by kernel_rfl) (by simp) ?_;refine AllReadyIn.cons rfl (fun K hK=>?_) (AllReadyIn.nil);go_simp;refine hK _ _ ?_;clear hK K;refine wpAnyIn_done (by kernel_rfl) ?_ _;have hi:=HI.out;have hbb:=HBB.out;have hO2:∀ i,O i→i < W2.heap.size:=fun i ho=>by
       rcases (hi.O i).1 ho with e|e|e
       ·rw [e];exact z0s hi.c8
       ·rw [e];exact z0s hi.c9
       ·obtain ⟨_,c0,hc0⟩:=hi.row.own i e;exact z0s hc0
      have hs5:(w4.alloc (.cells #[.slice a4 lp.length c4] 23)).heap.size=w4.heap.size+1:=(by show (w4.heap.push _).size=_;simp);have hs4:=HB4.out.size;have hF46:Fr w4 w6 O:=Fr.trans (z32 w4 _ _) (Fr.of_grown HGR.out fun j hj _=>(hi.O j).2 (.inr (.inr hj)));have hF47:Fr w4 (w6.setCell ⟨b9,0,none⟩ (.slice a' (qs.length+1) c')) O:=Fr.trans hF46 (Fr.mono (z2l w6 ⟨b9,0,none⟩ _) fun i _ (e:i=b9)=>(hi.O i).2 (.inr (.inl e)));have hF27:Fr W2 (w6.setCell ⟨b9,0,none⟩ (.slice a' (qs.length+1) c')) O:=Fr.trans (Fr.mono (Fr.of_below HB4.out) fun i h1 h2=>by omega) hF47;have hO':∀ i,(i=b8∨i=b9∨(Value.slice a' (qs.length+1) c').ownBlock=some i)→O i∨w4.heap.size≤i:=fun i ho=>by
       rcases ho with e|e|e
       ·exact .inl ((hi.O i).2 (.inl e))
       ·exact .inl ((hi.O i).2 (.inr (.inl e)))
       ·rcases HOR.out with h|h
        ·rw [h] at e;exact .inl ((hi.O i).2 (.inr (.inr e)))
        ·rw [h] at e;injection e with e;exact .inr (by omega)
      have k6:∀ {b:Nat} {c:Array Value} {t:TypeId},W2.heap[b]?=some (.cells c t (0,0))→b < b9→w6.heap[b]?=some (.cells c t (0,0)):=fun {b c t} hb hlt =>
       (HGR.out.block b (by have:=z0s (z0h hb HB4.out);omega) (fun e=>by have:=(hi.row.own b e.symm).1;omega)).trans (z06 (z0h hb HB4.out) _)
      show ∃ O',Fr W2 _ O∧(∀ i,O' i→O i∨W2.heap.size≤i)∧∃ v qs,AllI w g b7 b8 b9 most M (pre ++ [x]) O' _ v qs;refine ⟨fun i=>i=b8∨i=b9∨(Value.slice a' (qs.length+1) c').ownBlock=some i,hF27,fun i ho=>(hO' i ho).imp id fun h=>by omega,_,qs ++ [(lp,.slice a4 lp.length c4)],
       z1d B96.out 0 _,z0z (k6 hi.c8 (by omega)) (p:=⟨b9,0,none⟩) (by show b8≠b9;omega) _,z0z (k6 hi.c7 (by omega)) (p:=⟨b9,0,none⟩) (by show b7≠b9;omega) _,HOW.out.keep fun k c hk hc=>z0z hc (p:=⟨b9,0,none⟩) (fun e=>by have:=(HOW.out.own k hk).1;have e:k=b9:=e;omega) _,?_,?_,fun i=>Iff.rfl,?_,?_⟩
      ·intro q hq
       rcases List.mem_append.1 hq with h|h
       ·refine ⟨?_,(hi.rows q h).2⟩;have h1:=(hi.rows q h).1.mono (ok':=fun i=>b9 < i∧¬ O i∧¬ (i=b8∨i=b9∨(Value.slice a' (qs.length+1) c').ownBlock=some i)) fun i hlt ho=>⟨ho.1,ho.2,fun h2=>(hO' i h2).elim ho.2 fun h3=>by omega⟩
        exact (h1.fr hF27 fun i ho=>ho.2.1).mono fun i _ ho=>⟨ho.1,ho.2.2⟩
       ·rw [List.mem_singleton.1 h];refine ⟨?_,HLP.out.2⟩;have h1:=HQ4.out.mono (ok':=fun i=>b9 < i∧¬ O i∧¬ (i=b8∨i=b9∨(Value.slice a' (qs.length+1) c').ownBlock=some i)) fun i hlt ho=>by
         have ho:W2.heap.size≤i:=ho;have hn:¬ O i:=fun h2=>by have:=hO2 i h2;omega
         exact ⟨by have:=z0s hi.c9;omega,hn,fun h2=>(hO' i h2).elim hn fun h3=>by omega⟩
        exact (h1.fr hF47 fun i ho=>ho.2.1).mono fun i _ ho=>⟨ho.1,ho.2.2⟩
      ·rw [List.map_append,List.map_append,hi.eq,HLP.out.1];rfl
      ·refine z2m hi.fr hF27 fun i ho=>?_
       rcases (hi.O i).1 ho with e|e|e
       ·exact .inr (by omega)
       ·exact .inr (by omega)
       ·exact .inr (by have:=(hi.row.own i e).1;omega)
      ·rw [List.length_append,List.length_singleton];have h1:=HMQ.out;have h2:=HE.out;have h3:=HMM.out;omega
 ·rintro xs O W W' hS hl ⟨v,qs,h⟩ hD;have k9:=cell_of_one h.c9;have k8:=(z01 h.c8 0).trans rfl;obtain ⟨A9,c9,rfl,hle9⟩:=h.row.form;have HI:=Aside0.mk h;have HS:=Aside0.mk hS;have HD:=Aside0.mk hD;have HLP:=Aside0.mk hl;clear h hS hl
  gi_wp2_with (fail)
  refine ⟨trivial,(callsIn_wide.2 (sort_rows HI.out.row (fun q hq=>⟨((HI.out.rows q hq).1).mono fun i _ ho=>fun e=>ho.2 ((HI.out.O i).2 (.inr (.inr e))),(HI.out.rows q hq).2⟩) (by have:=HI.out.le;have:=HMM.out;have:=congrArg List.length HI.out.eq;simp at this;omega))).mono ?_⟩;rintro e w5 ⟨rfl,qs',hperm,hup,hrow,hgr⟩;have HSR:=Aside0.mk (And.intro hperm (And.intro hup (And.intro hrow hgr)));have B95:=Aside0.mk ((hgr.block b9 (z0s HI.out.c9) fun e=>by have:=(HI.out.row.own b9 e.symm).1;omega).trans HI.out.c9);have B85:=Aside0.mk ((hgr.block b8 (z0s HI.out.c8) fun e=>by have:=(HI.out.row.own b8 e.symm).1;have:=HBB.out;omega).trans HI.out.c8);have BD5:=Aside0.mk ((hgr.block w3.heap.size (z0s HD.out) fun e=>by obtain ⟨_,c0,hc0⟩:=HI.out.row.own _ e.symm;rw [HD.out] at hc0;cases hc0).trans HD.out);have j9:=cell_of_one B95.out;have j8:=z02 B85.out 0;clear hperm hup hrow hgr k9 k8 hD;have l8:=(z01 B85.out 0).trans rfl
  gi_wp2
  have hne:∀ {b:Nat},b≠b8→(w5.setCell ⟨b8,0,none⟩ (.slice A9 qs.length c9)).heap[b]?=w5.heap[b]?:=fun {b} hb=>Below.heap_setCell w5 ⟨b8,0,none⟩ _ b hb
  have hD6:=(hne (by have:=HZ3.out.1;have:=HBB.out;omega)).trans BD5.out;refine ⟨by simp,.inl ⟨_,_,rfl,run_takeDeferred hD6,?_⟩⟩;have hlp:LpK w3.heap.size (w5.setCell ⟨b8,0,none⟩ (.slice A9 qs.length c9)) ((w5.setCell ⟨b8,0,none⟩ (.slice A9 qs.length c9)).putObj w3.heap.size (.deferred none)):=LpK.putD (Nat.le_refl _) hD6 _;have h8:=hlp.keep (z1d B85.out 0 (.slice A9 qs.length c9)) (fun r e=>by cases e) (fun r e=>by cases e);obtain ⟨hperm,hup,hrow,hgr⟩:=HSR.out;have hi:=HI.out;have hql:qs'.length=qs.length:=hperm.length_eq;have hwe:w.heap.size≤W'.heap.size:=hi.fr.size;have hf5:Fr w (w5.setCell ⟨b8,0,none⟩ (.slice A9 qs.length c9)) (fun i=>i=g):=z2m (z2m hi.fr (Fr.of_grown (S:=fun i=>b9 < i) hgr fun j hj _=>by have:=(hi.row.own j hj).1;omega) fun i hi2=>.inr (by have:=HBB.out;omega)) (z2l w5 ⟨b8,0,none⟩ _) fun i (e:i=b8)=>.inr (by have:=HBB.out;omega)
  have hq5:QsAt w5 (fun i=>b9 < i∧¬ O i) qs:=fun q hq=>⟨(hi.rows q hq).1.keep hgr.size fun i hlt ho=>hgr.block i hlt fun e=>ho.2 ((hi.O i).2 (.inr (.inr e.symm))),(hi.rows q hq).2⟩
  have hgy5:GrY (w5.setCell ⟨b8,0,none⟩ (.slice A9 qs.length c9)) g B p (fun i=>Y i∨w.heap.size≤i):=by
   have h1:=HS.out.1.lpk HLP.out;have h2:GrY w5 g B p (fun i=>(Y i∧i < w.heap.size)∨w3.heap.size≤i):=by
    cases ho:(Value.slice A9 qs.length c9).ownBlock with
    | none=>exact h1.keep fun i hlt _=>hgr.block i hlt (by rw [ho];simp)
    | some k =>
     obtain ⟨_,c0,hc0⟩:=hi.row.own k ho;exact h1.apart hc0 ⟨by decide,by decide,by decide,by decide⟩ fun i hlt hik=>hgr.block i hlt (by rw [ho];exact fun e=>hik (by injection e))
   refine (h2.keep fun i hlt hy=>hne ?_).mono fun i hi=>hi.elim (fun h=>.inl h.1) fun h=>.inr (by omega)
   rcases hy with rfl|⟨_,hy⟩|hy
   ·have:=HG0.out;have:=HBB.out;omega
   ·have:=HBB.out;omega
   ·have:=HBB.out;have:=HZ3.out.1;omega
  refine ⟨_,results_c1 rfl _ _ b8 (.slice A9 qs.length c9) rfl (load_rows ((z01 h8 0).trans rfl)),_,qs'.map (·.1),xs.map (·.1),rfl,⟨qs',rfl,?_,fun q hq=>⟨?_,?_⟩⟩,HS.out.2.2.1,.inl ⟨?_,?_,?_,hup⟩,hgy5.lpk hlp,hlp.old hf5 hN⟩
  ·refine RowQ.lower ((hrow.keep fun k c hk hc=>?_).keep fun k c hk hc=>hlp.keep hc (fun r e=>by cases e) (fun r e=>by cases e)) (show w.heap.size≤b9+1 by have:=HBB.out;omega);exact (hne (fun e=>by have:=(hi.row.own k hk).1;have:=HBB.out;omega)).trans hc
  ·have h1:=(hq5 q (hperm.mem_iff.1 hq)).1.keep (w':=w5.setCell ⟨b8,0,none⟩ (.slice A9 qs.length c9)) (z2l w5 ⟨b8,0,none⟩ (.slice A9 qs.length c9)).size fun i hlt ho=>hne (fun e=>by have:=ho.1;have:=HBB.out;omega)
   exact (h1.lp hlp).mono fun i _ ho=>by have:=ho.1;have:=HBB.out;omega
  ·exact (hq5 q (hperm.mem_iff.1 hq)).2
  ·rw [HMX.out];simpa using hi.le
  ·simpa using HS.out.2.2.2
  ·have:=hperm.map (·.1);rw [hi.eq] at this;rw [List.map_map];exact this
 ·rintro c xs O W W' hS hl ⟨rfl,h8,hf,hle⟩ hD;have HLE:=Aside0.mk hle;clear hle
  gi_wp2
  refine ⟨by simp,.inl ⟨_,_,rfl,run_takeDeferred hD,?_⟩⟩;have hlp:LpK w3.heap.size W' (W'.putObj w3.heap.size (.deferred none)):=LpK.putD (Nat.le_refl _) hD _;have h8':=hlp.keep h8 (fun r e=>by cases e) (fun r e=>by cases e);exact ⟨_,results_c1 rfl _ _ b8 (.slice none 0 0) rfl (load_rows ((z01 h8' 0).trans rfl)),_,[],xs.map (·.1),rfl,⟨[],rfl,⟨rfl,.inl ⟨rfl,rfl⟩⟩,fun q hq=>by cases hq⟩,hS.2.2,.inr ⟨by rw [HMX.out];simpa using HLE.out,rfl⟩,((hS.1.lpk hl).lpk hlp).mono fun i hi=>hi.elim (fun h=>.inl h.1) fun h=>.inr (by omega),hlp.old hf hN⟩
end Go.Proofs.YtcbnhfnnjkkceaaGreat.X
end
section
namespace Go.Proofs.YtcbnhfnnjkkceaaGreat.X
open Go.RowKit Go.Proofs.YtcbnhfnnjkkceaaGreatW.PrintWords Go.Proofs.YtcbnhfnnjkkceaaGreatW.PrintLast Go.Proofs.YtcbnhfnnjkkceaaGreatW.PrintMore
attribute [local go_sem] z1w z1x z23 z26 z1r z1q z1u z1v
mutual
def z0f.j0:Nat→Int→Bool→Option (ByteArray)
 | 0,_,_=>none
 | k+1,x3,x4=>if x4=true then (some (⟨#[]⟩:ByteArray)) else (if x3=1 then (z0f.j1 k x3 (x3 == 1)) else (z0f.j1 k x3 (x3 == 22)))
def z0f.j1:Nat→Int→Bool→Option (ByteArray)
 | 0,_,_=>none
 | k+1,x3,x8=>if x8=true then (some (⟨#[97,105]⟩:ByteArray)) else (if x3=2 then (some (⟨#[97,98]⟩:ByteArray)) else (if x3=17 then (z0f.j2 k x3 (x3 == 17)) else (z0f.j2 k x3 (x3 == 18))))
def z0f.j2:Nat→Int→Bool→Option (ByteArray)
 | 0,_,_=>none
 | k+1,x3,x13=>if x13=true then (some (⟨#[97,98,119,105]⟩:ByteArray)) else (if x3=19 then (some (⟨#[97,98,105]⟩:ByteArray)) else (if x3=20 then (some (⟨#[97]⟩:ByteArray)) else (if x3=21 then (some (⟨#[105]⟩:ByteArray)) else (if x3=23 then (some (⟨#[105]⟩:ByteArray)) else (some (⟨#[97,98,99]⟩:ByteArray))))))
end
def z0f.f (k:Nat) (a0:Int):Option (ByteArray):=if a0=0 then (z0f.j0 k a0 (a0 == 0)) else (if a0=24 then (z0f.j0 k a0 (a0 == 24)) else (z0f.j0 k a0 (a0 == 25)))
theorem z0f.mono_l:∀ k,(∀ y0 y1,LeO (z0f.j0 k y0 y1) (z0f.j0 (k+1) y0 y1))∧(∀ y0 y1,LeO (z0f.j1 k y0 y1) (z0f.j1 (k+1) y0 y1))∧(∀ y0 y1,LeO (z0f.j2 k y0 y1) (z0f.j2 (k+1) y0 y1))
 | 0=>⟨fun _ _ r h=>by simp [z0f.j0] at h,fun _ _ r h=>by simp [z0f.j1] at h,fun _ _ r h=>by simp [z0f.j2] at h⟩
 | k+1=>by
  obtain ⟨ih0,ih1,ih2⟩:=z0f.mono_l k;refine ⟨?_,?_,?_⟩
  ·intro y0 y1;unfold z0f.j0
   repeat' first|exact ih0 _ _|exact ih1 _ _|exact ih2 _ _|exact LeO.none _|refine LeO.ite ?_ ?_|refine LeO.bind ?_ (fun _=>?_)|exact LeO.refl _
  ·intro y0 y1;unfold z0f.j1
   repeat' first|exact ih0 _ _|exact ih1 _ _|exact ih2 _ _|exact LeO.none _|refine LeO.ite ?_ ?_|refine LeO.bind ?_ (fun _=>?_)|exact LeO.refl _
  ·intro y0 y1;unfold z0f.j2
   repeat' first|exact ih0 _ _|exact ih1 _ _|exact ih2 _ _|exact LeO.none _|refine LeO.ite ?_ ?_|refine LeO.bind ?_ (fun _=>?_)|exact LeO.refl _
theorem z0f.mono:∀ a0 k,LeO (z0f.f k a0) (z0f.f (k+1) a0):=by
 intro a0 k;obtain ⟨ih0,ih1,ih2⟩:=z0f.mono_l k;unfold z0f.f
 repeat' first|exact ih0 _ _|exact ih1 _ _|exact ih2 _ _|exact LeO.none _|refine LeO.ite ?_ ?_|refine LeO.bind ?_ (fun _=>?_)|exact LeO.refl _
theorem z0f.calls (k:Nat) (a0:Int) (r:ByteArray) (w:World) (h:z0f.f k a0=some r) :
  Calls Tryz.prog 108 #[.int .i64 a0] w fun e w'=>e=.returned (.string r)∧Drawn0 w w':=by
 have H:(if a0=0 then (z0f.j0 k a0 (a0 == 0)) else (if a0=24 then (z0f.j0 k a0 (a0 == 24)) else (z0f.j0 k a0 (a0 == 25))))=some r:=h;clear h;have HC2:=Aside0.mk H;clear H
 go_enter Tryz.func108,Tryz.ntmps108
 go_upto_if 4 with (fail)
 go_cut [4] (fun v4 wc=>∃ (kq:Nat) (x4_1:Bool),v4=.bool x4_1∧Aside0 (z0f.j0 kq a0 x4_1=some r)∧Aside0 (kq≤k)∧Drawn0 w wc)
 case first =>
  have H:=HC2.out;clear HC2
  by_cases c3:a0=0
  ·rw [if_pos c3] at H;have c3b0:(a0 == 0)=true:=beq_iff_eq.mpr c3;have c3b1:(a0 != 0)=false:=bne_eq_false_iff_eq.mpr c3;clear c3
   (first|rw [c3b0]|(simp only [i64_w,i32_w];rw [c3b0])|skip)
   have H':=Aside0.mk H;clear H;go_wp2
   go_meet
   case rel=>exact ⟨_,((a0 == 0)),(by first|rfl|(simp;done)|(simp [*];done)),H',⟨by first|omega|exact Nat.le_refl _⟩,by repeat (first|exact Drawn0.refl _|apply Drawn0.step)⟩
  ·rw [if_neg c3] at H;have c3b0:(a0 == 0)=false:=beq_eq_false_iff_ne.mpr c3;have c3b1:(a0 != 0)=true:=bne_iff_ne.mpr c3
   (first|rw [c3b0]|(simp only [i64_w,i32_w];rw [c3b0])|skip)
   by_cases c4:a0=24
   ·rw [if_pos c4] at H;have c4b0:(a0 == 24)=true:=beq_iff_eq.mpr c4;have c4b1:(a0 != 24)=false:=bne_eq_false_iff_eq.mpr c4;clear c4;have H':=Aside0.mk H;clear H;go_wp2
    go_meet
    case rel=>exact ⟨_,((a0 == 24)),(by first|rfl|(simp;done)|(simp [*];done)),H',⟨by first|omega|exact Nat.le_refl _⟩,by repeat (first|exact Drawn0.refl _|apply Drawn0.step)⟩
   ·rw [if_neg c4] at H;have c4b0:(a0 == 24)=false:=beq_eq_false_iff_ne.mpr c4;have c4b1:(a0 != 24)=true:=bne_iff_ne.mpr c4;have H':=Aside0.mk H;clear H;go_wp2
    go_meet
    case rel=>exact ⟨_,((a0 == 25)),(by first|rfl|(simp;done)|(simp [*];done)),H',⟨by first|omega|exact Nat.le_refl _⟩,by repeat (first|exact Drawn0.refl _|apply Drawn0.step)⟩
 case rest =>
  clear HC2;obtain ⟨kq,x4_1,rfl,HA,HJ1,⟨mc1,rfl⟩⟩:=hcut;cases kq with
  | zero=>exact absurd HA.out (by simp [z0f.j0])
  | succ kj1 =>
   have H:=HA.out;clear HA;simp only [z0f.j0] at H
   by_cases c5:x4_1=true
   ·subst c5;have H1:(some (⟨#[]⟩:ByteArray))=some r:=(by rw [if_pos rfl] at H;exact H);clear H;have H:=H1;clear H1;obtain rfl:=Option.some.inj H;go_wp2;go_ret
    exact ⟨by first|rfl|(simp;done)|(simp [*];done),by repeat (first|exact Drawn0.refl _|apply Drawn0.step)⟩
   ·replace c5:=Bool.eq_false_iff.mpr c5;subst c5;have H1:(if a0=1 then (z0f.j1 kj1 a0 (a0 == 1)) else (z0f.j1 kj1 a0 (a0 == 22)))=some r:=(by rw [if_neg (show ¬ (false=true) by decide)] at H;exact H);clear H;have H:=H1;clear H1;have HC6:=Aside0.mk H;clear H
    go_upto_if 8 with (fail)
    go_cut [8] (fun v8 wc=>∃ (kq:Nat) (x8_5:Bool),v8=.bool x8_5∧Aside0 (z0f.j1 kq a0 x8_5=some r)∧Aside0 (kq≤kj1)∧Drawn0 w wc)
    case first =>
     have H:=HC6.out;clear HC6
     by_cases c7:a0=1
     ·rw [if_pos c7] at H;have c7b0:(a0 == 1)=true:=beq_iff_eq.mpr c7;have c7b1:(a0 != 1)=false:=bne_eq_false_iff_eq.mpr c7;clear c7
      (first|rw [c7b0]|(simp only [i64_w,i32_w];rw [c7b0])|skip)
      have H':=Aside0.mk H;clear H;go_wp2
      go_meet
      case rel=>exact ⟨_,((a0 == 1)),(by first|rfl|(simp;done)|(simp [*];done)),H',⟨by have:=HJ1.out;first|omega|exact Nat.le_refl _⟩,by repeat (first|exact Drawn0.refl _|apply Drawn0.step)⟩
     ·rw [if_neg c7] at H;have c7b0:(a0 == 1)=false:=beq_eq_false_iff_ne.mpr c7;have c7b1:(a0 != 1)=true:=bne_iff_ne.mpr c7
      (first|rw [c7b0]|(simp only [i64_w,i32_w];rw [c7b0])|skip)
      have H':=Aside0.mk H;clear H;go_wp2
      go_meet
      case rel=>exact ⟨_,((a0 == 22)),(by first|rfl|(simp;done)|(simp [*];done)),H',⟨by have:=HJ1.out;first|omega|exact Nat.le_refl _⟩,by repeat (first|exact Drawn0.refl _|apply Drawn0.step)⟩
    case rest =>
     clear HC6;obtain ⟨kq,x8_5,rfl,HA,HJ5,⟨mc5,rfl⟩⟩:=hcut;cases kq with
     | zero=>exact absurd HA.out (by simp [z0f.j1])
     | succ kj5 =>
      have H:=HA.out;clear HA;simp only [z0f.j1] at H
      by_cases c8:x8_5=true
      ·subst c8;have H1:(some (⟨#[97,105]⟩:ByteArray))=some r:=(by rw [if_pos rfl] at H;exact H);clear H;have H:=H1;clear H1;obtain rfl:=Option.some.inj H;go_wp2;go_ret
       exact ⟨by first|rfl|(simp;done)|(simp [*];done),by repeat (first|exact Drawn0.refl _|apply Drawn0.step)⟩
      ·replace c8:=Bool.eq_false_iff.mpr c8;subst c8;have H1:(if a0=2 then (some (⟨#[97,98]⟩:ByteArray)) else (if a0=17 then (z0f.j2 kj5 a0 (a0 == 17)) else (z0f.j2 kj5 a0 (a0 == 18))))=some r:=(by rw [if_neg (show ¬ (false=true) by decide)] at H;exact H);clear H;have H:=H1;clear H1
       by_cases c9:a0=2
       ·rw [if_pos c9] at H;have c9b0:(a0 == 2)=true:=beq_iff_eq.mpr c9;have c9b1:(a0 != 2)=false:=bne_eq_false_iff_eq.mpr c9;clear c9;obtain rfl:=Option.some.inj H;go_wp2;go_ret
        exact ⟨by first|rfl|(simp;done)|(simp [*];done),by repeat (first|exact Drawn0.refl _|apply Drawn0.step)⟩
       ·rw [if_neg c9] at H;have c9b0:(a0 == 2)=false:=beq_eq_false_iff_ne.mpr c9;have c9b1:(a0 != 2)=true:=bne_iff_ne.mpr c9;have HC10:=Aside0.mk H;clear H
        go_upto_if 13 with (fail)
        go_cut [13] (fun v13 wc=>∃ (kq:Nat) (x13_9:Bool),v13=.bool x13_9∧Aside0 (z0f.j2 kq a0 x13_9=some r)∧Aside0 (kq≤kj5)∧Drawn0 w wc)
        case first =>
         have H:=HC10.out;clear HC10
         by_cases c11:a0=17
         ·rw [if_pos c11] at H;have c11b0:(a0 == 17)=true:=beq_iff_eq.mpr c11;have c11b1:(a0 != 17)=false:=bne_eq_false_iff_eq.mpr c11;clear c11
          (first|rw [c11b0]|(simp only [i64_w,i32_w];rw [c11b0])|skip)
          have H':=Aside0.mk H;clear H;go_wp2
          go_meet
          case rel=>exact ⟨_,((a0 == 17)),(by first|rfl|(simp;done)|(simp [*];done)),H',⟨by have:=HJ1.out;have:=HJ5.out;first|omega|exact Nat.le_refl _⟩,by repeat (first|exact Drawn0.refl _|apply Drawn0.step)⟩
         ·rw [if_neg c11] at H;have c11b0:(a0 == 17)=false:=beq_eq_false_iff_ne.mpr c11;have c11b1:(a0 != 17)=true:=bne_iff_ne.mpr c11
          (first|rw [c11b0]|(simp only [i64_w,i32_w];rw [c11b0])|skip)
          have H':=Aside0.mk H;clear H;go_wp2
          go_meet
          case rel=>exact ⟨_,((a0 == 18)),(by first|rfl|(simp;done)|(simp [*];done)),H',⟨by have:=HJ1.out;have:=HJ5.out;first|omega|exact Nat.le_refl _⟩,by repeat (first|exact Drawn0.refl _|apply Drawn0.step)⟩
        case rest =>
         clear HC10;obtain ⟨kq,x13_9,rfl,HA,HJ9,⟨mc9,rfl⟩⟩:=hcut;cases kq with
         | zero=>exact absurd HA.out (by simp [z0f.j2])
         | succ kj9 =>
          have H:=HA.out;clear HA;simp only [z0f.j2] at H
          by_cases c12:x13_9=true
          ·subst c12;have H1:(some (⟨#[97,98,119,105]⟩:ByteArray))=some r:=(by rw [if_pos rfl] at H;exact H);clear H;have H:=H1;clear H1;obtain rfl:=Option.some.inj H;go_wp2;go_ret
           exact ⟨by first|rfl|(simp;done)|(simp [*];done),by repeat (first|exact Drawn0.refl _|apply Drawn0.step)⟩
          ·replace c12:=Bool.eq_false_iff.mpr c12;subst c12;have H1:(if a0=19 then (some (⟨#[97,98,105]⟩:ByteArray)) else (if a0=20 then (some (⟨#[97]⟩:ByteArray)) else (if a0=21 then (some (⟨#[105]⟩:ByteArray)) else (if a0=23 then (some (⟨#[105]⟩:ByteArray)) else (some (⟨#[97,98,99]⟩:ByteArray))))))=some r:=(by rw [if_neg (show ¬ (false=true) by decide)] at H;exact H);clear H;have H:=H1;clear H1
           by_cases c13:a0=19
           ·rw [if_pos c13] at H;have c13b0:(a0 == 19)=true:=beq_iff_eq.mpr c13;have c13b1:(a0 != 19)=false:=bne_eq_false_iff_eq.mpr c13;clear c13;obtain rfl:=Option.some.inj H;go_wp2;go_ret
            exact ⟨by first|rfl|(simp;done)|(simp [*];done),by repeat (first|exact Drawn0.refl _|apply Drawn0.step)⟩
           ·rw [if_neg c13] at H;have c13b0:(a0 == 19)=false:=beq_eq_false_iff_ne.mpr c13;have c13b1:(a0 != 19)=true:=bne_iff_ne.mpr c13
            by_cases c14:a0=20
            ·rw [if_pos c14] at H;have c14b0:(a0 == 20)=true:=beq_iff_eq.mpr c14;have c14b1:(a0 != 20)=false:=bne_eq_false_iff_eq.mpr c14;clear c14;obtain rfl:=Option.some.inj H;go_wp2;go_ret
             exact ⟨by first|rfl|(simp;done)|(simp [*];done),by repeat (first|exact Drawn0.refl _|apply Drawn0.step)⟩
            ·rw [if_neg c14] at H;have c14b0:(a0 == 20)=false:=beq_eq_false_iff_ne.mpr c14;have c14b1:(a0 != 20)=true:=bne_iff_ne.mpr c14
             by_cases c15:a0=21
             ·rw [if_pos c15] at H;have c15b0:(a0 == 21)=true:=beq_iff_eq.mpr c15;have c15b1:(a0 != 21)=false:=bne_eq_false_iff_eq.mpr c15;clear c15;obtain rfl:=Option.some.inj H;go_wp2;go_ret
              exact ⟨by first|rfl|(simp;done)|(simp [*];done),by repeat (first|exact Drawn0.refl _|apply Drawn0.step)⟩
             ·rw [if_neg c15] at H;have c15b0:(a0 == 21)=false:=beq_eq_false_iff_ne.mpr c15;have c15b1:(a0 != 21)=true:=bne_iff_ne.mpr c15
              by_cases c16:a0=23
              ·rw [if_pos c16] at H;have c16b0:(a0 == 23)=true:=beq_iff_eq.mpr c16;have c16b1:(a0 != 23)=false:=bne_eq_false_iff_eq.mpr c16;clear c16;obtain rfl:=Option.some.inj H;go_wp2;go_ret
               exact ⟨by first|rfl|(simp;done)|(simp [*];done),by repeat (first|exact Drawn0.refl _|apply Drawn0.step)⟩
              ·rw [if_neg c16] at H;have c16b0:(a0 == 23)=false:=beq_eq_false_iff_ne.mpr c16;have c16b1:(a0 != 23)=true:=bne_iff_ne.mpr c16;obtain rfl:=Option.some.inj H;go_wp2;go_ret
               exact ⟨by first|rfl|(simp;done)|(simp [*];done),by repeat (first|exact Drawn0.refl _|apply Drawn0.step)⟩
def z0e.l0:Nat→ByteArray→Int→Int→Option (Bool)
 | 0,_,_,_=>none
 | k+1,x0,x1,x5=>if x5 < (x0.size:Int) then (if 0≤x5 then (if (bt x0 x5)=x1 then (some true) else (z0e.l0 k x0 x1 (wrap64 (x5+1)))) else (none)) else (some false)
def z0e.f (k:Nat) (a0:ByteArray) (a1:Int):Option (Bool):=z0e.l0 k a0 a1 0
theorem z0e.mono_l:∀ k,(∀ y0 y1 y2,LeO (z0e.l0 k y0 y1 y2) (z0e.l0 (k+1) y0 y1 y2))
 | 0=>fun _ _ _ r h=>by simp [z0e.l0] at h
 | k+1=>by
  have ih0:=z0e.mono_l k
  ·intro y0 y1 y2;unfold z0e.l0
   repeat' first|exact ih0 _ _ _|exact LeO.none _|refine LeO.ite ?_ ?_|refine LeO.bind ?_ (fun _=>?_)|exact LeO.refl _
theorem z0e.mono:∀ a0 a1 k,LeO (z0e.f k a0 a1) (z0e.f (k+1) a0 a1):=by
 intro a0 a1 k;have ih0:=z0e.mono_l k;unfold z0e.f
 repeat' first|exact ih0 _ _ _|exact LeO.none _|refine LeO.ite ?_ ?_|refine LeO.bind ?_ (fun _=>?_)|exact LeO.refl _
theorem z0e.calls (k:Nat) (a0:ByteArray) (a1:Int) (r:Bool) (w:World) (h:z0e.f k a0 a1=some r) :
  Calls Tryz.prog 110 #[.string a0,.int .u8 a1] w fun e w'=>e=.returned (.bool r)∧Drawn0 w w':=by
 have H:(z0e.l0 k a0 a1 0)=some r:=h;clear h;have H':=Aside0.mk H;clear H
 go_enter Tryz.func110,Tryz.ntmps110
 go_wp2
 go_loopg [5] k (fun kq v5 w'=>∃ (x5_1:Int),v5=.int .i64 x5_1∧Aside0 (z0e.l0 kq a0 a1 x5_1=some r)∧Aside0 (kq≤k)∧Drawn0 w w')
 case atStart=>exact ⟨(0),(by first|rfl|(simp;done)|(simp [*];done)),H',⟨Nat.le_refl _⟩,by repeat (first|exact Drawn0.refl _|apply Drawn0.step)⟩
 case round =>
  clear H';obtain ⟨x5_1,rfl,HA,HK1,⟨m1,rfl⟩⟩:=hrel;cases gk with
  | zero=>exact absurd HA.out (by simp [z0e.l0])
  | succ k1 =>
   have H:=HA.out;clear HA;simp only [z0e.l0] at H
   by_cases c3:x5_1 < (a0.size:Int)
   ·rw [if_pos c3] at H;have c3b0:decide (x5_1 < (a0.size:Int))=true:=decide_eq_true c3;clear c3
    by_cases c4:0≤x5_1
    ·rw [if_pos c4] at H;have c4b0:decide (0≤x5_1)=true:=decide_eq_true c4;clear c4
     by_cases c6:(bt a0 x5_1)=a1
     ·rw [if_pos c6] at H;have c6b0:((bt a0 x5_1) == a1)=true:=beq_iff_eq.mpr c6;have c6b1:((bt a0 x5_1) != a1)=false:=bne_eq_false_iff_eq.mpr c6;clear c6;obtain rfl:=Option.some.inj H;have p5:0≤(x5_1:Int):=of_decide_eq_true (by assumption);have q5:x5_1 < (a0.size:Int):=of_decide_eq_true (by assumption);have hx5:=bt_at a0 x5_1;replace p5:=eq_true p5;replace q5:=eq_true q5;go_wp2;go_ret
      exact ⟨by first|rfl|(simp;done)|(simp [*];done),by repeat (first|exact Drawn0.refl _|apply Drawn0.step)⟩
     ·rw [if_neg c6] at H;have c6b0:((bt a0 x5_1) == a1)=false:=beq_eq_false_iff_ne.mpr c6;have c6b1:((bt a0 x5_1) != a1)=true:=bne_iff_ne.mpr c6;have H':=Aside0.mk H;clear H;have p5:0≤(x5_1:Int):=of_decide_eq_true (by assumption);have q5:x5_1 < (a0.size:Int):=of_decide_eq_true (by assumption);have hx5:=bt_at a0 x5_1;replace p5:=eq_true p5;replace q5:=eq_true q5;go_wp2
      go_roundg k1
      case measure=>have:=HK1.out;omega
      case rel=>exact ⟨(wrap64 (x5_1+1)),(by first|rfl|(simp;done)|(simp [*];done)),H',⟨by have:=HK1.out;omega⟩,by repeat (first|exact Drawn0.refl _|apply Drawn0.step)⟩
    ·rw [if_neg c4] at H;exact absurd H (by simp)
   ·rw [if_neg c3] at H;have c3b0:decide (x5_1 < (a0.size:Int))=false:=decide_eq_false c3;clear c3;obtain rfl:=Option.some.inj H;go_wp2;go_ret
    exact ⟨by first|rfl|(simp;done)|(simp [*];done),by repeat (first|exact Drawn0.refl _|apply Drawn0.step)⟩
def z0g.f (k:Nat) (a0:ByteArray) (a1:Int) (a2:Int):Option (Bool):=(z0e.f k a0 a1).bind fun t195=>(if t195=true then (if a2 ≥ 0 then (some (decide (a2≤7))) else (some false)) else (some (a2 == 0)))
theorem z0g.mono:∀ a0 a1 a2 k,LeO (z0g.f k a0 a1 a2) (z0g.f (k+1) a0 a1 a2):=by
 intro a0 a1 a2 k;unfold z0g.f
 repeat' first|exact z0e.mono _ _ _|exact LeO.none _|refine LeO.ite ?_ ?_|refine LeO.bind ?_ (fun _=>?_)|exact LeO.refl _
theorem z0g.calls (k:Nat) (a0:ByteArray) (a1:Int) (a2:Int) (r:Bool) (w:World) (h:z0g.f k a0 a1 a2=some r) :
  Calls Tryz.prog 109 #[.string a0,.int .u8 a1,.int .i64 a2] w fun e w'=>e=.returned (.bool r)∧Drawn0 w w':=by
 have H:((z0e.f k a0 a1).bind fun t195=>(if t195=true then (if a2 ≥ 0 then (some (decide (a2≤7))) else (some false)) else (some (a2 == 0))))=some r:=h;clear h;replace H:=Option.bind_eq_some_iff.mp H;obtain ⟨t195,A40,H⟩:=H;skip;have A4:=Aside0.mk A40;clear A40
 by_cases c5:t195=true
 ·subst c5;rw [if_pos rfl] at H
  by_cases c6:a2 ≥ 0
  ·rw [if_pos c6] at H;have c6b0:decide (0≤a2)=true:=decide_eq_true c6;clear c6;obtain rfl:=Option.some.inj H
   go_enter Tryz.func109,Tryz.ntmps109
   go_wp2_with (first|((with_reducible refine z0w (f:=110) rfl ?_);refine z19 (some 9) rfl rfl Tryz.func110 (by kernel_rfl) rfl #[.string a0,.int .u8 a1] rfl (by (try simp only [List.map_toArray,List.map_cons,List.map_nil]);first|done|rfl) ?_;(with_reducible refine (z0e.calls k a0 a1 true _ A4.out).mono ?_);rintro e w' ⟨rfl,⟨nd,rfl⟩⟩;refine ⟨_,rfl,?_⟩))
   go_ret
   exact ⟨by first|rfl|(simp;done)|(simp [*];done),by repeat (first|exact Drawn0.refl _|apply Drawn0.step)⟩
  ·rw [if_neg c6] at H;have c6b0:decide (0≤a2)=false:=decide_eq_false c6;clear c6;obtain rfl:=Option.some.inj H
   go_enter Tryz.func109,Tryz.ntmps109
   go_wp2_with (first|((with_reducible refine z0w (f:=110) rfl ?_);refine z19 (some 9) rfl rfl Tryz.func110 (by kernel_rfl) rfl #[.string a0,.int .u8 a1] rfl (by (try simp only [List.map_toArray,List.map_cons,List.map_nil]);first|done|rfl) ?_;(with_reducible refine (z0e.calls k a0 a1 true _ A4.out).mono ?_);rintro e w' ⟨rfl,⟨nd,rfl⟩⟩;refine ⟨_,rfl,?_⟩))
   go_ret
   exact ⟨by first|rfl|(simp;done)|(simp [*];done),by repeat (first|exact Drawn0.refl _|apply Drawn0.step)⟩
 ·replace c5:=Bool.eq_false_iff.mpr c5;subst c5;rw [if_neg (show ¬ (false=true) by decide)] at H;obtain rfl:=Option.some.inj H
  go_enter Tryz.func109,Tryz.ntmps109
  go_wp2_with (first|((with_reducible refine z0w (f:=110) rfl ?_);refine z19 (some 9) rfl rfl Tryz.func110 (by kernel_rfl) rfl #[.string a0,.int .u8 a1] rfl (by (try simp only [List.map_toArray,List.map_cons,List.map_nil]);first|done|rfl) ?_;(with_reducible refine (z0e.calls k a0 a1 false _ A4.out).mono ?_);rintro e w' ⟨rfl,⟨nd,rfl⟩⟩;refine ⟨_,rfl,?_⟩))
  go_ret
  exact ⟨by first|rfl|(simp;done)|(simp [*];done),by repeat (first|exact Drawn0.refl _|apply Drawn0.step)⟩
end Go.Proofs.YtcbnhfnnjkkceaaGreat.X
end
