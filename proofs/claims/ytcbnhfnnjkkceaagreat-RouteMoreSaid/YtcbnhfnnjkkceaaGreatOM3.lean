/- For the statement of the row : what its proof needs of the text M3. -/
import Derived.Maps.RangeWalk
import Derived.Maps.OwnSet
import Derived.Maps.OwnRows
import Derived.Maps.AppendAt
import Derived.WalkKit
import Derived.Deep.Draws
import Derived.Shelf.Small.Bits
import Derived.Shelf.Strconv.Itoa0
import Derived.Shelf.Sort.Plain
import Derived.Shelf.Slices.Turned
import Derived.Ground.Names2Prog
import Derived.Shelf.Slices.Clone
import Derived.Shelf.Slices.In.SortNone
import Derived.Ground.SlsfProg
import Derived.Shelf.SlSortCmp.Insertion
import Derived.Shelf.SlSortCmp.SiftDown1
import Derived.Shelf.SlSortCmp.HeapSort1
import Derived.Shelf.SlSortCmp.Insertion1
import Derived.Shelf.SlSortCmp.Median1
import Derived.Shelf.SlSortCmp.Pivot1
import Derived.Shelf.SlSortCmp.ReverseRange1
import Derived.Shelf.SlSortCmp.PartialInsertion1
import Derived.Shelf.SlSortCmp.PartitionEqual1
import Derived.Shelf.SlSortCmp.Partition1
import Derived.Test.YtcbnhfnnjkkceaaGreatProg
import Derived.Sort.OwnSortedInts
import Derived.OwnWalk
import Derived.Defers
import Derived.Test.YtcbnhfnnjkkceaaGreatOM1
import Derived.Test.YtcbnhfnnjkkceaaGreatOM2
set_option maxHeartbeats 8000000
set_option maxRecDepth 100000
set_option linter.unusedSectionVars false
set_option linter.unusedSimpArgs false
set_option linter.unusedVariables false

section
namespace Go.Proofs.YtcbnhfnnjkkceaaGreat.Gr
open Go.RowKit Go.Maps
def vR (v:Value):Option (DataW Value × List MemPlace):=some (.held v,[])
def nilS:Value:=.slice none 0 0
def wfI (x:Int):Prop:=(Lit.int .i64 x).wf=true
theorem wfI_of {x:Int} (h:-9223372036854775808≤x∧x≤9223372036854775807):wfI x:=WalkArith.wf_i64 h
theorem key_ne {x y:Int} (h:x≠y):(Lit.int .i64 x)≠Lit.int .i64 y:=fun e=>h (by injection e)
structure MapT (P:Program) (kt st gt:TypeId):Prop where
 hk:P.underlying kt=some (.int .i64)
 hm:P.underlying gt=some (.map kt st)
 hz:∀ w,(zeroValue st).run P w=.ok nilS w
def IMap (P:Program) (kt:TypeId) (w:World) (b n:Nat) (V:Int→Value):Prop :=
 ∃ D:DataW Value,w.ownsMap P kt vR b n D∧∀ x,wfI x→D.atKey (.int .i64 x) (.held nilS)=.held (V x)
def upd {α:Type} (V:Int→α) (a:Int) (v:α):Int→α:=fun x=>if x=a then v else V x
def upd2 {α:Type} (V:Nat→Int→α) (t:Nat) (a:Int) (v:α):Nat→Int→α:=fun s=>if s=t then upd (V t) a v else V s
section
variable {P:Program} {kt st gt:TypeId} {w w1:World} {b n:Nat} {V:Int→Value}
theorem MapT.keyed (M:MapT P kt st gt):Keyed P kt:=int_keyed M.hk
theorem IMap.made (w:World):IMap P kt (w.alloc (.map #[] 0)) w.heap.size 0 (fun _=>nilS) :=
 ⟨.map [],World.ownsMap_made _ _ _ _,fun _ _=>rfl⟩
theorem IMap.lt (h:IMap P kt w b n V):b < w.heap.size:=by
 obtain ⟨D,ho,_⟩:=h;exact ho.lt
theorem IMap.block (h:IMap P kt w b n V):∃ es clock,w.heap[b]?=some (.map es clock):=by
 obtain ⟨D,⟨es,clock,hb,_⟩,_⟩:=h;exact ⟨es,clock,hb⟩
theorem IMap.at_ (h:IMap P kt w b n V) (he:w1.heap[b]?=w.heap[b]?):IMap P kt w1 b n V:=by
 obtain ⟨D,⟨es,clock,hb,r⟩,hv⟩:=h;exact ⟨D,⟨es,clock,he.trans hb,r⟩,hv⟩
theorem IMap.mono (h:IMap P kt w b n V) {m:Nat} (hm:n≤m):IMap P kt w b m V:=by
 obtain ⟨D,ho,hv⟩:=h;exact ⟨D,ho.mono hm,hv⟩
theorem IMap.look (M:MapT P kt st gt) (h:IMap P kt w b n V) {x:Int} (hx:wfI x):(Instr.lookup gt (.map (some b)) (.int .i64 x) false).run P w=.ok (V x) w:=by
 obtain ⟨D,ho,hv⟩:=h;obtain ⟨v,ps,hrun,hr⟩:=ho.lookup M.keyed M.hm (M.hz w) (zd:=.held nilS) (zp:=[]) rfl (keyOf_int_mk M.hk hx);rw [hv x hx] at hr;simp only [vR,Option.some.injEq,Prod.mk.injEq,DataW.held.injEq] at hr;rw [hrun,hr.1]
theorem IMap.store (M:MapT P kt st gt) (h:IMap P kt w b n V) {x:Int} (hx:wfI x) (hn:n < maxLen) (v:Value) :
  ∃ w1,(Instr.mapUpdate gt (.map (some b)) (.int .i64 x) v).run P w=.ok () w1∧IMap P kt w1 b (n+1) (upd V x v)∧w.mapTurned w1 b:=by
 obtain ⟨D,ho,hv⟩:=h;obtain ⟨w1,hrun,ho1,ht⟩:=ho.store M.keyed M.hm hn (keyOf_int_mk M.hk hx) (val:=v) (d:=.held v) (ps:=[]) rfl;refine ⟨w1,hrun,⟨_,ho1,fun y hy=>?_⟩,ht⟩;unfold upd
 by_cases e:y=x
 ·subst e;rw [Maps.atKey_put_same ho.isMap (by simp [WideAt.IsKeyLit]),if_pos rfl]
 ·rw [Maps.atKey_put_other (key_ne e),if_neg e];exact hv y hy
def z2e (P:Program) (kt:TypeId) (w:World) (b r n:Nat) (V:Int→Value) (left:Int→Bool) (cnt:Nat):Prop :=
 ∃ (D:DataW Value) (f:Lit→Bool),w.ranges P kt vR b r n D f cnt∧(∀ x,wfI x→D.atKey (.int .i64 x) (.held nilS)=.held (V x))∧∀ x,wfI x→f (.int .i64 x)=left x
theorem z2e.map {r cnt:Nat} {left:Int→Bool} (h:z2e P kt w b r n V left cnt):IMap P kt w b n V:=by
 obtain ⟨D,f,hr,hv,_⟩:=h;exact ⟨D,hr.owns,hv⟩
theorem z2e.lt {r cnt:Nat} {left:Int→Bool} (h:z2e P kt w b r n V left cnt):r < w.heap.size:=by
 obtain ⟨D,f,hr,_⟩:=h;exact hr.lt
theorem z2e.left_eq {r cnt:Nat} {left:Int→Bool} (h:z2e P kt w b r n V left cnt):w.rangeLeft b r=cnt:=by
 obtain ⟨D,f,hr,_⟩:=h;exact hr.left_eq
theorem z2e.iter {r cnt:Nat} {left:Int→Bool} (h:z2e P kt w b r n V left cnt):∃ since seen c0,w.heap[r]?=some (.mapIter (some b) since seen c0):=by
 obtain ⟨D,f,⟨es,clock,since,seen,c0,_,_,_,_,hr,_⟩,_⟩:=h;exact ⟨since,seen,c0,hr⟩
theorem z2e.kept {r cnt:Nat} {left:Int→Bool} {row:Option Nat} (h:z2e P kt w b r n V left cnt) (hg:w.grownBy w1 row) (hb:some b≠row) (hr':some r≠row):z2e P kt w1 b r n V left cnt:=by
 obtain ⟨D,f,hr,rest⟩:=h;exact ⟨D,f,hr.kept hg hb hr',rest⟩
section
variable {ops:Array Oper} {rest:List Oper} {o:Oper} {a:Act} {Q:Exit→Act→World→Prop}
theorem map_range (M:MapT P kt st gt) (hg:o.guard=none) (m:Operand) (hop:o.op=Op.range gt m) (hm:a.eval m=.map (some b)) (h:IMap P kt w b n V)
  (hK:∀ w' left cnt,z2e P kt w' b w.heap.size n V left cnt→(∀ x,wfI x→left x=false→V x=nilS)→w.grownBy w' none→w'.heap.size=w.heap.size+1→wpList P ops Q rest (a.put o.dst (.pointer (some ⟨w.heap.size,0,none⟩))) w') :
  wpList P ops Q (o :: rest) a w:=by
 obtain ⟨D,ho,hv⟩:=h;refine wpList_range_own w hg m gt hop kt st M.keyed M.hm _ b n D hm ho ?_;intro w' hr hg' hsz;refine hK w' (fun x=>Maps.has D (.int .i64 x)) _ ⟨D,_,hr,hv,fun _ _=>rfl⟩ (fun x hx hl=>?_) hg' hsz;have:=hv x hx;rw [Maps.atKey_of_not_has hl] at this;injection this with this
 exact this.symm
theorem map_next (M:MapT P kt st gt) (hg:o.guard=none) (it:Operand) (hop:o.op=Op.next it false) {r cnt:Nat} {left:Int→Bool} (hit:a.eval it=.pointer (some ⟨r,0,none⟩)) (h:z2e P kt w b r n V left cnt)
  (hDone:(∀ x,wfI x→left x=false)→wpList P ops Q rest (a.put o.dst (.tuple #[.bool false])) w)
  (hMore:∀ (x:Int) (w':World) (cnt':Nat),wfI x→left x=true→z2e P kt w' b r n V (fun z=>left z && !(z == x)) cnt'→cnt' < cnt→w.grownBy w' (some r)→w'.heap.size=w.heap.size →
   (Instr.entry (.pointer (some ⟨r,0,none⟩))).run P w'=.ok (.tuple #[.int .i64 x,V x]) w'→wpList P ops Q rest (a.put o.dst (.tuple #[.bool true,.int .i64 x,V x])) w') :
  wpList P ops Q (o :: rest) a w:=by
 obtain ⟨D,f,hr,hv,hf⟩:=h;refine wpList_next_ranges w hg it hop kt M.keyed vR (Value.int .i64) (id:Value→Value) (fun key kl hkey=>by obtain ⟨x,rfl,_⟩:=Maps.keyOf_int_inv M.hk hkey;exact ⟨x,rfl⟩) (fun v y hy=>⟨v,rfl⟩)
  b r n D f cnt hit hr (fun _ hl=>hDone fun x hx=>by rw [← hf x hx];exact hl _) (fun x c kl y w' cnt' hkey hlk hc hat hrg hlt hgr hsz hen=>?_)
 obtain ⟨x',ex,rfl,hwx⟩:=Maps.keyOf_int_inv M.hk hkey;cases ex;have e1:c=V x:=by
  simp only [vR,id,Option.some.injEq] at hc;have h1:=hat (.held nilS);rw [hv x hwx,← hc] at h1;injection h1 with h1
  exact h1.symm
 subst e1;refine hMore x w' cnt' hwx (by rw [← hf x hwx];exact hlk) ⟨D,_,hrg,hv,fun z hz=>?_⟩ hlt hgr hsz hen;show (f (.int .i64 z) && !(Lit.int .i64 z).sameKey (.int .i64 x))=_;rw [hf z hz]
 by_cases e:z=x
 ·subst e;simp [Lit.sameKey]
 ·simp [Lit.sameKey,e]
end
end
structure Fr (w w':World) (S:Nat→Prop):Prop where
 os:w'.os=w.os
 tape:w'.tape=w.tape
 output:w'.output=w.output
 size:w.heap.size≤w'.heap.size
 block:∀ i,i < w.heap.size→¬ S i→w'.heap[i]?=w.heap[i]?
theorem Fr.refl (w:World) (S:Nat→Prop):Fr w w S:=⟨rfl,rfl,rfl,Nat.le_refl _,fun _ _ _=>rfl⟩
theorem Fr.trans {a b c:World} {S:Nat→Prop} (h:Fr a b S) (k:Fr b c S):Fr a c S :=
 ⟨k.os.trans h.os,k.tape.trans h.tape,k.output.trans h.output,Nat.le_trans h.size k.size,fun i hi hn=>(k.block i (Nat.lt_of_lt_of_le hi h.size) hn).trans (h.block i hi hn)⟩
theorem Fr.of_grown {w w':World} {row:Option Nat} {S:Nat→Prop} (h:w.grownBy w' row) (hS:∀ j,row=some j→j < w.heap.size→S j):Fr w w' S :=
 ⟨h.os,h.tape,h.output,h.size,fun i hi hn=>h.block i hi fun e=>hn (hS i e.symm hi)⟩
theorem Fr.mono {w w':World} {S S':Nat→Prop} (h:Fr w w' S) (hS:∀ i,i < w.heap.size→S i→S' i):Fr w w' S':=⟨h.os,h.tape,h.output,h.size,fun i hi hn=>h.block i hi fun hs=>hn (hS i hi hs)⟩
theorem Fr.below {w0 w w':World} {B:Nat} {S:Nat→Prop} (h:Fr w w' S) (hb:Below B w0 w) (hB:B≤w.heap.size) (hS:∀ i,S i→B≤i):Below B w0 w' :=
 hb.trans ⟨h.os,h.tape,h.output,h.size,fun k hk=>h.block k (by omega) fun hs=>by have:=hS k hs;omega⟩
theorem Fr.of_below {w w':World} {B:Nat} (h:Below B w w'):Fr w w' (fun i=>B≤i):=⟨h.os,h.tape,h.output,h.size,fun i hi hn=>h.block i (by omega)⟩
theorem own_at {w w1:World} {base:Nat} {e:TypeId} {size:Nat} {v:Value} {m:Nat} {xs:List Value} (h:w.ownsRow base e size v m xs) (hb:∀ j,v.ownBlock=some j→w1.heap[j]?=w.heap[j]?):w1.ownsRow base e size v m xs:=by
 obtain ⟨h1,h2⟩:=h;refine ⟨h1,?_⟩
 rcases h2 with h2|⟨g,cap,cur,rfl,hg,hh,r⟩
 ·exact Or.inl h2
 ·exact Or.inr ⟨g,cap,cur,rfl,hg,(hb g rfl).trans hh,r⟩
theorem ints_at {w w1:World} {base:Nat} {e:TypeId} {q:IntKind} {v:Value} {zs:List Int} (h:w.ownsInts base e q v zs) (hb:∀ j,v.ownBlock=some j→w1.heap[j]?=w.heap[j]?):w1.ownsInts base e q v zs:=⟨own_at h.1 hb,h.2⟩
theorem z2i {w:World} {base:Nat} {e:TypeId} {q:IntKind} {v:Value} {zs:List Int} (h:w.ownsInts base e q v zs) {j:Nat} (hj:v.ownBlock=some j):base≤j∧∃ c,w.heap[j]?=some (.cells c e (0,0)):=by
 rcases h.1.2 with ⟨hv,_⟩|⟨g,cap,cur,rfl,hg,hh,_⟩
 ·rw [hv] at hj;simp [Value.ownBlock] at hj
 ·obtain rfl:g=j:=by simpa [Value.ownBlock] using hj
  exact ⟨hg,cur,hh⟩
structure Tab (P:Program) (kt:TypeId) (w:World) (B:Nat) (bs:Nat→Nat) (n:Nat) (V:Nat→Int→Value) (G:Nat→Int→List Int):Prop where
 maps:∀ t,t < 4→IMap P kt w (bs t) n (V t)
 inj:∀ s t,s < 4→t < 4→bs s=bs t→s=t
 lo:∀ t,t < 4→B≤bs t
 rows:∀ t x,t < 4→wfI x→w.ownsInts B kt .i64 (V t x) (G t x)
 apart:∀ s t x y,s < 4→t < 4→wfI x→wfI y→(s≠t∨x≠y)→(V s x).ownBlock=none∨(V s x).ownBlock≠(V t y).ownBlock
 len:∀ t x,t < 4→wfI x→(G t x).length≤n
def Tab.In (bs:Nat→Nat) (V:Nat→Int→Value) (i:Nat):Prop:=(∃ t,t < 4∧bs t=i)∨∃ t x,t < 4∧wfI x∧(V t x).ownBlock=some i
section
variable {P:Program} {kt st gt:TypeId} {w w1:World} {B n:Nat} {bs:Nat→Nat} {V:Nat→Int→Value} {G:Nat→Int→List Int}
theorem Tab.keep (h:Tab P kt w B bs n V G) (hk:∀ i,Tab.In bs V i→w1.heap[i]?=w.heap[i]?):Tab P kt w1 B bs n V G :=
 ⟨fun t ht=>(h.maps t ht).at_ (hk _ (.inl ⟨t,ht,rfl⟩)),h.inj,h.lo,fun t x ht hx=>ints_at (h.rows t x ht hx) fun j hj=>hk j (.inr ⟨t,x,ht,hx,hj⟩),h.apart,h.len⟩
theorem Tab.in_lt (h:Tab P kt w B bs n V G) {i:Nat} (hi:Tab.In bs V i):B≤i∧i < w.heap.size∧((∃ es c,w.heap[i]?=some (.map es c))∨∃ c,w.heap[i]?=some (.cells c kt (0,0))):=by
 rcases hi with ⟨t,ht,rfl⟩|⟨t,x,ht,hx,hj⟩
 ·exact ⟨h.lo t ht,(h.maps t ht).lt,.inl (h.maps t ht).block⟩
 ·obtain ⟨h1,c,h2⟩:=z2i (h.rows t x ht hx) hj;exact ⟨h1,(Array.getElem?_eq_some_iff.1 h2).1,.inr ⟨c,h2⟩⟩
theorem Tab.fr {S:Nat→Prop} (h:Tab P kt w B bs n V G) (hf:Fr w w1 S) (hS:∀ i,S i→¬ Tab.In bs V i):Tab P kt w1 B bs n V G :=
 h.keep fun i hi=>hf.block i (h.in_lt hi).2.1 fun hs=>hS i hs hi
theorem Tab.alloc (h:Tab P kt w B bs n V G) (o:Obj):Tab P kt (w.alloc o) B bs n V G:=h.keep fun i hi=>Below.heap_alloc _ _ _ (h.in_lt hi).2.1
theorem Tab.drew (h:Tab P kt w B bs n V G):Tab P kt w.drew B bs n V G:=h.keep fun _ _=>rfl
theorem Tab.drewN (h:Tab P kt w B bs n V G) (m:Nat):Tab P kt (w.drewN m) B bs n V G:=h.keep fun _ _=>rfl
theorem Tab.mono (h:Tab P kt w B bs n V G) {m:Nat} (hm:n≤m):Tab P kt w B bs m V G :=
 ⟨fun t ht=>(h.maps t ht).mono hm,h.inj,h.lo,h.rows,h.apart,fun t x ht hx=>Nat.le_trans (h.len t x ht hx) hm⟩
theorem Tab.ext {G':Nat→Int→List Int} (h:Tab P kt w B bs n V G) (e:∀ t x,t < 4→wfI x→G t x=G' t x):Tab P kt w B bs n V G' :=
 ⟨h.maps,h.inj,h.lo,fun t x ht hx=>by rw [← e t x ht hx];exact h.rows t x ht hx,h.apart,fun t x ht hx=>by rw [← e t x ht hx];exact h.len t x ht hx⟩
theorem Tab.row_apart (h:Tab P kt w B bs n V G) {t:Nat} {x:Int} (ht:t < 4) (hx:wfI x) {j:Nat} (hj:(V t x).ownBlock=some j):(∀ s,s < 4→bs s≠j)∧∀ s y,s < 4→wfI y→(s≠t∨y≠x)→(V s y).ownBlock≠some j:=by
 obtain ⟨_,c,hc⟩:=z2i (h.rows t x ht hx) hj;refine ⟨fun s hs e=>?_,fun s y hs hy hne e=>?_⟩
 ·obtain ⟨es,cl,hb⟩:=(h.maps s hs).block;rw [e,hc] at hb;cases hb
 ·rcases h.apart s t y x hs ht hy hx hne with h1|h1
  ·rw [h1] at e;cases e
  ·exact h1 (e.trans hj.symm)
theorem z2v {α:Type} (V:Nat→Int→α) (t:Nat) (a:Int) (v:α):upd2 V t a v t a=v:=by simp [upd2,upd]
theorem z29 {α:Type} (V:Nat→Int→α) {t s:Nat} {a x:Int} (v:α) (h:s≠t∨x≠a):upd2 V t a v s x=V s x:=by
 unfold upd2 upd
 by_cases e:s=t
 ·subst e;rw [if_pos rfl,if_neg (by rcases h with h|h;exact absurd rfl h;exact h)]
 ·rw [if_neg e]
theorem Tab.turn (h:Tab P kt w B bs n V G) {t:Nat} {a:Int} (ht:t < 4) (ha:wfI a) {zs:List Int} (hg:w.grownBy w1 (V t a).ownBlock) (ho:w1.ownsInts B kt .i64 (V t a) zs) (hl:zs.length≤n):Tab P kt w1 B bs n V (upd2 G t a zs):=by
 have hmap:∀ s,s < 4→w1.heap[bs s]?=w.heap[bs s]?:=fun s hs=>hg.block _ (h.maps s hs).lt fun e=>(h.row_apart ht ha e.symm).1 s hs rfl
 refine ⟨fun s hs=>(h.maps s hs).at_ (hmap s hs),h.inj,h.lo,fun s x hs hx=>?_,h.apart,fun s x hs hx=>?_⟩
 ·by_cases e:s≠t∨x≠a
  ·rw [z29 _ _ e];refine ints_at (h.rows s x hs hx) fun j hj=>?_
   obtain ⟨_,c,hc⟩:=z2i (h.rows s x hs hx) hj;exact hg.block j (Array.getElem?_eq_some_iff.1 hc).1 fun e'=>(h.row_apart ht ha e'.symm).2 s x hs hx e hj
  ·obtain ⟨rfl,rfl⟩:s=t∧x=a:=by
    constructor
    ·exact Classical.byContradiction fun h1=>e (.inl h1)
    ·exact Classical.byContradiction fun h1=>e (.inr h1)
   rw [z2v];exact ho
 ·by_cases e:s≠t∨x≠a
  ·rw [z29 _ _ e];exact h.len s x hs hx
  ·obtain ⟨rfl,rfl⟩:s=t∧x=a:=by
    constructor
    ·exact Classical.byContradiction fun h1=>e (.inl h1)
    ·exact Classical.byContradiction fun h1=>e (.inr h1)
   rw [z2v];exact hl
theorem Tab.put (M:MapT P kt st gt) (h:Tab P kt w B bs n V G) {t:Nat} {a:Int} (ht:t < 4) (ha:wfI a) (hn:n < maxLen) {v':Value} {zs':List Int} (hg:w.grownBy w1 (V t a).ownBlock) (ho:w1.ownsInts B kt .i64 v' zs') (hl:zs'.length≤n+1)
  (hloc:v'.ownBlock=(V t a).ownBlock∨∃ g,v'.ownBlock=some g∧w.heap.size≤g) :
  ∃ w2,(Instr.mapUpdate gt (.map (some (bs t))) (.int .i64 a) v').run P w1=.ok () w2∧Tab P kt w2 B bs (n+1) (upd2 V t a v') (upd2 G t a zs')∧w1.grownBy w2 (some (bs t)):=by
 have hmap:∀ s,s < 4→w1.heap[bs s]?=w.heap[bs s]?:=fun s hs=>hg.block _ (h.maps s hs).lt fun e=>(h.row_apart ht ha e.symm).1 s hs rfl
 obtain ⟨w2,hrun,hm2,ht2⟩:=((h.maps t ht).at_ (hmap t ht)).store M ha hn v';have hg2:=ht2.grown;have hrow:∀ s x,s < 4→wfI x→(s≠t∨x≠a)→∀ j,(V s x).ownBlock=some j→j < w.heap.size∧v'.ownBlock≠some j:=fun s x hs hx e j hj=>by
  obtain ⟨_,c,hc⟩:=z2i (h.rows s x hs hx) hj;have hlt:=(Array.getElem?_eq_some_iff.1 hc).1;refine ⟨hlt,fun e'=>?_⟩
  rcases hloc with h1|⟨g,h1,h2⟩
  ·rw [h1] at e';exact (h.row_apart ht ha e').2 s x hs hx e hj
  ·rw [h1] at e';cases e';omega
 have hnm:∀ s,s < 4→∀ j c,w1.heap[j]?=some (.cells c kt (0,0))→j≠bs s:=fun s hs j c hj e=>by
  obtain ⟨es,cl,hb⟩:=(h.maps s hs).block;rw [e,hmap s hs,hb] at hj;cases hj
 refine ⟨w2,hrun,⟨fun s hs=>?_,h.inj,h.lo,fun s x hs hx=>?_,fun s r x y hs hr hx hy hne=>?_,fun s x hs hx=>?_⟩,hg2⟩
 ·by_cases e:s=t
  ·subst e;simp only [upd2,if_pos];exact hm2
  ·simp only [upd2,if_neg e];exact ((h.maps s hs).at_ ((hg2.block _ (by rw [show w1.heap.size=w1.heap.size from rfl];have:=(h.maps s hs).lt;have:=hg.size;omega) (fun e'=>e (h.inj s t hs ht (by injection e')))).trans (hmap s hs))).mono (by omega)
 ·by_cases e:s≠t∨x≠a
  ·rw [z29 _ _ e,z29 _ _ e];refine ints_at (h.rows s x hs hx) fun j hj=>?_
   obtain ⟨h1,h2⟩:=hrow s x hs hx e j hj;obtain ⟨_,c,hc⟩:=z2i (h.rows s x hs hx) hj;have e1:=hg.block j h1 fun e'=>(h.row_apart ht ha e'.symm).2 s x hs hx e hj
   refine (hg2.block j (by have:=hg.size;omega) fun e'=>?_).trans e1;exact hnm t ht j c (e1.trans hc) (by injection e')
  ·obtain ⟨rfl,rfl⟩:s=t∧x=a:=by
    constructor
    ·exact Classical.byContradiction fun h1=>e (.inl h1)
    ·exact Classical.byContradiction fun h1=>e (.inr h1)
   rw [z2v,z2v];refine ints_at ho fun j hj=>?_
   obtain ⟨_,c,hc⟩:=z2i ho hj;exact hg2.block j (Array.getElem?_eq_some_iff.1 hc).1 fun e'=>hnm s hs j c hc (by injection e')
 ·by_cases e1:s≠t∨x≠a
  ·rw [z29 _ _ e1]
   by_cases e2:r≠t∨y≠a
   ·rw [z29 _ _ e2];exact h.apart s r x y hs hr hx hy hne
   ·obtain ⟨rfl,rfl⟩:r=t∧y=a:=by
     constructor
     ·exact Classical.byContradiction fun h1=>e2 (.inl h1)
     ·exact Classical.byContradiction fun h1=>e2 (.inr h1)
    rw [z2v];cases hj:(V s x).ownBlock with
    | none=>exact .inl rfl
    | some j=>exact .inr fun e'=>(hrow s x hs hx e1 j hj).2 e'.symm
  ·obtain ⟨rfl,rfl⟩:s=t∧x=a:=by
    constructor
    ·exact Classical.byContradiction fun h1=>e1 (.inl h1)
    ·exact Classical.byContradiction fun h1=>e1 (.inr h1)
   have e2:r≠s∨y≠x:=by
    rcases hne with h1|h1
    ·exact .inl fun e=>h1 e.symm
    ·exact .inr fun e=>h1 e.symm
   rw [z2v,z29 _ _ e2];cases hj:v'.ownBlock with
   | none=>exact .inl rfl
   | some j=>exact .inr fun e'=>(hrow r y hr hy e2 j e'.symm).2 hj
 ·by_cases e:s≠t∨x≠a
  ·rw [z29 _ _ e];exact Nat.le_trans (h.len s x hs hx) (by omega)
  ·obtain ⟨rfl,rfl⟩:s=t∧x=a:=by
    constructor
    ·exact Classical.byContradiction fun h1=>e (.inl h1)
    ·exact Classical.byContradiction fun h1=>e (.inr h1)
   rw [z2v];exact hl
end
end Go.Proofs.YtcbnhfnnjkkceaaGreat.Gr
end
section
namespace Go.Proofs.YtcbnhfnnjkkceaaGreat.X
open Go.RowKit Go.Proofs.YtcbnhfnnjkkceaaGreatW.PrintWords Go.Proofs.YtcbnhfnnjkkceaaGreatW.PrintLast Go.Proofs.YtcbnhfnnjkkceaaGreatW.PrintMore
attribute [local go_sem] z1w z1x z23 z26 z1r z1q z1u z1v
mutual
def z0u.l0:Nat→List Int→List Int→Int→Int→Int→Int→Int→List Int→List Int→List (S79)→Option (List Int × Int)
 | 0,_,_,_,_,_,_,_,_,_,_=>none
 | k+1,x4,x42,x43,x44,xaa,xab,xac,xad,xae,xaf=>if x44 < x43 then (if 0≤x44 then (if x44 < (x42.length:Int) then ((some (([((rd x42 x44) / 256) % 256,(rd x42 x44) % 256]:List Int):List Int)).bind fun y167=>(if x4.length+y167.length < 140737488355328 then (z0u.l0 k (x4 ++ y167) x42 x43 (wrap64 (x44+1)) xaa xab xac xad xae xaf) else (none))) else (none)) else (none)) else ((some (([((xaf.length:Int) / 256) % 256,((xaf.length:Int)) % 256]:List Int):List Int)).bind fun y173=>(if x4.length+y173.length < 140737488355328 then (z0u.l1 k (x4 ++ y173) xaf (xaf.length:Int) 0 xaa xab xac xad xae xaf) else (none)))
def z0u.l1:Nat→List Int→List (S79)→Int→Int→Int→Int→Int→List Int→List Int→List (S79)→Option (List Int × Int)
 | 0,_,_,_,_,_,_,_,_,_,_=>none
 | k+1,x4,x70,x71,x72,xaa,xab,xac,xad,xae,xaf=>if x72 < x71 then (if 0≤x72 then (if x72 < (x70.length:Int) then ((z18.f k ((z0a x70 x72).f0) ((z0a x70 x72).f1) ((z0a x70 x72).f2) ((z0a x70 x72).f3) ((z0a x70 x72).f4)).bind fun bt181=>(if bt181.2=0 then (if x4.length+bt181.1.length < 140737488355328 then (z0u.l1 k (x4 ++ bt181.1) x70 x71 (wrap64 (x72+1)) xaa xab xac xad xae xaf) else (none)) else (some (([]:List Int),bt181.2)))) else (none)) else (none)) else ((z2r.f xaa xab xac xad xae xaf).bind fun t188=>(if t188 ≥ 0 then (some (([]:List Int),7)) else (some (x4,0))))
end
def z0u.f (k:Nat) (a0_0:Int) (a0_1:Int) (a0_2:Int) (l0_3:List Int) (l0_4:List Int) (l0_5:List (S79)):Option (List Int × Int):=(z0n.f k a0_0 a0_1 a0_2 l0_3 l0_4 l0_5).bind fun t147=>(if t147=true then ((some (([82,66,54,52]:List Int):List Int)).bind fun y148=>((some (([1,(a0_0) % 256,(a0_1) % 256,(a0_2) % 256,((l0_3.length:Int)) % 256]:List Int):List Int)).bind fun y151=>(if y148.length+y151.length < 140737488355328 then ((some (y148 ++ y151:List Int)).bind fun y154=>(if y154.length+l0_3.length < 140737488355328 then ((some (y154 ++ l0_3:List Int)).bind fun y157=>((some (([((l0_4.length:Int)) % 256]:List Int):List Int)).bind fun y160=>(if y157.length+y160.length < 140737488355328 then (z0u.l0 k (y157 ++ y160) l0_4 (l0_4.length:Int) 0 a0_0 a0_1 a0_2 l0_3 l0_4 l0_5) else (none)))) else (none))) else (none)))) else (some (([]:List Int),3)))
theorem z0u.mono_l:∀ k,(∀ y0 y1 y2 y3 y4 y5 y6 y7 y8 y9,LeO (z0u.l0 k y0 y1 y2 y3 y4 y5 y6 y7 y8 y9) (z0u.l0 (k+1) y0 y1 y2 y3 y4 y5 y6 y7 y8 y9))∧(∀ y0 y1 y2 y3 y4 y5 y6 y7 y8 y9,LeO (z0u.l1 k y0 y1 y2 y3 y4 y5 y6 y7 y8 y9) (z0u.l1 (k+1) y0 y1 y2 y3 y4 y5 y6 y7 y8 y9))
 | 0=>⟨fun _ _ _ _ _ _ _ _ _ _ r h=>by simp [z0u.l0] at h,fun _ _ _ _ _ _ _ _ _ _ r h=>by simp [z0u.l1] at h⟩
 | k+1=>by
  obtain ⟨ih0,ih1⟩:=z0u.mono_l k;refine ⟨?_,?_⟩
  ·intro y0 y1 y2 y3 y4 y5 y6 y7 y8 y9;unfold z0u.l0
   repeat' first|exact ih0 _ _ _ _ _ _ _ _ _ _|exact ih1 _ _ _ _ _ _ _ _ _ _|exact z18.mono _ _ _ _ _ _|exact z0n.mono _ _ _ _ _ _ _|exact LeO.none _|refine LeO.ite ?_ ?_|refine LeO.bind ?_ (fun _=>?_)|exact LeO.refl _
  ·intro y0 y1 y2 y3 y4 y5 y6 y7 y8 y9;unfold z0u.l1
   repeat' first|exact ih0 _ _ _ _ _ _ _ _ _ _|exact ih1 _ _ _ _ _ _ _ _ _ _|exact z18.mono _ _ _ _ _ _|exact z0n.mono _ _ _ _ _ _ _|exact LeO.none _|refine LeO.ite ?_ ?_|refine LeO.bind ?_ (fun _=>?_)|exact LeO.refl _
theorem z0u.mono:∀ a0 a1 a2 a3 a4 a5 k,LeO (z0u.f k a0 a1 a2 a3 a4 a5) (z0u.f (k+1) a0 a1 a2 a3 a4 a5):=by
 intro a0 a1 a2 a3 a4 a5 k;obtain ⟨ih0,ih1⟩:=z0u.mono_l k;unfold z0u.f
 repeat' first|exact ih0 _ _ _ _ _ _ _ _ _ _|exact ih1 _ _ _ _ _ _ _ _ _ _|exact z18.mono _ _ _ _ _ _|exact z0n.mono _ _ _ _ _ _ _|exact LeO.none _|refine LeO.ite ?_ ?_|refine LeO.bind ?_ (fun _=>?_)|exact LeO.refl _
def z0u.T4:Bool × List (List Nat × List Nat):=(true,[([],[]),([],[]),([1],[1]),([0,2],[0,2]),([],[]),([4],[4]),([5],[5]),([6],[6]),([7],[7]),([3,8,3],[3,8]),([9,9,0,1,2,3,4,5,6,7,8,9],[0,9])])
def z0u.B4:List Nat:=[0,0,2,7,0,16,48,112,240,511,1023]
theorem z0u.tab4:rtab .any (opsOf Tryz.f54 4)=z0u.T4:=by kernel_rfl
theorem z0u.bits4:waitsOk z0u.T4.2 z0u.B4=true:=by kernel_rfl
theorem z0u.calls (k:Nat) (a0_0:Int) (a0_1:Int) (a0_2:Int) (A0_3:Option Addr) (c0_3:Nat) (l0_3:List Int) (A0_4:Option Addr) (c0_4:Nat) (l0_4:List Int) (A0_5:Option Addr) (c0_5:Nat) (l0_5:List (S79)) (r1:List Int) (r2:Int) (w:World) (hr0_3:Kd.C (Kd.int .u8) w A0_3 l0_3.length l0_3) (hc0_3:l0_3.length≤c0_3) (hr0_4:Kd.C (Kd.int .i64) w A0_4 l0_4.length l0_4) (hc0_4:l0_4.length≤c0_4) (hr0_5:Kd.C k79 w A0_5 l0_5.length l0_5) (hc0_5:l0_5.length≤c0_5) (h:z0u.f k a0_0 a0_1 a0_2 l0_3 l0_4 l0_5=some (r1,r2)) :
  Calls Tryz.prog 54 #[.agg #[.int .i64 a0_0,.int .i64 a0_1,.int .i64 a0_2,.slice A0_3 l0_3.length c0_3,.slice A0_4 l0_4.length c0_4,.slice A0_5 l0_5.length c0_5]] w fun e w'=>∃ v0_:Value,e=.returned (.tuple #[v0_,.int .i64 r2])∧Kd.R (Kd.int .u8) 5 w' w.heap.size (fun _=>True) v0_ r1∧Below w.heap.size w w':=by
 have hu26:=Tryz.underlying26;have hu79:=Tryz.underlying79;have HR0_3:=Aside0.mk hr0_3;have HC0_3:=Aside0.mk hc0_3;clear hr0_3 hc0_3;have HR0_4:=Aside0.mk hr0_4;have HC0_4:=Aside0.mk hc0_4;clear hr0_4 hc0_4;have HR0_5:=Aside0.mk hr0_5;have HC0_5:=Aside0.mk hc0_5;clear hr0_5 hc0_5;have HB:=Aside0.mk (Below.refl w.heap.size w);have H:((z0n.f k a0_0 a0_1 a0_2 l0_3 l0_4 l0_5).bind fun t147=>(if t147=true then ((some (([82,66,54,52]:List Int):List Int)).bind fun y148=>((some (([1,(a0_0) % 256,(a0_1) % 256,(a0_2) % 256,((l0_3.length:Int)) % 256]:List Int):List Int)).bind fun y151=>(if y148.length+y151.length < 140737488355328 then ((some (y148 ++ y151:List Int)).bind fun y154=>(if y154.length+l0_3.length < 140737488355328 then ((some (y154 ++ l0_3:List Int)).bind fun y157=>((some (([((l0_4.length:Int)) % 256]:List Int):List Int)).bind fun y160=>(if y157.length+y160.length < 140737488355328 then (z0u.l0 k (y157 ++ y160) l0_4 (l0_4.length:Int) 0 a0_0 a0_1 a0_2 l0_3 l0_4 l0_5) else (none)))) else (none))) else (none)))) else (some (([]:List Int),3))))=some (r1,r2):=h;clear h;replace H:=Option.bind_eq_some_iff.mp H;obtain ⟨t147,A20,H⟩:=H;skip;have A2:=Aside0.mk A20;clear A20
 by_cases c3:t147=true
 ·subst c3;rw [if_pos rfl] at H;obtain ⟨y148,hy148⟩:∃ y_:List Int,y_=(([82,66,54,52]:List Int)):=⟨_,rfl⟩;replace H:((some (([1,(a0_0) % 256,(a0_1) % 256,(a0_2) % 256,((l0_3.length:Int)) % 256]:List Int):List Int)).bind fun y151=>(if y148.length+y151.length < 140737488355328 then ((some (y148 ++ y151:List Int)).bind fun y154=>(if y154.length+l0_3.length < 140737488355328 then ((some (y154 ++ l0_3:List Int)).bind fun y157=>((some (([((l0_4.length:Int)) % 256]:List Int):List Int)).bind fun y160=>(if y157.length+y160.length < 140737488355328 then (z0u.l0 k (y157 ++ y160) l0_4 (l0_4.length:Int) 0 a0_0 a0_1 a0_2 l0_3 l0_4 l0_5) else (none)))) else (none))) else (none)))=some (r1,r2):=by first|(rw [hy148];with_reducible exact H)|(have H2_:=(Option.bind_some _ _).symm.trans H;rw [hy148];with_reducible exact H2_)|(have H2_:=(Option.bind_some _ _).symm.trans H;with_reducible exact H2_)|with_reducible exact H|(rw [hy148];exact H)|exact H
  have Ny148:=Aside0.mk hy148;clear hy148;obtain ⟨y151,hy151⟩:∃ y_:List Int,y_=(([1,(a0_0) % 256,(a0_1) % 256,(a0_2) % 256,((l0_3.length:Int)) % 256]:List Int)):=⟨_,rfl⟩;replace H:(if y148.length+y151.length < 140737488355328 then ((some (y148 ++ y151:List Int)).bind fun y154=>(if y154.length+l0_3.length < 140737488355328 then ((some (y154 ++ l0_3:List Int)).bind fun y157=>((some (([((l0_4.length:Int)) % 256]:List Int):List Int)).bind fun y160=>(if y157.length+y160.length < 140737488355328 then (z0u.l0 k (y157 ++ y160) l0_4 (l0_4.length:Int) 0 a0_0 a0_1 a0_2 l0_3 l0_4 l0_5) else (none)))) else (none))) else (none))=some (r1,r2):=by first|(rw [hy151];with_reducible exact H)|(have H2_:=(Option.bind_some _ _).symm.trans H;rw [hy151];with_reducible exact H2_)|(have H2_:=(Option.bind_some _ _).symm.trans H;with_reducible exact H2_)|with_reducible exact H|(rw [hy151];exact H)|exact H
  have Ny151:=Aside0.mk hy151;clear hy151
  by_cases c4:y148.length+y151.length < 140737488355328
  ·rw [if_pos c4] at H;have LMc4:=Aside0.mk c4;clear c4;obtain ⟨y154,hy154⟩:∃ y_:List Int,y_=(y148 ++ y151):=⟨_,rfl⟩;replace H:(if y154.length+l0_3.length < 140737488355328 then ((some (y154 ++ l0_3:List Int)).bind fun y157=>((some (([((l0_4.length:Int)) % 256]:List Int):List Int)).bind fun y160=>(if y157.length+y160.length < 140737488355328 then (z0u.l0 k (y157 ++ y160) l0_4 (l0_4.length:Int) 0 a0_0 a0_1 a0_2 l0_3 l0_4 l0_5) else (none)))) else (none))=some (r1,r2):=by first|(rw [hy154];with_reducible exact H)|(have H2_:=(Option.bind_some _ _).symm.trans H;rw [hy154];with_reducible exact H2_)|(have H2_:=(Option.bind_some _ _).symm.trans H;with_reducible exact H2_)|with_reducible exact H|(rw [hy154];exact H)|exact H
   have Ny154:=Aside0.mk hy154;clear hy154
   by_cases c5:y154.length+l0_3.length < 140737488355328
   ·rw [if_pos c5] at H;have LMc5:=Aside0.mk c5;clear c5;obtain ⟨y157,hy157⟩:∃ y_:List Int,y_=(y154 ++ l0_3):=⟨_,rfl⟩;replace H:((some (([((l0_4.length:Int)) % 256]:List Int):List Int)).bind fun y160=>(if y157.length+y160.length < 140737488355328 then (z0u.l0 k (y157 ++ y160) l0_4 (l0_4.length:Int) 0 a0_0 a0_1 a0_2 l0_3 l0_4 l0_5) else (none)))=some (r1,r2):=by first|(rw [hy157];with_reducible exact H)|(have H2_:=(Option.bind_some _ _).symm.trans H;rw [hy157];with_reducible exact H2_)|(have H2_:=(Option.bind_some _ _).symm.trans H;with_reducible exact H2_)|with_reducible exact H|(rw [hy157];exact H)|exact H
    have Ny157:=Aside0.mk hy157;clear hy157;obtain ⟨y160,hy160⟩:∃ y_:List Int,y_=(([((l0_4.length:Int)) % 256]:List Int)):=⟨_,rfl⟩;replace H:(if y157.length+y160.length < 140737488355328 then (z0u.l0 k (y157 ++ y160) l0_4 (l0_4.length:Int) 0 a0_0 a0_1 a0_2 l0_3 l0_4 l0_5) else (none))=some (r1,r2):=by first|(rw [hy160];with_reducible exact H)|(have H2_:=(Option.bind_some _ _).symm.trans H;rw [hy160];with_reducible exact H2_)|(have H2_:=(Option.bind_some _ _).symm.trans H;with_reducible exact H2_)|with_reducible exact H|(rw [hy160];exact H)|exact H
    have Ny160:=Aside0.mk hy160;clear hy160
    by_cases c6:y157.length+y160.length < 140737488355328
    ·rw [if_pos c6] at H;have LMc6:=Aside0.mk c6;clear c6;obtain ⟨y163,hy163⟩:∃ y_:List Int,y_=(y157 ++ y160):=⟨_,rfl⟩;replace H:(z0u.l0 k y163 l0_4 (l0_4.length:Int) 0 a0_0 a0_1 a0_2 l0_3 l0_4 l0_5)=some (r1,r2):=by first|(rw [hy163];with_reducible exact H)|(have H2_:=(Option.bind_some _ _).symm.trans H;rw [hy163];with_reducible exact H2_)|(have H2_:=(Option.bind_some _ _).symm.trans H;with_reducible exact H2_)|with_reducible exact H|(rw [hy163];exact H)|exact H
     have Ny163:=Aside0.mk hy163;clear hy163;have H':=Aside0.mk H;clear H
     go_enter Tryz.func54,Tryz.ntmps54
     have kc:=fun (w:World) (C:Array Value) (n c:Nat)=>Lib.run_convert_bytes_const (P:=Tryz.prog) w 22 5 C n c Tryz.underlying22 Tryz.underlying5
     try go_wp2_with (first|((with_reducible refine z15 (N:=1) rfl ?_);refine z1e ?hg (N:=1) ?hd (cs:=#[.int .i64 a0_0,.int .i64 a0_1,.int .i64 a0_2,.slice A0_3 l0_3.length c0_3,.slice A0_4 l0_4.length c0_4,.slice A0_5 l0_5.length c0_5]) (t:=26) ?hr ?_;(case hd=>rfl);(case hg=>rfl);(case hr=>first|(go_simp;done)|(go_simp;rfl));intro gb146 hg w7 hbox hb;have n0_:=Aside0.mk (z0t (by repeat (first|exact HB.out|apply z04|apply z03|apply z05)) hb);have n1_:=Aside0.mk (hbox);have n2_:=Aside0.mk ((by rw [hg];exact (z0o (by repeat (first|exact HB.out|apply z04|apply z03|apply z05))):w.heap.size≤gb146));have n3_:=Aside0.mk ((by rw [hg];exact (z0o (by repeat (first|exact HB.out|apply z04|apply z03|apply z05))):w.heap.size≤gb146));clear HB;have HB:=n0_;have BK146:=n1_;have GW146:=n2_;have GE146:=n3_;clear n0_ n1_ n2_ n3_;clear hb hbox hg;have hcz8_0:w7.cell? ⟨gb146,0,none⟩=some (.int .i64 a0_0):=(z01 BK146.out 0).trans rfl;have hcz8_1:w7.cell? ⟨gb146,1,none⟩=some (.int .i64 a0_1):=(z01 BK146.out 1).trans rfl;have hcz8_2:w7.cell? ⟨gb146,2,none⟩=some (.int .i64 a0_2):=(z01 BK146.out 2).trans rfl;have hcz8_3:w7.cell? ⟨gb146,3,none⟩=some (.slice A0_3 l0_3.length c0_3):=(z01 BK146.out 3).trans rfl;have hcz8_4:w7.cell? ⟨gb146,4,none⟩=some (.slice A0_4 l0_4.length c0_4):=(z01 BK146.out 4).trans rfl;have hcz8_5:w7.cell? ⟨gb146,5,none⟩=some (.slice A0_5 l0_5.length c0_5):=(z01 BK146.out 5).trans rfl;have hfz8_0:=z02 BK146.out 0;have hfz8_1:=z02 BK146.out 1;have hfz8_2:=z02 BK146.out 2;have hfz8_3:=z02 BK146.out 3;have hfz8_4:=z02 BK146.out 4;have hfz8_5:=z02 BK146.out 5)|((with_reducible refine z0w (f:=79) rfl ?_);refine z19 (some 12) rfl rfl Tryz.func79 (by kernel_rfl) rfl #[.agg #[.int .i64 a0_0,.int .i64 a0_1,.int .i64 a0_2,.slice A0_3 l0_3.length c0_3,.slice A0_4 l0_4.length c0_4,.slice A0_5 l0_5.length c0_5]] rfl (by (try simp only [List.map_toArray,List.map_cons,List.map_nil]);first|done|rfl) ?_;(with_reducible refine (z0n.calls k a0_0 a0_1 a0_2 _ _ l0_3 _ _ l0_4 _ _ l0_5 true _ ?side1 ?side2 ?side3 ?side4 ?side5 ?side6 A2.out).mono ?_);(case side1=>repeat (first|exact (Kd.C_below HR0_3.out HB.out)|(with_reducible refine Kd.C_alloc ?_ _)|(with_reducible refine Kd.C_drewN ?_ _)|(with_reducible refine Kd.C_drew ?_)));(case side2=>exact HC0_3.out);(case side3=>repeat (first|exact (Kd.C_below HR0_4.out HB.out)|(with_reducible refine Kd.C_alloc ?_ _)|(with_reducible refine Kd.C_drewN ?_ _)|(with_reducible refine Kd.C_drew ?_)));(case side4=>exact HC0_4.out);(case side5=>repeat (first|exact (Kd.C_below HR0_5.out HB.out)|(with_reducible refine Kd.C_alloc ?_ _)|(with_reducible refine Kd.C_drewN ?_ _)|(with_reducible refine Kd.C_drew ?_)));(case side6=>exact HC0_5.out);rintro e w9 ⟨rfl,hb⟩;refine ⟨_,rfl,?_⟩;have n0_:=Aside0.mk (z0h (g:=gb146) (o:=.cells #[.int .i64 a0_0,.int .i64 a0_1,.int .i64 a0_2,.slice A0_3 l0_3.length c0_3,.slice A0_4 l0_4.length c0_4,.slice A0_5 l0_5.length c0_5] 26 (0,0)) (by (with_reducible repeat (first|refine z08 ?_ _|refine z09 ?_|refine z06 ?_ _));exact BK146.out) hb);have n1_:=Aside0.mk (z0t (by repeat (first|(with_reducible first|exact HB.out|apply z04|apply z03|apply z05|refine z07 ?_ GE146.out)|exact HB.out)) hb);clear BK146;clear HB;have BK146:=n0_;have HB:=n1_;clear n0_ n1_;(try clear hb);(try clear hb2);(try clear hk);(try clear hi))|((with_reducible refine z15 (N:=15) rfl ?_);refine conv_event ?hg (N:=15) ?hd (C:=#[.int .u8 82,.int .u8 66,.int .u8 54,.int .u8 52]) (e:=5) (fr:=(4,5)) (n:=4) (c:=4) ?hr ?_;(case hd=>rfl);(case hg=>rfl);(case hr=>first|(go_simp;done)|(go_simp;rfl));intro gl hgl w10 hbl hb;have n0_:=Aside0.mk (z0h (g:=gb146) (o:=.cells #[.int .i64 a0_0,.int .i64 a0_1,.int .i64 a0_2,.slice A0_3 l0_3.length c0_3,.slice A0_4 l0_4.length c0_4,.slice A0_5 l0_5.length c0_5] 26 (0,0)) (by (with_reducible repeat (first|refine z08 ?_ _|refine z09 ?_|refine z06 ?_ _));exact BK146.out) hb);have n1_:=Aside0.mk (z0t (by repeat (first|(with_reducible first|exact HB.out|apply z04|apply z03|apply z05|refine z07 ?_ GE146.out)|exact HB.out)) hb);have n2_:=Aside0.mk hbl;clear BK146;clear HB;have BK146:=n0_;have HB:=n1_;have BL:=n2_;clear n0_ n1_ n2_;clear hb hbl hgl;have hcz12_0:w10.cell? ⟨gb146,0,none⟩=some (.int .i64 a0_0):=(z01 BK146.out 0).trans rfl;have hcz12_1:w10.cell? ⟨gb146,1,none⟩=some (.int .i64 a0_1):=(z01 BK146.out 1).trans rfl;have hcz12_2:w10.cell? ⟨gb146,2,none⟩=some (.int .i64 a0_2):=(z01 BK146.out 2).trans rfl;have hcz12_3:w10.cell? ⟨gb146,3,none⟩=some (.slice A0_3 l0_3.length c0_3):=(z01 BK146.out 3).trans rfl;have hcz12_4:w10.cell? ⟨gb146,4,none⟩=some (.slice A0_4 l0_4.length c0_4):=(z01 BK146.out 4).trans rfl;have hcz12_5:w10.cell? ⟨gb146,5,none⟩=some (.slice A0_5 l0_5.length c0_5):=(z01 BK146.out 5).trans rfl;have hfz12_0:=z02 BK146.out 0;have hfz12_1:=z02 BK146.out 1;have hfz12_2:=z02 BK146.out 2;have hfz12_3:=z02 BK146.out 3;have hfz12_4:=z02 BK146.out 4;have hfz12_5:=z02 BK146.out 5)|((with_reducible refine z15 (N:=29) rfl ?_);refine Kd.R_lit (Kd.int .u8) _ 5 ?hg (N:=29) ?hd (xs:=([1,(a0_0) % 256,(a0_1) % 256,(a0_2) % 256,((l0_3.length:Int)) % 256]:List Int)) (inner:=[.int .u8 1,.int .u8 ((a0_0) % 256),.int .u8 ((a0_1) % 256),.int .u8 ((a0_2) % 256),.int .u8 (((l0_3.length:Int)) % 256)]) (ok:=fun _=>True) (okp:=fun _=>True) ?hr ?hp (fun _ hk=>hk) trivial (Below.refl _ _) (Nat.le_refl _) (by simp) ?_;(case hd=>rfl);(case hg=>rfl);(case hr=>first|(go_simp;done)|(go_simp;rfl));(case hp=>exact (Reps.one (show Kd.M (Kd.int .u8) _ _ _ 1 [.int .u8 1] from rfl) (Reps.one (show Kd.M (Kd.int .u8) _ _ _ ((a0_0) % 256) [.int .u8 ((a0_0) % 256)] from rfl) (Reps.one (show Kd.M (Kd.int .u8) _ _ _ ((a0_1) % 256) [.int .u8 ((a0_1) % 256)] from rfl) (Reps.one (show Kd.M (Kd.int .u8) _ _ _ ((a0_2) % 256) [.int .u8 ((a0_2) % 256)] from rfl) (Reps.one (show Kd.M (Kd.int .u8) _ _ _ (((l0_3.length:Int)) % 256) [.int .u8 (((l0_3.length:Int)) % 256)] from rfl) (Reps.none _ _)))))));intro v152 w13 ho14 hb hg_ hnew_;clear hg_ hnew_;(first|rw [← Ny151.out] at ho14|(simp only [Int.reduceToNat] at ho14;rw [← Ny151.out] at ho14));have n0_:=Aside0.mk ((hb.block _ (z0s BL.out)).trans BL.out);have n1_:=Aside0.mk (Kd.R_lower ho14 (z0o (by repeat (first|(with_reducible first|exact HB.out|apply z04|apply z03|apply z05|refine z07 ?_ GE146.out)|exact HB.out))));have n2_:=Aside0.mk (z0h (g:=gb146) (o:=.cells #[.int .i64 a0_0,.int .i64 a0_1,.int .i64 a0_2,.slice A0_3 l0_3.length c0_3,.slice A0_4 l0_4.length c0_4,.slice A0_5 l0_5.length c0_5] 26 (0,0)) (by (with_reducible repeat (first|refine z08 ?_ _|refine z09 ?_|refine z06 ?_ _));exact BK146.out) hb);have n3_:=Aside0.mk (z0t (by repeat (first|(with_reducible first|exact HB.out|apply z04|apply z03|apply z05|refine z07 ?_ GE146.out)|exact HB.out)) hb);clear BL;clear BK146;clear HB;have BL:=n0_;have HO153:=n1_;have BK146:=n2_;have HB:=n3_;clear n0_ n1_ n2_ n3_;clear hb ho14;obtain ⟨Ao16,co16,eo16⟩:=Kd.R_slice HO153.out;subst eo16)|((with_reducible refine z2t (b:=.append) (xs:=#[.tmp 15,.tmp 29]) rfl ?_);at_builtin;refine onto_event (w:=w) (g:=gl) rfl (.tmp 15) (.tmp 29) 22 5 rfl Tryz.underlying22 info5 (xs:=y148) (ys:=y151) (cp:=co16) (A:=Ao16) (fr:=(4,5)) ?aS ?aX ?aB ?aP HO153.out HB.out ?aL ?_;(case aS=>(rw [Ny148.out];rfl));(case aX=>rfl);(case aB=>(rw [Ny148.out];exact BL.out));(case aP=>(rw [Ny151.out];simp));(case aL=>have:=LMc4.out;omega);intro v155 w15 ho hu hg hb;rw [← Ny154.out] at ho;have n0_:=Aside0.mk (z2g (g:=gb146) (o:=.cells #[.int .i64 a0_0,.int .i64 a0_1,.int .i64 a0_2,.slice A0_3 l0_3.length c0_3,.slice A0_4 l0_4.length c0_4,.slice A0_5 l0_5.length c0_5] 26 (0,0)) (by (with_reducible repeat (first|refine z08 ?_ _|refine z09 ?_|refine z06 ?_ _));exact BK146.out) hg (by simp));have n1_:=Aside0.mk hu;have n2_:=Aside0.mk hb;have n3_:=Aside0.mk ho;clear BK146;clear HO153;clear HB;clear BL;have BK146:=n0_;have HO153:=n1_;have HB:=n2_;have HO156:=n3_;clear n0_ n1_ n2_ n3_;clear ho hb hg hu;obtain ⟨Ao17,co17,eo17⟩:=Kd.R_slice HO156.out;subst eo17))
     have n0_:=Aside0.mk (Kd.R_drew HO153.out);have n1_:=Aside0.mk (Kd.R_drew HO156.out);have n2_:=Aside0.mk (z09 BK146.out);have n3_:=Aside0.mk (z05 HB.out);clear HO153;clear HO156;clear BK146;clear HB;have HO153:=n0_;have HO156:=n1_;have BK146:=n2_;have HB:=n3_;clear n0_ n1_ n2_ n3_;refine z27 (n:=11) (S:=fun w'=>w'.cell? ⟨gb146,0,none⟩=some (.int .i64 a0_0)∧w'.cell? ⟨gb146,1,none⟩=some (.int .i64 a0_1)∧w'.cell? ⟨gb146,2,none⟩=some (.int .i64 a0_2)∧w'.cell? ⟨gb146,3,none⟩=some (.slice A0_3 l0_3.length c0_3)∧w'.cell? ⟨gb146,4,none⟩=some (.slice A0_4 l0_4.length c0_4)∧w'.cell? ⟨gb146,5,none⟩=some (.slice A0_5 l0_5.length c0_5)) (ds:=[]) #[zf,zf,zf,zf,zf,zf,zf,zf,zf,zf,zf] (by kernel_rfl) rfl rfl ⟨(z01 BK146.out 0).trans rfl,(z01 BK146.out 1).trans rfl,(z01 BK146.out 2).trans rfl,(z01 BK146.out 3).trans rfl,(z01 BK146.out 4).trans rfl,(z01 BK146.out 5).trans rfl⟩ (fun hHeld=>?_);refine with_tabW z0u.tab4 z0u.bits4 (fun HT_ HW_=>?_);generalize w15.drew=w18 at HO153 HO156 BK146 HB hHeld ⊢;refine pure_ (i:=0) (N:=some 31) (v:=?_) (a':=?_) #[zt,zf,zf,zf,zf,zf,zf,zf,zf,zf,zf] rfl rfl (any_of HT_.out (by kernel_rfl)) (fun _ _ _ h=>h) (Or.inl ⟨by rfl,?_⟩) ?_ ?_;rotate_left
     ·intro w';go_simp;with_reducible rfl
     rotate_left
     ·simp only [Act.put,zq1,zq2,zq3,i64_w,i32_w];rfl
     refine pure_ (i:=1) (N:=some 32) (v:=?_) (a':=?_) #[zt,zt,zf,zf,zf,zf,zf,zf,zf,zf,zf] rfl rfl (any_of HT_.out (by kernel_rfl)) (fun _ _ _ h=>h) (Or.inl ⟨by rfl,?_⟩) ?_ ?_;rotate_left
     ·intro w';go_simp;with_reducible rfl
     rotate_left
     ·simp only [Act.put,zq1,zq2,zq3,i64_w,i32_w];rfl
     refine pure_ (i:=4) (N:=some 35) (v:=?_) (a':=?_) #[zt,zt,zf,zf,zt,zf,zf,zf,zf,zf,zf] rfl rfl (any_of HT_.out (by kernel_rfl)) (fun _ _ _ h=>h) (Or.inl ⟨by rfl,?_⟩) ?_ ?_;rotate_left
     ·intro w';go_simp;with_reducible rfl
     rotate_left
     ·simp only [Act.put,zq1,zq2,zq3,i64_w,i32_w];rfl
     refine take_ (i:=2) (N:=some 33) (v:=?_) (a':=?_) #[zt,zt,zt,zf,zt,zf,zf,zf,zf,zf,zf] rfl rfl (take_ofW HT_.out HW_.out (by kernel_rfl)) (fun _ _ _ h=>h) (Or.inl ⟨by rfl,?_⟩) hHeld ?_ ?_;rotate_left
     ·rintro w' ⟨s0,s1,s2,s3,s4,s5⟩;go_simp;with_reducible rfl
     rotate_left
     ·simp only [Act.put,zq1,zq2,zq3,i64_w,i32_w];rfl
     refine take_ (i:=5) (N:=some 36) (v:=?_) (a':=?_) #[zt,zt,zt,zf,zt,zt,zf,zf,zf,zf,zf] rfl rfl (take_ofW HT_.out HW_.out (by kernel_rfl)) (fun _ _ _ h=>h) (Or.inl ⟨by rfl,?_⟩) hHeld ?_ ?_;rotate_left
     ·rintro w' ⟨s0,s1,s2,s3,s4,s5⟩;go_simp;with_reducible rfl
     rotate_left
     ·simp only [Act.put,zq1,zq2,zq3,i64_w,i32_w];rfl
     refine pure_ (i:=6) (N:=some 37) (v:=?_) (a':=?_) #[zt,zt,zt,zf,zt,zt,zt,zf,zf,zf,zf] rfl rfl (any_of HT_.out (by kernel_rfl)) (fun _ _ _ h=>h) (Or.inl ⟨by rfl,?_⟩) ?_ ?_;rotate_left
     ·intro w';go_simp;with_reducible rfl
     rotate_left
     ·simp only [Act.put,zq1,zq2,zq3,i64_w,i32_w];rfl
     refine pure_ (i:=7) (N:=some 38) (v:=?_) (a':=?_) #[zt,zt,zt,zf,zt,zt,zt,zt,zf,zf,zf] rfl rfl (any_of HT_.out (by kernel_rfl)) (fun _ _ _ h=>h) (Or.inl ⟨by rfl,?_⟩) ?_ ?_;rotate_left
     ·intro w';go_simp;with_reducible rfl
     rotate_left
     ·simp only [Act.put,zq1,zq2,zq3,i64_w,i32_w];rfl
     refine join_ (σ:=Value × Value) 2 #[zt,zt,zt,zt,zt,zt,zt,zt,zt,zf,zf] (fun s_=>[(34,s_.1),(39,s_.2)]) (fun s_ w'=>(w'.cell? ⟨gb146,0,none⟩=some (.int .i64 a0_0)∧w'.cell? ⟨gb146,1,none⟩=some (.int .i64 a0_1)∧w'.cell? ⟨gb146,2,none⟩=some (.int .i64 a0_2)∧w'.cell? ⟨gb146,3,none⟩=some (.slice A0_3 l0_3.length c0_3)∧w'.cell? ⟨gb146,4,none⟩=some (.slice A0_4 l0_4.length c0_4)∧w'.cell? ⟨gb146,5,none⟩=some (.slice A0_5 l0_5.length c0_5))∧(Kd.R (Kd.int .u8) 5 w' w.heap.size (fun k_=>some k_≠(s_.1:Value).ownBlock∧some k_≠(s_.2:Value).ownBlock) (.slice Ao16 y151.length co16) y151)∧(Kd.R (Kd.int .u8) 5 w' w.heap.size (fun k_=>some k_≠(.slice Ao16 y151.length co16:Value).ownBlock∧some k_≠(s_.2:Value).ownBlock) s_.1 y157)∧(Kd.R (Kd.int .u8) 5 w' w.heap.size (fun k_=>some k_≠(.slice Ao16 y151.length co16:Value).ownBlock∧some k_≠(s_.1:Value).ownBlock) s_.2 y160)∧(w'.heap[gb146]?=some (.cells #[.int .i64 a0_0,.int .i64 a0_1,.int .i64 a0_2,.slice A0_3 l0_3.length c0_3,.slice A0_4 l0_4.length c0_4,.slice A0_5 l0_5.length c0_5] 26 (0,0)))∧(Below w.heap.size w w')) ?_ ?_;rotate_left
     ·intro hCont;refine two_ (i:=3) (j:=8) (Ni:=some 34) (Nj:=some 39) #[zt,zt,zt,zt,zt,zt,zt,zt,zf,zf,zf] #[zt,zt,zt,zf,zt,zt,zt,zt,zt,zf,zf] rfl rfl rfl rfl (two_of HT_.out (by kernel_rfl)) (by decide) (by decide) (fun K hK=>?_) (fun K hK=>?_)
      ·skip;refine Kd.R_append_rows_step (Kd.int .u8) (w0:=w) w.heap.size (by rfl) (.tmp 31) (.tmp 33) 22 5 (.int .u8 0) 1 rfl Tryz.underlying22 info5 rfl (by decide) (by omega) (.slice Ao17 y154.length co17) y154 l0_3 _ _ _ (fun k_=>some k_≠(.slice Ao16 y151.length co16:Value).ownBlock) (fun _=>False) rfl rfl ?aO ?aR (fun _ _ h=>h) (fun _ h=>h.elim) ?aF ?aB ?aS ?aL ?_
       (case aR=>repeat (first|exact (Kd.C_below HR0_3.out HB.out)|(with_reducible refine Kd.C_alloc ?_ _)|(with_reducible refine Kd.C_drewN ?_ _)|(with_reducible refine Kd.C_drew ?_)))
       (case aB=>exact (by repeat (first|(with_reducible first|exact HB.out|apply z04|apply z03|apply z05|refine z07 ?_ GE146.out)|exact HB.out)))
       (case aF=>exact (fun k_ hk=>Kd.fresh' (Kd.R_lt (by (with_reducible repeat (first|apply Kd.R_alloc|apply Kd.R_drewN|apply Kd.R_drew));exact HO153.out)) k_ hk))
       (case aO=>exact (by (with_reducible repeat (first|apply Kd.R_alloc|apply Kd.R_drewN|apply Kd.R_drew));exact HO156.out))
       (case aS=>exact (z0o (by repeat (first|(with_reducible first|exact HB.out|apply z04|apply z03|apply z05|refine z07 ?_ GE146.out)|exact HB.out))))
       (case aL=>have:=LMc5.out;omega)
       intro v158 w19 ho hb hg hat;rw [← Ny157.out] at ho;have n0_:=Aside0.mk (z2g (g:=gb146) (o:=.cells #[.int .i64 a0_0,.int .i64 a0_1,.int .i64 a0_2,.slice A0_3 l0_3.length c0_3,.slice A0_4 l0_4.length c0_4,.slice A0_5 l0_5.length c0_5] 26 (0,0)) (by (with_reducible repeat (first|refine z08 ?_ _|refine z09 ?_|refine z06 ?_ _));exact BK146.out) hg (Kd.R_ne HO156.out BK146.out (by decide)));have n1_:=Aside0.mk (Kd.R_after (ok:=(fun _=>True)) (by (with_reducible repeat (first|apply Kd.R_alloc|apply Kd.R_drewN|apply Kd.R_drew));exact HO153.out) hg hat);have n2_:=Aside0.mk (hb);have n3_:=Aside0.mk (ho);clear BK146;clear HO153;clear HB;clear HO156;have BK146:=n0_;have HO153:=n1_;have HB:=n2_;have HO159:=n3_;clear n0_ n1_ n2_ n3_;clear ho hb hg hat;refine hK.out _ _ ⟨(z01 BK146.out 0).trans rfl,(z01 BK146.out 1).trans rfl,(z01 BK146.out 2).trans rfl,(z01 BK146.out 3).trans rfl,(z01 BK146.out 4).trans rfl,(z01 BK146.out 5).trans rfl⟩ (fun hHeld=>?_);clear hK K;refine norm_ (a':=?_) ?_ ?_;rotate_left
       ·show Act.put _ (some 34) _=_;simp only [Act.put,zq1,zq2,zq3,i64_w,i32_w];rfl
       refine one_ (i:=8) (N:=some 39) #[zt,zt,zt,zt,zt,zt,zt,zt,zt,zf,zf] rfl rfl (one_of HT_.out (by kernel_rfl)) (by decide) (fun K hK=>?_);refine Kd.R_lit_step (Kd.int .u8) _ 5 ?hg (N:=39) ?hd (xs:=([((l0_4.length:Int)) % 256]:List Int)) (inner:=[.int .u8 (((l0_4.length:Int)) % 256)]) (ok:=fun _=>True) (okp:=fun _=>True) ?hr ?hp (fun _ hk=>hk) trivial (Below.refl _ _) (Nat.le_refl _) (by simp) ?_;(case hd=>rfl);(case hg=>rfl);(case hr=>first|(go_simp;done)|(go_simp;rfl));(case hp=>exact (Reps.one (show Kd.M (Kd.int .u8) _ _ _ (((l0_4.length:Int)) % 256) [.int .u8 (((l0_4.length:Int)) % 256)] from rfl) (Reps.none _ _)));intro v161 w20 ho21 hb hg_ hnew_;clear hg_ hnew_
       (first|rw [← Ny160.out] at ho21|(simp only [Int.reduceToNat] at ho21;rw [← Ny160.out] at ho21))
       have n0_:=Aside0.mk (Kd.R_elder' (by (with_reducible repeat (first|apply Kd.R_alloc|apply Kd.R_drewN|apply Kd.R_drew));exact HO153.out) (Kd.R_base ho21) hb);have n1_:=Aside0.mk (Kd.R_elder' (by (with_reducible repeat (first|apply Kd.R_alloc|apply Kd.R_drewN|apply Kd.R_drew));exact HO159.out) (Kd.R_base ho21) hb);have n2_:=Aside0.mk (Kd.R_lower (Kd.R_new' (Kd.R_new' ho21 (Kd.R_lt (by (with_reducible repeat (first|apply Kd.R_alloc|apply Kd.R_drewN|apply Kd.R_drew));exact HO153.out))) (Kd.R_lt (by (with_reducible repeat (first|apply Kd.R_alloc|apply Kd.R_drewN|apply Kd.R_drew));exact HO159.out))) (z0o (by repeat (first|(with_reducible first|exact HB.out|apply z04|apply z03|apply z05|refine z07 ?_ GE146.out)|exact HB.out))));have n3_:=Aside0.mk (z0h (g:=gb146) (o:=.cells #[.int .i64 a0_0,.int .i64 a0_1,.int .i64 a0_2,.slice A0_3 l0_3.length c0_3,.slice A0_4 l0_4.length c0_4,.slice A0_5 l0_5.length c0_5] 26 (0,0)) (by (with_reducible repeat (first|refine z08 ?_ _|refine z09 ?_|refine z06 ?_ _));exact BK146.out) hb);have n4_:=Aside0.mk (z0t (by repeat (first|(with_reducible first|exact HB.out|apply z04|apply z03|apply z05|refine z07 ?_ GE146.out)|exact HB.out)) hb);clear HO153;clear HO159;clear BK146;clear HB;have HO153:=n0_;have HO159:=n1_;have HO162:=n2_;have BK146:=n3_;have HB:=n4_;clear n0_ n1_ n2_ n3_ n4_;clear hb ho21;refine hK.out _ _ ⟨(z01 BK146.out 0).trans rfl,(z01 BK146.out 1).trans rfl,(z01 BK146.out 2).trans rfl,(z01 BK146.out 3).trans rfl,(z01 BK146.out 4).trans rfl,(z01 BK146.out 5).trans rfl⟩ (fun hHeld=>?_);clear hK K;refine norm_ (a':=?_) ?_ ?_;rotate_left
       ·show Act.put _ (some 39) _=_;simp only [Act.put,zq1,zq2,zq3,i64_w,i32_w];rfl
       exact norm_ (by simp only [z0p,Act.put,zq1,zq2,zq3]) (hCont (v158,v161) _ ⟨hHeld,(by (with_reducible repeat (first|apply Kd.R_alloc|apply Kd.R_drewN|apply Kd.R_drew));exact Kd.R_mono HO153.out (fun _ hk=>⟨hk.1.2,hk.2⟩)),(by (with_reducible repeat (first|apply Kd.R_alloc|apply Kd.R_drewN|apply Kd.R_drew));exact HO159.out),(by (with_reducible repeat (first|apply Kd.R_alloc|apply Kd.R_drewN|apply Kd.R_drew));exact Kd.R_mono HO162.out (fun _ hk=>⟨hk.1.2,hk.2⟩)),(by (with_reducible repeat (first|refine z08 ?_ _|refine z09 ?_|refine z06 ?_ _));exact BK146.out),(by repeat (first|(with_reducible first|exact HB.out|apply z04|apply z03|apply z05|refine z07 ?_ GE146.out)|exact HB.out))⟩)
      ·skip;refine Kd.R_lit_step (Kd.int .u8) _ 5 ?hg (N:=39) ?hd (xs:=([((l0_4.length:Int)) % 256]:List Int)) (inner:=[.int .u8 (((l0_4.length:Int)) % 256)]) (ok:=fun _=>True) (okp:=fun _=>True) ?hr ?hp (fun _ hk=>hk) trivial (Below.refl _ _) (Nat.le_refl _) (by simp) ?_;(case hd=>rfl);(case hg=>rfl);(case hr=>first|(go_simp;done)|(go_simp;rfl));(case hp=>exact (Reps.one (show Kd.M (Kd.int .u8) _ _ _ (((l0_4.length:Int)) % 256) [.int .u8 (((l0_4.length:Int)) % 256)] from rfl) (Reps.none _ _)));intro v161 w19 ho20 hb hg_ hnew_;clear hg_ hnew_
       (first|rw [← Ny160.out] at ho20|(simp only [Int.reduceToNat] at ho20;rw [← Ny160.out] at ho20))
       have n0_:=Aside0.mk (Kd.R_elder' (by (with_reducible repeat (first|apply Kd.R_alloc|apply Kd.R_drewN|apply Kd.R_drew));exact HO153.out) (Kd.R_base ho20) hb);have n1_:=Aside0.mk (Kd.R_elder' (by (with_reducible repeat (first|apply Kd.R_alloc|apply Kd.R_drewN|apply Kd.R_drew));exact HO156.out) (Kd.R_base ho20) hb);have n2_:=Aside0.mk (Kd.R_lower (Kd.R_new' (Kd.R_new' ho20 (Kd.R_lt (by (with_reducible repeat (first|apply Kd.R_alloc|apply Kd.R_drewN|apply Kd.R_drew));exact HO153.out))) (Kd.R_lt (by (with_reducible repeat (first|apply Kd.R_alloc|apply Kd.R_drewN|apply Kd.R_drew));exact HO156.out))) (z0o (by repeat (first|(with_reducible first|exact HB.out|apply z04|apply z03|apply z05|refine z07 ?_ GE146.out)|exact HB.out))));have n3_:=Aside0.mk (z0h (g:=gb146) (o:=.cells #[.int .i64 a0_0,.int .i64 a0_1,.int .i64 a0_2,.slice A0_3 l0_3.length c0_3,.slice A0_4 l0_4.length c0_4,.slice A0_5 l0_5.length c0_5] 26 (0,0)) (by (with_reducible repeat (first|refine z08 ?_ _|refine z09 ?_|refine z06 ?_ _));exact BK146.out) hb);have n4_:=Aside0.mk (z0t (by repeat (first|(with_reducible first|exact HB.out|apply z04|apply z03|apply z05|refine z07 ?_ GE146.out)|exact HB.out)) hb);clear HO153;clear HO156;clear BK146;clear HB;have HO153:=n0_;have HO156:=n1_;have HO162:=n2_;have BK146:=n3_;have HB:=n4_;clear n0_ n1_ n2_ n3_ n4_;clear hb ho20;refine hK.out _ _ ⟨(z01 BK146.out 0).trans rfl,(z01 BK146.out 1).trans rfl,(z01 BK146.out 2).trans rfl,(z01 BK146.out 3).trans rfl,(z01 BK146.out 4).trans rfl,(z01 BK146.out 5).trans rfl⟩ (fun hHeld=>?_);clear hK K;refine norm_ (a':=?_) ?_ ?_;rotate_left
       ·show Act.put _ (some 39) _=_;simp only [Act.put,zq1,zq2,zq3,i64_w,i32_w];rfl
       refine one_ (i:=3) (N:=some 34) #[zt,zt,zt,zt,zt,zt,zt,zt,zt,zf,zf] rfl rfl (one_of HT_.out (by kernel_rfl)) (by decide) (fun K hK=>?_);refine Kd.R_append_rows_step (Kd.int .u8) (w0:=w) w.heap.size (by rfl) (.tmp 31) (.tmp 33) 22 5 (.int .u8 0) 1 rfl Tryz.underlying22 info5 rfl (by decide) (by omega) (.slice Ao17 y154.length co17) y154 l0_3 _ _ _ (fun k_=>some k_≠(.slice Ao16 y151.length co16:Value).ownBlock∧some k_≠(v161:Value).ownBlock) (fun _=>False) rfl rfl ?aO ?aR (fun _ _ h=>h) (fun _ h=>h.elim) ?aF ?aB ?aS ?aL ?_
       (case aR=>repeat (first|exact (Kd.C_below HR0_3.out HB.out)|(with_reducible refine Kd.C_alloc ?_ _)|(with_reducible refine Kd.C_drewN ?_ _)|(with_reducible refine Kd.C_drew ?_)))
       (case aB=>exact (by repeat (first|(with_reducible first|exact HB.out|apply z04|apply z03|apply z05|refine z07 ?_ GE146.out)|exact HB.out)))
       (case aF=>exact (fun k_ hk=>⟨Kd.fresh' (Kd.R_lt (by (with_reducible repeat (first|apply Kd.R_alloc|apply Kd.R_drewN|apply Kd.R_drew));exact HO153.out)) k_ hk,Kd.fresh' (Kd.R_lt (by (with_reducible repeat (first|apply Kd.R_alloc|apply Kd.R_drewN|apply Kd.R_drew));exact HO162.out)) k_ hk⟩))
       (case aO=>exact (by (with_reducible repeat (first|apply Kd.R_alloc|apply Kd.R_drewN|apply Kd.R_drew));exact HO156.out))
       (case aS=>exact (z0o (by repeat (first|(with_reducible first|exact HB.out|apply z04|apply z03|apply z05|refine z07 ?_ GE146.out)|exact HB.out))))
       (case aL=>have:=LMc5.out;omega)
       intro v158 w21 ho hb hg hat;rw [← Ny157.out] at ho;have n0_:=Aside0.mk (z2g (g:=gb146) (o:=.cells #[.int .i64 a0_0,.int .i64 a0_1,.int .i64 a0_2,.slice A0_3 l0_3.length c0_3,.slice A0_4 l0_4.length c0_4,.slice A0_5 l0_5.length c0_5] 26 (0,0)) (by (with_reducible repeat (first|refine z08 ?_ _|refine z09 ?_|refine z06 ?_ _));exact BK146.out) hg (Kd.R_ne HO156.out BK146.out (by decide)));have n1_:=Aside0.mk (Kd.R_after (ok:=(fun k_=>some k_≠(v161:Value).ownBlock)) (by (with_reducible repeat (first|apply Kd.R_alloc|apply Kd.R_drewN|apply Kd.R_drew));exact Kd.R_mono HO153.out (fun _ hk=>⟨hk.2,hk.1.2⟩)) hg hat);have n2_:=Aside0.mk (Kd.R_after (ok:=(fun k_=>some k_≠(.slice Ao16 y151.length co16:Value).ownBlock)) (by (with_reducible repeat (first|apply Kd.R_alloc|apply Kd.R_drewN|apply Kd.R_drew));exact Kd.R_mono HO162.out (fun _ hk=>⟨hk.1.2,hk.2⟩)) hg hat);have n3_:=Aside0.mk (hb);have n4_:=Aside0.mk (ho);clear BK146;clear HO153;clear HO162;clear HB;clear HO156;have BK146:=n0_;have HO153:=n1_;have HO162:=n2_;have HB:=n3_;have HO159:=n4_;clear n0_ n1_ n2_ n3_ n4_;clear ho hb hg hat;refine hK.out _ _ ⟨(z01 BK146.out 0).trans rfl,(z01 BK146.out 1).trans rfl,(z01 BK146.out 2).trans rfl,(z01 BK146.out 3).trans rfl,(z01 BK146.out 4).trans rfl,(z01 BK146.out 5).trans rfl⟩ (fun hHeld=>?_);clear hK K;refine norm_ (a':=?_) ?_ ?_;rotate_left
       ·show Act.put _ (some 34) _=_;simp only [Act.put,zq1,zq2,zq3,i64_w,i32_w];rfl
       exact norm_ (by simp only [z0p,Act.put,zq1,zq2,zq3]) (hCont (v158,v161) _ ⟨hHeld,(by (with_reducible repeat (first|apply Kd.R_alloc|apply Kd.R_drewN|apply Kd.R_drew));exact Kd.R_mono HO153.out (fun _ hk=>⟨hk.2,hk.1⟩)),(by (with_reducible repeat (first|apply Kd.R_alloc|apply Kd.R_drewN|apply Kd.R_drew));exact HO159.out),(by (with_reducible repeat (first|apply Kd.R_alloc|apply Kd.R_drewN|apply Kd.R_drew));exact HO162.out),(by (with_reducible repeat (first|refine z08 ?_ _|refine z09 ?_|refine z06 ?_ _));exact BK146.out),(by repeat (first|(with_reducible first|exact HB.out|apply z04|apply z03|apply z05|refine z07 ?_ GE146.out)|exact HB.out))⟩)
     rintro ⟨v158,v161⟩ w22 ⟨hS_,h0_,h1_,h2_,h3_,h4_⟩;have n0_:Aside0 (Kd.R (Kd.int .u8) 5 w22 w.heap.size (fun k_=>some k_≠(v158:Value).ownBlock∧some k_≠(v161:Value).ownBlock) (.slice Ao16 y151.length co16) y151):=⟨h0_⟩;have n1_:Aside0 (Kd.R (Kd.int .u8) 5 w22 w.heap.size (fun k_=>some k_≠(.slice Ao16 y151.length co16:Value).ownBlock∧some k_≠(v161:Value).ownBlock) v158 y157):=⟨h1_⟩;have n2_:Aside0 (Kd.R (Kd.int .u8) 5 w22 w.heap.size (fun k_=>some k_≠(.slice Ao16 y151.length co16:Value).ownBlock∧some k_≠(v158:Value).ownBlock) v161 y160):=⟨h2_⟩;have n3_:Aside0 (w22.heap[gb146]?=some (.cells #[.int .i64 a0_0,.int .i64 a0_1,.int .i64 a0_2,.slice A0_3 l0_3.length c0_3,.slice A0_4 l0_4.length c0_4,.slice A0_5 l0_5.length c0_5] 26 (0,0))):=⟨h3_⟩;have n4_:Aside0 (Below w.heap.size w w22):=⟨h4_⟩;clear HO153;clear HO156;clear BK146;clear HB;clear h0_ h1_ h2_ h3_ h4_;have HO153:=n0_;have HO159:=n1_;have HO162:=n2_;have BK146:=n3_;have HB:=n4_;clear n0_ n1_ n2_ n3_ n4_;have hHeld:w22.cell? ⟨gb146,0,none⟩=some (.int .i64 a0_0)∧w22.cell? ⟨gb146,1,none⟩=some (.int .i64 a0_1)∧w22.cell? ⟨gb146,2,none⟩=some (.int .i64 a0_2)∧w22.cell? ⟨gb146,3,none⟩=some (.slice A0_3 l0_3.length c0_3)∧w22.cell? ⟨gb146,4,none⟩=some (.slice A0_4 l0_4.length c0_4)∧w22.cell? ⟨gb146,5,none⟩=some (.slice A0_5 l0_5.length c0_5):=hS_;obtain ⟨Ao24,co24,eo24⟩:=Kd.R_slice HO162.out
     (first|subst eo24|(injection eo24 with f1_ f2_ f3_;have f4_:=f1_.symm;have f5_:=f3_.symm;clear f1_ f2_ f3_;subst f4_;subst f5_))
     refine norm_ (a':=?_) ?_ ?_;rotate_left
     ·simp only [z0p,Act.put,zq1,zq2,zq3];rfl
     refine one_ (i:=9) (N:=some 40) #[zt,zt,zt,zt,zt,zt,zt,zt,zt,zt,zf] rfl rfl (one_of HT_.out (by kernel_rfl)) (by decide) (fun K hK=>?_);refine Kd.R_append_rows_step (Kd.int .u8) (w0:=w) w.heap.size (by rfl) (.tmp 34) (.tmp 39) 22 5 (.int .u8 0) 1 rfl Tryz.underlying22 info5 rfl (by decide) (by omega) v158 y157 y160 _ _ _ (fun k_=>some k_≠(.slice Ao16 y151.length co16:Value).ownBlock∧some k_≠(.slice Ao24 y160.length co24:Value).ownBlock) (fun _=>False) rfl rfl ?aO ?aR (fun _ _ h=>h) (fun _ h=>h.elim) ?aF ?aB ?aS ?aL ?_
     (case aR=>repeat (first|exact (Kd.R_reads' HO162.out).2.2|(with_reducible refine Kd.C_alloc ?_ _)|(with_reducible refine Kd.C_drewN ?_ _)|(with_reducible refine Kd.C_drew ?_)))
     (case aB=>exact (by repeat (first|(with_reducible first|exact HB.out|apply z04|apply z03|apply z05|refine z07 ?_ GE146.out)|exact HB.out)))
     (case aF=>exact (fun k_ hk=>⟨Kd.fresh' (Kd.R_lt (by (with_reducible repeat (first|apply Kd.R_alloc|apply Kd.R_drewN|apply Kd.R_drew));exact HO153.out)) k_ hk,Kd.fresh' (Kd.R_lt (by (with_reducible repeat (first|apply Kd.R_alloc|apply Kd.R_drewN|apply Kd.R_drew));exact HO162.out)) k_ hk⟩))
     (case aO=>exact (by (with_reducible repeat (first|apply Kd.R_alloc|apply Kd.R_drewN|apply Kd.R_drew));exact HO159.out))
     (case aS=>exact (z0o (by repeat (first|(with_reducible first|exact HB.out|apply z04|apply z03|apply z05|refine z07 ?_ GE146.out)|exact HB.out))))
     (case aL=>have:=LMc6.out;omega)
     intro v164 w23 ho hb hg hat;rw [← Ny163.out] at ho;have n0_:=Aside0.mk (z2g (g:=gb146) (o:=.cells #[.int .i64 a0_0,.int .i64 a0_1,.int .i64 a0_2,.slice A0_3 l0_3.length c0_3,.slice A0_4 l0_4.length c0_4,.slice A0_5 l0_5.length c0_5] 26 (0,0)) (by (with_reducible repeat (first|refine z08 ?_ _|refine z09 ?_|refine z06 ?_ _));exact BK146.out) hg (Kd.R_ne HO159.out BK146.out (by decide)));have n1_:=Aside0.mk (Kd.R_after (ok:=(fun k_=>some k_≠(.slice Ao24 y160.length co24:Value).ownBlock)) (by (with_reducible repeat (first|apply Kd.R_alloc|apply Kd.R_drewN|apply Kd.R_drew));exact Kd.R_mono HO153.out (fun _ hk=>⟨hk.2,hk.1⟩)) hg hat);have n2_:=Aside0.mk (Kd.R_after (ok:=(fun k_=>some k_≠(.slice Ao16 y151.length co16:Value).ownBlock)) (by (with_reducible repeat (first|apply Kd.R_alloc|apply Kd.R_drewN|apply Kd.R_drew));exact HO162.out) hg hat);have n3_:=Aside0.mk (hb);have n4_:=Aside0.mk (ho);clear BK146;clear HO153;clear HO162;clear HB;clear HO159;have BK146:=n0_;have HO153:=n1_;have HO162:=n2_;have HB:=n3_;have HO165:=n4_;clear n0_ n1_ n2_ n3_ n4_;clear ho hb hg hat;refine hK.out _ _ ⟨(z01 BK146.out 0).trans rfl,(z01 BK146.out 1).trans rfl,(z01 BK146.out 2).trans rfl,(z01 BK146.out 3).trans rfl,(z01 BK146.out 4).trans rfl,(z01 BK146.out 5).trans rfl⟩ (fun hHeld=>?_);clear hK K;refine norm_ (a':=?_) ?_ ?_;rotate_left
     ·show Act.put _ (some 40) _=_;simp only [Act.put,zq1,zq2,zq3,i64_w,i32_w];rfl
     refine pure_ (i:=10) (N:=some 4) (v:=?_) (a':=?_) #[zt,zt,zt,zt,zt,zt,zt,zt,zt,zt,zt] rfl rfl (any_of HT_.out (by kernel_rfl)) (fun _ _ _ h=>h) (Or.inl ⟨by rfl,?_⟩) ?_ ?_;rotate_left
     ·intro w';go_simp;with_reducible rfl
     rotate_left
     ·simp only [Act.put,zq1,zq2,zq3,i64_w,i32_w];rfl
     refine done_ (done_of HT_.out (by kernel_rfl)) ?_;have hcz25_0:w23.cell? ⟨gb146,0,none⟩=some (.int .i64 a0_0):=(z01 BK146.out 0).trans rfl;have hcz25_1:w23.cell? ⟨gb146,1,none⟩=some (.int .i64 a0_1):=(z01 BK146.out 1).trans rfl;have hcz25_2:w23.cell? ⟨gb146,2,none⟩=some (.int .i64 a0_2):=(z01 BK146.out 2).trans rfl;have hcz25_3:w23.cell? ⟨gb146,3,none⟩=some (.slice A0_3 l0_3.length c0_3):=(z01 BK146.out 3).trans rfl;have hcz25_4:w23.cell? ⟨gb146,4,none⟩=some (.slice A0_4 l0_4.length c0_4):=(z01 BK146.out 4).trans rfl;have hcz25_5:w23.cell? ⟨gb146,5,none⟩=some (.slice A0_5 l0_5.length c0_5):=(z01 BK146.out 5).trans rfl;have hfz25_0:=z02 BK146.out 0;have hfz25_1:=z02 BK146.out 1;have hfz25_2:=z02 BK146.out 2;have hfz25_3:=z02 BK146.out 3;have hfz25_4:=z02 BK146.out 4;have hfz25_5:=z02 BK146.out 5;try go_wp2
     go_loopg [4,44] k (fun kq v4 v44 w'=>∃ (x4_1:List Int) (x44_1:Int),v44=.int .i64 x44_1∧Aside0 (z0u.l0 kq x4_1 l0_4 (l0_4.length:Int) x44_1 a0_0 a0_1 a0_2 l0_3 l0_4 l0_5=some (r1,r2))∧Aside0 (kq≤k)∧Aside0 (Kd.R (Kd.int .u8) 5 w' w.heap.size (fun _=>True) v4 x4_1)∧Aside0 (w'.heap[gb146]?=some (.cells #[.int .i64 a0_0,.int .i64 a0_1,.int .i64 a0_2,(.slice A0_3 l0_3.length c0_3),(.slice A0_4 l0_4.length c0_4),(.slice A0_5 l0_5.length c0_5)] 26 (0,0)))∧Aside0 (Below w.heap.size w w'))
     case atStart=>exact ⟨(y163),(0),(by first|rfl|(simp;done)|(simp [*];done)),H',⟨Nat.le_refl _⟩,⟨by (with_reducible repeat (first|apply Kd.R_alloc|apply Kd.R_drewN|apply Kd.R_drew));exact Kd.R_mono HO165.out (fun _ hk=>trivial)⟩,⟨by (with_reducible repeat (first|refine z08 ?_ _|refine z09 ?_|refine z06 ?_ _));exact BK146.out⟩,⟨by repeat (first|(with_reducible first|exact HB.out|apply z04|apply z03|apply z05|refine z07 ?_ GE146.out)|exact HB.out)⟩⟩
     case round =>
      clear H';obtain ⟨x4_1,x44_1,rfl,HA,HK1,HO_4,BK146,HB⟩:=hrel;cases gk with
      | zero=>exact absurd HA.out (by simp [z0u.l0])
      | succ k1 =>
       have H:=HA.out;clear HA;simp only [z0u.l0] at H
       by_cases c26:x44_1 < (l0_4.length:Int)
       ·rw [if_pos c26] at H;have c26b0:decide (x44_1 < (l0_4.length:Int))=true:=decide_eq_true c26;clear c26
        by_cases c27:0≤x44_1
        ·rw [if_pos c27] at H;have c27b0:decide (0≤x44_1)=true:=decide_eq_true c27;clear c27
         by_cases c28:x44_1 < (l0_4.length:Int)
         ·rw [if_pos c28] at H;have c28b0:decide (x44_1 < (l0_4.length:Int))=true:=decide_eq_true c28;clear c28;obtain ⟨y167,hy167⟩:∃ y_:List Int,y_=(([((rd l0_4 x44_1) / 256) % 256,(rd l0_4 x44_1) % 256]:List Int)):=⟨_,rfl⟩;replace H:(if x4_1.length+y167.length < 140737488355328 then (z0u.l0 k1 (x4_1 ++ y167) l0_4 (l0_4.length:Int) (wrap64 (x44_1+1)) a0_0 a0_1 a0_2 l0_3 l0_4 l0_5) else (none))=some (r1,r2):=by first|(rw [hy167];with_reducible exact H)|(have H2_:=(Option.bind_some _ _).symm.trans H;rw [hy167];with_reducible exact H2_)|(have H2_:=(Option.bind_some _ _).symm.trans H;with_reducible exact H2_)|with_reducible exact H|(rw [hy167];exact H)|exact H
          have Ny167:=Aside0.mk hy167;clear hy167
          by_cases c29:x4_1.length+y167.length < 140737488355328
          ·rw [if_pos c29] at H;have LMc29:=Aside0.mk c29;clear c29;obtain ⟨y170,hy170⟩:∃ y_:List Int,y_=(x4_1 ++ y167):=⟨_,rfl⟩;replace H:(z0u.l0 k1 y170 l0_4 (l0_4.length:Int) (wrap64 (x44_1+1)) a0_0 a0_1 a0_2 l0_3 l0_4 l0_5)=some (r1,r2):=by first|(rw [hy170];with_reducible exact H)|(have H2_:=(Option.bind_some _ _).symm.trans H;rw [hy170];with_reducible exact H2_)|(have H2_:=(Option.bind_some _ _).symm.trans H;with_reducible exact H2_)|with_reducible exact H|(rw [hy170];exact H)|exact H
           have Ny170:=Aside0.mk hy170;clear hy170;have H':=Aside0.mk H;clear H;have p166:0≤(x44_1:Int):=of_decide_eq_true (by assumption);have q166:x44_1 < (l0_4.length:Int):=of_decide_eq_true (by assumption);obtain ⟨ad166,e166,hx166_0⟩:=Kd.at_int HR0_4.out x44_1 p166 q166;cases e166;replace hx166_0:=(HB.out.cell (World.block_lt_of_cell? w _ hx166_0)).trans hx166_0;replace p166:=eq_true p166;replace q166:=eq_true q166
           go_wp2_with (first|((with_reducible refine z15 (N:=54) rfl ?_);refine Kd.R_lit (Kd.int .u8) _ 5 ?hg (N:=54) ?hd (xs:=([((rd l0_4 x44_1) / 256) % 256,(rd l0_4 x44_1) % 256]:List Int)) (inner:=[.int .u8 (((rd l0_4 x44_1) / 256) % 256),.int .u8 ((rd l0_4 x44_1) % 256)]) (ok:=fun _=>True) (okp:=fun _=>True) ?hr ?hp (fun _ hk=>hk) trivial (Below.refl _ _) (Nat.le_refl _) (by simp) ?_;(case hd=>rfl);(case hg=>rfl);(case hr=>first|(go_simp;done)|(go_simp;rfl));(case hp=>exact (Reps.one (show Kd.M (Kd.int .u8) _ _ _ (((rd l0_4 x44_1) / 256) % 256) [.int .u8 (((rd l0_4 x44_1) / 256) % 256)] from rfl) (Reps.one (show Kd.M (Kd.int .u8) _ _ _ ((rd l0_4 x44_1) % 256) [.int .u8 ((rd l0_4 x44_1) % 256)] from rfl) (Reps.none _ _))));intro v168 w30 ho31 hb hg_ hnew_;clear hg_ hnew_;(first|rw [← Ny167.out] at ho31|(simp only [Int.reduceToNat] at ho31;rw [← Ny167.out] at ho31));have n0_:=Aside0.mk (Kd.R_elder' (by (with_reducible repeat (first|apply Kd.R_alloc|apply Kd.R_drewN|apply Kd.R_drew));exact HO_4.out) (Kd.R_base ho31) hb);have n1_:=Aside0.mk (Kd.R_lower (Kd.R_new' ho31 (Kd.R_lt (by (with_reducible repeat (first|apply Kd.R_alloc|apply Kd.R_drewN|apply Kd.R_drew));exact HO_4.out))) (z0o (by repeat (first|(with_reducible first|exact HB.out|apply z04|apply z03|apply z05|refine z07 ?_ GE146.out)|exact HB.out))));have n2_:=Aside0.mk (z0h (g:=gb146) (o:=.cells #[.int .i64 a0_0,.int .i64 a0_1,.int .i64 a0_2,.slice A0_3 l0_3.length c0_3,.slice (some ad166) l0_4.length c0_4,.slice A0_5 l0_5.length c0_5] 26 (0,0)) (by (with_reducible repeat (first|refine z08 ?_ _|refine z09 ?_|refine z06 ?_ _));exact BK146.out) hb);have n3_:=Aside0.mk (z0t (by repeat (first|(with_reducible first|exact HB.out|apply z04|apply z03|apply z05|refine z07 ?_ GE146.out)|exact HB.out)) hb);clear HO_4;clear BK146;clear HB;have HO_4:=n0_;have HO169:=n1_;have BK146:=n2_;have HB:=n3_;clear n0_ n1_ n2_ n3_;clear hb ho31;obtain ⟨Ao33,co33,eo33⟩:=Kd.R_slice HO169.out;subst eo33)|((with_reducible refine z2t (b:=.append) (xs:=#[.tmp 48,.tmp 54]) rfl ?_);at_builtin;refine Kd.R_append_rows (Kd.int .u8) (w0:=w) w.heap.size rfl (.tmp 48) (.tmp 54) 22 5 (.int .u8 0) 1 rfl Tryz.underlying22 info5 rfl (by decide) (by omega) u4 x4_1 y167 _ _ _ (fun k_=>some k_≠(.slice Ao33 y167.length co33:Value).ownBlock) (fun _=>False) rfl rfl ?aO ?aR (fun _ _ h=>h) (fun _ h=>h.elim) ?aF ?aB ?aS ?aL ?_;(case aR=>repeat (first|exact (Kd.R_reads' HO169.out).2.2|(with_reducible refine Kd.C_alloc ?_ _)|(with_reducible refine Kd.C_drewN ?_ _)|(with_reducible refine Kd.C_drew ?_)));(case aB=>exact (by repeat (first|(with_reducible first|exact HB.out|apply z04|apply z03|apply z05|refine z07 ?_ GE146.out)|exact HB.out)));(case aF=>exact (fun k_ hk=>Kd.fresh' (Kd.R_lt (by (with_reducible repeat (first|apply Kd.R_alloc|apply Kd.R_drewN|apply Kd.R_drew));exact HO169.out)) k_ hk));(case aO=>exact (by (with_reducible repeat (first|apply Kd.R_alloc|apply Kd.R_drewN|apply Kd.R_drew));exact Kd.R_mono HO_4.out (fun _ hk=>hk.2)));(case aS=>exact (z0o (by repeat (first|(with_reducible first|exact HB.out|apply z04|apply z03|apply z05|refine z07 ?_ GE146.out)|exact HB.out))));(case aL=>have:=LMc29.out;omega);intro v171 w32 ho hb hg hat;rw [← Ny170.out] at ho;have n0_:=Aside0.mk (z2g (g:=gb146) (o:=.cells #[.int .i64 a0_0,.int .i64 a0_1,.int .i64 a0_2,.slice A0_3 l0_3.length c0_3,.slice (some ad166) l0_4.length c0_4,.slice A0_5 l0_5.length c0_5] 26 (0,0)) (by (with_reducible repeat (first|refine z08 ?_ _|refine z09 ?_|refine z06 ?_ _));exact BK146.out) hg (Kd.R_ne HO_4.out BK146.out (by decide)));have n1_:=Aside0.mk (Kd.R_after (ok:=(fun _=>True)) (by (with_reducible repeat (first|apply Kd.R_alloc|apply Kd.R_drewN|apply Kd.R_drew));exact HO169.out) hg hat);have n2_:=Aside0.mk (hb);have n3_:=Aside0.mk (ho);clear BK146;clear HO169;clear HB;clear HO_4;have BK146:=n0_;have HO169:=n1_;have HB:=n2_;have HO172:=n3_;clear n0_ n1_ n2_ n3_;clear ho hb hg hat))
           go_roundg k1
           case measure=>have:=HK1.out;omega
           case rel=>exact ⟨(y170),(wrap64 (x44_1+1)),(by first|rfl|(simp;done)|(simp [*];done)),H',⟨by have:=HK1.out;omega⟩,⟨by (with_reducible repeat (first|apply Kd.R_alloc|apply Kd.R_drewN|apply Kd.R_drew));exact Kd.R_mono HO172.out (fun _ hk=>trivial)⟩,⟨by (with_reducible repeat (first|refine z08 ?_ _|refine z09 ?_|refine z06 ?_ _));exact BK146.out⟩,⟨by repeat (first|(with_reducible first|exact HB.out|apply z04|apply z03|apply z05|refine z07 ?_ GE146.out)|exact HB.out)⟩⟩
          ·rw [if_neg c29] at H;exact absurd H (by simp)
         ·rw [if_neg c28] at H;exact absurd H (by simp)
        ·rw [if_neg c27] at H;exact absurd H (by simp)
       ·rw [if_neg c26] at H;have c26b0:decide (x44_1 < (l0_4.length:Int))=false:=decide_eq_false c26;clear c26;obtain ⟨y173,hy173⟩:∃ y_:List Int,y_=(([((l0_5.length:Int) / 256) % 256,((l0_5.length:Int)) % 256]:List Int)):=⟨_,rfl⟩;replace H:(if x4_1.length+y173.length < 140737488355328 then (z0u.l1 k1 (x4_1 ++ y173) l0_5 (l0_5.length:Int) 0 a0_0 a0_1 a0_2 l0_3 l0_4 l0_5) else (none))=some (r1,r2):=by first|(rw [hy173];with_reducible exact H)|(have H2_:=(Option.bind_some _ _).symm.trans H;rw [hy173];with_reducible exact H2_)|(have H2_:=(Option.bind_some _ _).symm.trans H;with_reducible exact H2_)|with_reducible exact H|(rw [hy173];exact H)|exact H
        have Ny173:=Aside0.mk hy173;clear hy173
        by_cases c34:x4_1.length+y173.length < 140737488355328
        ·rw [if_pos c34] at H;have LMc34:=Aside0.mk c34;clear c34;obtain ⟨y176,hy176⟩:∃ y_:List Int,y_=(x4_1 ++ y173):=⟨_,rfl⟩;replace H:(z0u.l1 k1 y176 l0_5 (l0_5.length:Int) 0 a0_0 a0_1 a0_2 l0_3 l0_4 l0_5)=some (r1,r2):=by first|(rw [hy176];with_reducible exact H)|(have H2_:=(Option.bind_some _ _).symm.trans H;rw [hy176];with_reducible exact H2_)|(have H2_:=(Option.bind_some _ _).symm.trans H;with_reducible exact H2_)|with_reducible exact H|(rw [hy176];exact H)|exact H
         have Ny176:=Aside0.mk hy176;clear hy176;have H':=Aside0.mk H;clear H;have hcz35_0:wr.cell? ⟨gb146,0,none⟩=some (.int .i64 a0_0):=(z01 BK146.out 0).trans rfl;have hcz35_1:wr.cell? ⟨gb146,1,none⟩=some (.int .i64 a0_1):=(z01 BK146.out 1).trans rfl;have hcz35_2:wr.cell? ⟨gb146,2,none⟩=some (.int .i64 a0_2):=(z01 BK146.out 2).trans rfl;have hcz35_3:wr.cell? ⟨gb146,3,none⟩=some (.slice A0_3 l0_3.length c0_3):=(z01 BK146.out 3).trans rfl;have hcz35_4:wr.cell? ⟨gb146,4,none⟩=some (.slice A0_4 l0_4.length c0_4):=(z01 BK146.out 4).trans rfl;have hcz35_5:wr.cell? ⟨gb146,5,none⟩=some (.slice A0_5 l0_5.length c0_5):=(z01 BK146.out 5).trans rfl;have hfz35_0:=z02 BK146.out 0;have hfz35_1:=z02 BK146.out 1;have hfz35_2:=z02 BK146.out 2;have hfz35_3:=z02 BK146.out 3;have hfz35_4:=z02 BK146.out 4;have hfz35_5:=z02 BK146.out 5
         go_wp2_with (first|((with_reducible refine z15 (N:=67) rfl ?_);refine Kd.R_lit (Kd.int .u8) _ 5 ?hg (N:=67) ?hd (xs:=([((l0_5.length:Int) / 256) % 256,((l0_5.length:Int)) % 256]:List Int)) (inner:=[.int .u8 (((l0_5.length:Int) / 256) % 256),.int .u8 (((l0_5.length:Int)) % 256)]) (ok:=fun _=>True) (okp:=fun _=>True) ?hr ?hp (fun _ hk=>hk) trivial (Below.refl _ _) (Nat.le_refl _) (by simp) ?_;(case hd=>rfl);(case hg=>rfl);(case hr=>first|(go_simp;done)|(go_simp;rfl));(case hp=>exact (Reps.one (show Kd.M (Kd.int .u8) _ _ _ (((l0_5.length:Int) / 256) % 256) [.int .u8 (((l0_5.length:Int) / 256) % 256)] from rfl) (Reps.one (show Kd.M (Kd.int .u8) _ _ _ (((l0_5.length:Int)) % 256) [.int .u8 (((l0_5.length:Int)) % 256)] from rfl) (Reps.none _ _))));intro v174 w36 ho37 hb hg_ hnew_;clear hg_ hnew_;(first|rw [← Ny173.out] at ho37|(simp only [Int.reduceToNat] at ho37;rw [← Ny173.out] at ho37));have n0_:=Aside0.mk (Kd.R_elder' (by (with_reducible repeat (first|apply Kd.R_alloc|apply Kd.R_drewN|apply Kd.R_drew));exact HO_4.out) (Kd.R_base ho37) hb);have n1_:=Aside0.mk (Kd.R_lower (Kd.R_new' ho37 (Kd.R_lt (by (with_reducible repeat (first|apply Kd.R_alloc|apply Kd.R_drewN|apply Kd.R_drew));exact HO_4.out))) (z0o (by repeat (first|(with_reducible first|exact HB.out|apply z04|apply z03|apply z05|refine z07 ?_ GE146.out)|exact HB.out))));have n2_:=Aside0.mk (z0h (g:=gb146) (o:=.cells #[.int .i64 a0_0,.int .i64 a0_1,.int .i64 a0_2,.slice A0_3 l0_3.length c0_3,.slice A0_4 l0_4.length c0_4,.slice A0_5 l0_5.length c0_5] 26 (0,0)) (by (with_reducible repeat (first|refine z08 ?_ _|refine z09 ?_|refine z06 ?_ _));exact BK146.out) hb);have n3_:=Aside0.mk (z0t (by repeat (first|(with_reducible first|exact HB.out|apply z04|apply z03|apply z05|refine z07 ?_ GE146.out)|exact HB.out)) hb);clear HO_4;clear BK146;clear HB;have HO_4:=n0_;have HO175:=n1_;have BK146:=n2_;have HB:=n3_;clear n0_ n1_ n2_ n3_;clear hb ho37;obtain ⟨Ao39,co39,eo39⟩:=Kd.R_slice HO175.out;subst eo39)|((with_reducible refine z2t (b:=.append) (xs:=#[.tmp 57,.tmp 67]) rfl ?_);at_builtin;refine Kd.R_append_rows (Kd.int .u8) (w0:=w) w.heap.size rfl (.tmp 57) (.tmp 67) 22 5 (.int .u8 0) 1 rfl Tryz.underlying22 info5 rfl (by decide) (by omega) u4 x4_1 y173 _ _ _ (fun k_=>some k_≠(.slice Ao39 y173.length co39:Value).ownBlock) (fun _=>False) rfl rfl ?aO ?aR (fun _ _ h=>h) (fun _ h=>h.elim) ?aF ?aB ?aS ?aL ?_;(case aR=>repeat (first|exact (Kd.R_reads' HO175.out).2.2|(with_reducible refine Kd.C_alloc ?_ _)|(with_reducible refine Kd.C_drewN ?_ _)|(with_reducible refine Kd.C_drew ?_)));(case aB=>exact (by repeat (first|(with_reducible first|exact HB.out|apply z04|apply z03|apply z05|refine z07 ?_ GE146.out)|exact HB.out)));(case aF=>exact (fun k_ hk=>Kd.fresh' (Kd.R_lt (by (with_reducible repeat (first|apply Kd.R_alloc|apply Kd.R_drewN|apply Kd.R_drew));exact HO175.out)) k_ hk));(case aO=>exact (by (with_reducible repeat (first|apply Kd.R_alloc|apply Kd.R_drewN|apply Kd.R_drew));exact Kd.R_mono HO_4.out (fun _ hk=>hk.2)));(case aS=>exact (z0o (by repeat (first|(with_reducible first|exact HB.out|apply z04|apply z03|apply z05|refine z07 ?_ GE146.out)|exact HB.out))));(case aL=>have:=LMc34.out;omega);intro v177 w38 ho hb hg hat;rw [← Ny176.out] at ho;have n0_:=Aside0.mk (z2g (g:=gb146) (o:=.cells #[.int .i64 a0_0,.int .i64 a0_1,.int .i64 a0_2,.slice A0_3 l0_3.length c0_3,.slice A0_4 l0_4.length c0_4,.slice A0_5 l0_5.length c0_5] 26 (0,0)) (by (with_reducible repeat (first|refine z08 ?_ _|refine z09 ?_|refine z06 ?_ _));exact BK146.out) hg (Kd.R_ne HO_4.out BK146.out (by decide)));have n1_:=Aside0.mk (Kd.R_after (ok:=(fun _=>True)) (by (with_reducible repeat (first|apply Kd.R_alloc|apply Kd.R_drewN|apply Kd.R_drew));exact HO175.out) hg hat);have n2_:=Aside0.mk (hb);have n3_:=Aside0.mk (ho);clear BK146;clear HO175;clear HB;clear HO_4;have BK146:=n0_;have HO175:=n1_;have HB:=n2_;have HO178:=n3_;clear n0_ n1_ n2_ n3_;clear ho hb hg hat;have hcz40_0:w38.cell? ⟨gb146,0,none⟩=some (.int .i64 a0_0):=(z01 BK146.out 0).trans rfl;have hcz40_1:w38.cell? ⟨gb146,1,none⟩=some (.int .i64 a0_1):=(z01 BK146.out 1).trans rfl;have hcz40_2:w38.cell? ⟨gb146,2,none⟩=some (.int .i64 a0_2):=(z01 BK146.out 2).trans rfl;have hcz40_3:w38.cell? ⟨gb146,3,none⟩=some (.slice A0_3 l0_3.length c0_3):=(z01 BK146.out 3).trans rfl;have hcz40_4:w38.cell? ⟨gb146,4,none⟩=some (.slice A0_4 l0_4.length c0_4):=(z01 BK146.out 4).trans rfl;have hcz40_5:w38.cell? ⟨gb146,5,none⟩=some (.slice A0_5 l0_5.length c0_5):=(z01 BK146.out 5).trans rfl;have hfz40_0:=z02 BK146.out 0;have hfz40_1:=z02 BK146.out 1;have hfz40_2:=z02 BK146.out 2;have hfz40_3:=z02 BK146.out 3;have hfz40_4:=z02 BK146.out 4;have hfz40_5:=z02 BK146.out 5))
         go_loopg [4,72] k1 (fun kq v4 v72 w'=>∃ (x4_2:List Int) (x72_2:Int),v72=.int .i64 x72_2∧Aside0 (z0u.l1 kq x4_2 l0_5 (l0_5.length:Int) x72_2 a0_0 a0_1 a0_2 l0_3 l0_4 l0_5=some (r1,r2))∧Aside0 (kq≤k1)∧Aside0 (Kd.R (Kd.int .u8) 5 w' w.heap.size (fun _=>True) v4 x4_2)∧Aside0 (w'.heap[gb146]?=some (.cells #[.int .i64 a0_0,.int .i64 a0_1,.int .i64 a0_2,(.slice A0_3 l0_3.length c0_3),(.slice A0_4 l0_4.length c0_4),(.slice A0_5 l0_5.length c0_5)] 26 (0,0)))∧Aside0 (Below w.heap.size w w'))
         case atStart=>exact ⟨(y176),(0),(by first|rfl|(simp;done)|(simp [*];done)),H',⟨Nat.le_refl _⟩,⟨by (with_reducible repeat (first|apply Kd.R_alloc|apply Kd.R_drewN|apply Kd.R_drew));exact Kd.R_mono HO178.out (fun _ hk=>trivial)⟩,⟨by (with_reducible repeat (first|refine z08 ?_ _|refine z09 ?_|refine z06 ?_ _));exact BK146.out⟩,⟨by repeat (first|(with_reducible first|exact HB.out|apply z04|apply z03|apply z05|refine z07 ?_ GE146.out)|exact HB.out)⟩⟩
         case round =>
          clear H';obtain ⟨x4_2,x72_2,rfl,HA,HK2,HO_4,BK146,HB⟩:=hrel;cases gk with
          | zero=>exact absurd HA.out (by simp [z0u.l1])
          | succ k2 =>
           have H:=HA.out;clear HA;simp only [z0u.l1] at H
           by_cases c41:x72_2 < (l0_5.length:Int)
           ·rw [if_pos c41] at H;have c41b0:decide (x72_2 < (l0_5.length:Int))=true:=decide_eq_true c41;clear c41
            by_cases c42:0≤x72_2
            ·rw [if_pos c42] at H;have c42b0:decide (0≤x72_2)=true:=decide_eq_true c42;clear c42
             by_cases c43:x72_2 < (l0_5.length:Int)
             ·rw [if_pos c43] at H;have c43b0:decide (x72_2 < (l0_5.length:Int))=true:=decide_eq_true c43;clear c43;replace H:=Option.bind_eq_some_iff.mp H;obtain ⟨⟨t181,t184⟩,A440,H⟩:=H;skip;have A44:=Aside0.mk A440;clear A440
              by_cases c45:t184=0
              ·rw [if_pos c45] at H;have c45b0:(t184 == 0)=true:=beq_iff_eq.mpr c45;have c45b1:(t184 != 0)=false:=bne_eq_false_iff_eq.mpr c45;clear c45
               by_cases c46:x4_2.length+t181.length < 140737488355328
               ·rw [if_pos c46] at H;have LMc46:=Aside0.mk c46;clear c46;obtain ⟨y185,hy185⟩:∃ y_:List Int,y_=(x4_2 ++ t181):=⟨_,rfl⟩;replace H:(z0u.l1 k2 y185 l0_5 (l0_5.length:Int) (wrap64 (x72_2+1)) a0_0 a0_1 a0_2 l0_3 l0_4 l0_5)=some (r1,r2):=by first|(rw [hy185];with_reducible exact H)|(have H2_:=(Option.bind_some _ _).symm.trans H;rw [hy185];with_reducible exact H2_)|(have H2_:=(Option.bind_some _ _).symm.trans H;with_reducible exact H2_)|with_reducible exact H|(rw [hy185];exact H)|exact H
                have Ny185:=Aside0.mk hy185;clear hy185;have H':=Aside0.mk H;clear H;have p179:0≤(x72_2:Int):=of_decide_eq_true (by assumption);have q179:x72_2 < (l0_5.length:Int):=of_decide_eq_true (by assumption);obtain ⟨ad179,e179,hx179_0,hx179_1,hx179_2,hx179_3,hx179_4⟩:=at_T79 HR0_5.out x72_2 p179 q179;cases e179;replace hx179_0:=(HB.out.cell (World.block_lt_of_cell? w _ hx179_0)).trans hx179_0;replace hx179_1:=(HB.out.cell (World.block_lt_of_cell? w _ hx179_1)).trans hx179_1;replace hx179_2:=(HB.out.cell (World.block_lt_of_cell? w _ hx179_2)).trans hx179_2;replace hx179_3:=(HB.out.cell (World.block_lt_of_cell? w _ hx179_3)).trans hx179_3;replace hx179_4:=(HB.out.cell (World.block_lt_of_cell? w _ hx179_4)).trans hx179_4;replace p179:=eq_true p179;replace q179:=eq_true q179
                go_wp2_with (first|((with_reducible refine z15 (N:=8) rfl ?_);refine z1e ?hg (N:=8) ?hd (cs:=#[.int .i64 0,.int .i64 0,.int .i64 0,.int .i64 0,.int .u64 0]) (t:=79) ?hr ?_;(case hd=>rfl);(case hg=>rfl);(case hr=>first|(go_simp;done)|(go_simp;rfl));intro gb180 hg w47 hbox hb;have n0_:=Aside0.mk (Kd.R_below (by (with_reducible repeat (first|apply Kd.R_alloc|apply Kd.R_drewN|apply Kd.R_drew));exact HO_4.out) hb);have n1_:=Aside0.mk (z0h (g:=gb146) (o:=.cells #[.int .i64 a0_0,.int .i64 a0_1,.int .i64 a0_2,.slice A0_3 l0_3.length c0_3,.slice A0_4 l0_4.length c0_4,.slice (some ad179) l0_5.length c0_5] 26 (0,0)) (by (with_reducible repeat (first|refine z08 ?_ _|refine z09 ?_|refine z06 ?_ _));exact BK146.out) hb);have n2_:=Aside0.mk (z0t (by repeat (first|(with_reducible first|exact HB.out|apply z04|apply z03|apply z05|refine z07 ?_ GE146.out)|exact HB.out)) hb);have n3_:=Aside0.mk (hbox);have n4_:=Aside0.mk ((by rw [hg];exact (z0o (by repeat (first|(with_reducible first|exact HB.out|apply z04|apply z03|apply z05|refine z07 ?_ GE146.out)|exact HB.out))):w.heap.size≤gb180));have n5_:=Aside0.mk ((by rw [hg];exact (z0o (by repeat (first|(with_reducible first|exact HB.out|apply z04|apply z03|apply z05|refine z07 ?_ GE146.out)|exact HB.out))):w.heap.size≤gb180));have n6_:=Aside0.mk ((by rw [hg];exact Nat.ne_of_lt (z0s (g:=gb146) (o:=.cells #[.int .i64 a0_0,.int .i64 a0_1,.int .i64 a0_2,.slice A0_3 l0_3.length c0_3,.slice A0_4 l0_4.length c0_4,.slice (some ad179) l0_5.length c0_5] 26 (0,0)) (by (with_reducible repeat (first|refine z08 ?_ _|refine z09 ?_|refine z06 ?_ _));exact BK146.out)):gb146≠gb180));have n7_:=Aside0.mk ((by rw [hg];exact Nat.ne_of_gt (z0s (g:=gb146) (o:=.cells #[.int .i64 a0_0,.int .i64 a0_1,.int .i64 a0_2,.slice A0_3 l0_3.length c0_3,.slice A0_4 l0_4.length c0_4,.slice (some ad179) l0_5.length c0_5] 26 (0,0)) (by (with_reducible repeat (first|refine z08 ?_ _|refine z09 ?_|refine z06 ?_ _));exact BK146.out)):gb180≠gb146));clear HO_4;clear BK146;clear HB;have HO_4:=n0_;have BK146:=n1_;have HB:=n2_;have BK180:=n3_;have GW180:=n4_;have GE180:=n5_;have NB146_180:=n6_;have NB180_146:=n7_;clear n0_ n1_ n2_ n3_ n4_ n5_ n6_ n7_;clear hb hbox hg;have hnb48:=NB180_146.out;have hnc48:=NB146_180.out;have hcz49_0:w47.cell? ⟨gb180,0,none⟩=some (.int .i64 0):=(z01 BK180.out 0).trans rfl;have hcz49_1:w47.cell? ⟨gb180,1,none⟩=some (.int .i64 0):=(z01 BK180.out 1).trans rfl;have hcz49_2:w47.cell? ⟨gb180,2,none⟩=some (.int .i64 0):=(z01 BK180.out 2).trans rfl;have hcz49_3:w47.cell? ⟨gb180,3,none⟩=some (.int .i64 0):=(z01 BK180.out 3).trans rfl;have hcz49_4:w47.cell? ⟨gb180,4,none⟩=some (.int .u64 0):=(z01 BK180.out 4).trans rfl;have hfz49_0:=z02 BK180.out 0;have hfz49_1:=z02 BK180.out 1;have hfz49_2:=z02 BK180.out 2;have hfz49_3:=z02 BK180.out 3;have hfz49_4:=z02 BK180.out 4)|((with_reducible refine z0w (f:=80) rfl ?_);refine z19 (some 78) rfl rfl Tryz.func80 (by kernel_rfl) rfl #[.agg #[.int .i64 ((z0a l0_5 x72_2).f0),.int .i64 ((z0a l0_5 x72_2).f1),.int .i64 ((z0a l0_5 x72_2).f2),.int .i64 ((z0a l0_5 x72_2).f3),.int .u64 ((z0a l0_5 x72_2).f4)]] rfl (by (try simp only [List.map_toArray,List.map_cons,List.map_nil]);first|done|rfl) ?_;(with_reducible refine (z18.calls k2 ((z0a l0_5 x72_2).f0) ((z0a l0_5 x72_2).f1) ((z0a l0_5 x72_2).f2) ((z0a l0_5 x72_2).f3) ((z0a l0_5 x72_2).f4) t181 t184 _ A44.out).mono ?_);rintro e w50 ⟨v182,rfl,ho0,hb⟩;refine ⟨_,rfl,?_⟩;have n0_:=Aside0.mk (Kd.R_elder' (by (with_reducible repeat (first|apply Kd.R_alloc|apply Kd.R_drewN|apply Kd.R_drew));exact (Kd.R_mono (Kd.R_far (p:=⟨gb180,4,none⟩) (Kd.R_far (p:=⟨gb180,3,none⟩) (Kd.R_far (p:=⟨gb180,2,none⟩) (Kd.R_far (p:=⟨gb180,1,none⟩) (Kd.R_far (p:=⟨gb180,0,none⟩) (Kd.R_types HO_4.out BK180.out (by decide)) (fun _ hk=>hk.2) (.int .i64 ((z0a l0_5 x72_2).f0))) (fun _ hk=>hk.2) (.int .i64 ((z0a l0_5 x72_2).f1))) (fun _ hk=>hk.2) (.int .i64 ((z0a l0_5 x72_2).f2))) (fun _ hk=>hk.2) (.int .i64 ((z0a l0_5 x72_2).f3))) (fun _ hk=>hk.2) (.int .u64 ((z0a l0_5 x72_2).f4))) (fun _ h_=>h_.1))) (Kd.R_base ho0) hb);have n1_:=Aside0.mk (Kd.R_lower (Kd.R_new' ho0 (Kd.R_lt (by (with_reducible repeat (first|apply Kd.R_alloc|apply Kd.R_drewN|apply Kd.R_drew));exact (Kd.R_mono (Kd.R_far (p:=⟨gb180,4,none⟩) (Kd.R_far (p:=⟨gb180,3,none⟩) (Kd.R_far (p:=⟨gb180,2,none⟩) (Kd.R_far (p:=⟨gb180,1,none⟩) (Kd.R_far (p:=⟨gb180,0,none⟩) (Kd.R_types HO_4.out BK180.out (by decide)) (fun _ hk=>hk.2) (.int .i64 ((z0a l0_5 x72_2).f0))) (fun _ hk=>hk.2) (.int .i64 ((z0a l0_5 x72_2).f1))) (fun _ hk=>hk.2) (.int .i64 ((z0a l0_5 x72_2).f2))) (fun _ hk=>hk.2) (.int .i64 ((z0a l0_5 x72_2).f3))) (fun _ hk=>hk.2) (.int .u64 ((z0a l0_5 x72_2).f4))) (fun _ h_=>h_.1))))) (z0o (by repeat (first|(with_reducible first|exact HB.out|apply z04|apply z03|apply z05|refine z07 ?_ GE146.out|refine z07 ?_ GE180.out)|exact HB.out))));have n2_:=Aside0.mk (z0h (g:=gb146) (o:=.cells #[.int .i64 a0_0,.int .i64 a0_1,.int .i64 a0_2,.slice A0_3 l0_3.length c0_3,.slice A0_4 l0_4.length c0_4,.slice (some ad179) l0_5.length c0_5] 26 (0,0)) (by (repeat first|(with_reducible first|refine z08 ?_ _|refine z09 ?_|refine z06 ?_ _)|refine z0z ?_ NB146_180.out _);exact BK146.out) hb);have n3_:=Aside0.mk (z0h (g:=gb180) (o:=.cells #[.int .i64 ((z0a l0_5 x72_2).f0),.int .i64 ((z0a l0_5 x72_2).f1),.int .i64 ((z0a l0_5 x72_2).f2),.int .i64 ((z0a l0_5 x72_2).f3),.int .u64 ((z0a l0_5 x72_2).f4)] 79 (0,0)) (by (with_reducible repeat (first|refine z08 ?_ _|refine z09 ?_|refine z06 ?_ _));refine z0y (cs:=#[.int .i64 ((z0a l0_5 x72_2).f0),.int .i64 ((z0a l0_5 x72_2).f1),.int .i64 ((z0a l0_5 x72_2).f2),.int .i64 ((z0a l0_5 x72_2).f3),.int .u64 0]) ?_ 4 _ rfl;(with_reducible repeat (first|refine z08 ?_ _|refine z09 ?_|refine z06 ?_ _));refine z0y (cs:=#[.int .i64 ((z0a l0_5 x72_2).f0),.int .i64 ((z0a l0_5 x72_2).f1),.int .i64 ((z0a l0_5 x72_2).f2),.int .i64 0,.int .u64 0]) ?_ 3 _ rfl;(with_reducible repeat (first|refine z08 ?_ _|refine z09 ?_|refine z06 ?_ _));refine z0y (cs:=#[.int .i64 ((z0a l0_5 x72_2).f0),.int .i64 ((z0a l0_5 x72_2).f1),.int .i64 0,.int .i64 0,.int .u64 0]) ?_ 2 _ rfl;(with_reducible repeat (first|refine z08 ?_ _|refine z09 ?_|refine z06 ?_ _));refine z0y (cs:=#[.int .i64 ((z0a l0_5 x72_2).f0),.int .i64 0,.int .i64 0,.int .i64 0,.int .u64 0]) ?_ 1 _ rfl;(with_reducible repeat (first|refine z08 ?_ _|refine z09 ?_|refine z06 ?_ _));refine z0y (cs:=#[.int .i64 0,.int .i64 0,.int .i64 0,.int .i64 0,.int .u64 0]) ?_ 0 _ rfl;(with_reducible repeat (first|refine z08 ?_ _|refine z09 ?_|refine z06 ?_ _));exact BK180.out) hb);have n4_:=Aside0.mk (z0t (by repeat (first|(with_reducible first|exact HB.out|apply z04|apply z03|apply z05|refine z07 ?_ GE146.out|refine z07 ?_ GE180.out)|exact HB.out)) hb);clear HO_4;clear BK146;clear BK180;clear HB;have HO_4:=n0_;have HO183:=n1_;have BK146:=n2_;have BK180:=n3_;have HB:=n4_;clear n0_ n1_ n2_ n3_ n4_;(try clear hb);(try clear hb2);(try clear hk);(try clear hi);(try clear ho0);obtain ⟨Ao52,co52,eo52⟩:=Kd.R_slice HO183.out;subst eo52)|((with_reducible refine z2t (b:=.append) (xs:=#[.tmp 84,.tmp 85]) rfl ?_);at_builtin;refine Kd.R_append_rows (Kd.int .u8) (w0:=w) w.heap.size rfl (.tmp 84) (.tmp 85) 22 5 (.int .u8 0) 1 rfl Tryz.underlying22 info5 rfl (by decide) (by omega) u4 x4_2 t181 _ _ _ (fun k_=>some k_≠(.slice Ao52 t181.length co52:Value).ownBlock) (fun _=>False) rfl rfl ?aO ?aR (fun _ _ h=>h) (fun _ h=>h.elim) ?aF ?aB ?aS ?aL ?_;(case aR=>repeat (first|exact (Kd.R_reads' HO183.out).2.2|(with_reducible refine Kd.C_alloc ?_ _)|(with_reducible refine Kd.C_drewN ?_ _)|(with_reducible refine Kd.C_drew ?_)));(case aB=>exact (by repeat (first|(with_reducible first|exact HB.out|apply z04|apply z03|apply z05|refine z07 ?_ GE146.out|refine z07 ?_ GE180.out)|exact HB.out)));(case aF=>exact (fun k_ hk=>Kd.fresh' (Kd.R_lt (by (with_reducible repeat (first|apply Kd.R_alloc|apply Kd.R_drewN|apply Kd.R_drew));exact HO183.out)) k_ hk));(case aO=>exact (by (with_reducible repeat (first|apply Kd.R_alloc|apply Kd.R_drewN|apply Kd.R_drew));exact Kd.R_mono HO_4.out (fun _ hk=>hk.2)));(case aS=>exact (z0o (by repeat (first|(with_reducible first|exact HB.out|apply z04|apply z03|apply z05|refine z07 ?_ GE146.out|refine z07 ?_ GE180.out)|exact HB.out))));(case aL=>have:=LMc46.out;omega);intro v186 w51 ho hb hg hat;rw [← Ny185.out] at ho;have n0_:=Aside0.mk (z2g (g:=gb146) (o:=.cells #[.int .i64 a0_0,.int .i64 a0_1,.int .i64 a0_2,.slice A0_3 l0_3.length c0_3,.slice A0_4 l0_4.length c0_4,.slice (some ad179) l0_5.length c0_5] 26 (0,0)) (by (with_reducible repeat (first|refine z08 ?_ _|refine z09 ?_|refine z06 ?_ _));exact BK146.out) hg (Kd.R_ne HO_4.out BK146.out (by decide)));have n1_:=Aside0.mk (z2g (g:=gb180) (o:=.cells #[.int .i64 ((z0a l0_5 x72_2).f0),.int .i64 ((z0a l0_5 x72_2).f1),.int .i64 ((z0a l0_5 x72_2).f2),.int .i64 ((z0a l0_5 x72_2).f3),.int .u64 ((z0a l0_5 x72_2).f4)] 79 (0,0)) (by (with_reducible repeat (first|refine z08 ?_ _|refine z09 ?_|refine z06 ?_ _));exact BK180.out) hg (Kd.R_ne HO_4.out BK180.out (by decide)));have n2_:=Aside0.mk (Kd.R_after (ok:=(fun _=>True)) (by (with_reducible repeat (first|apply Kd.R_alloc|apply Kd.R_drewN|apply Kd.R_drew));exact HO183.out) hg hat);have n3_:=Aside0.mk (hb);have n4_:=Aside0.mk (ho);clear BK146;clear BK180;clear HO183;clear HB;clear HO_4;have BK146:=n0_;have BK180:=n1_;have HO183:=n2_;have HB:=n3_;have HO187:=n4_;clear n0_ n1_ n2_ n3_ n4_;clear ho hb hg hat))
                go_roundg k2
                case measure=>have:=HK1.out;have:=HK2.out;omega
                case rel=>exact ⟨(y185),(wrap64 (x72_2+1)),(by first|rfl|(simp;done)|(simp [*];done)),H',⟨by have:=HK1.out;have:=HK2.out;omega⟩,⟨by (with_reducible repeat (first|apply Kd.R_alloc|apply Kd.R_drewN|apply Kd.R_drew));exact Kd.R_mono HO187.out (fun _ hk=>trivial)⟩,⟨by (with_reducible repeat (first|refine z08 ?_ _|refine z09 ?_|refine z06 ?_ _));exact BK146.out⟩,⟨by repeat (first|(with_reducible first|exact HB.out|apply z04|apply z03|apply z05|refine z07 ?_ GE146.out|refine z07 ?_ GE180.out)|exact HB.out)⟩⟩
               ·rw [if_neg c46] at H;exact absurd H (by simp)
              ·rw [if_neg c45] at H;have c45b0:(t184 == 0)=false:=beq_eq_false_iff_ne.mpr c45;have c45b1:(t184 != 0)=true:=bne_iff_ne.mpr c45;simp only [Option.some.injEq,Prod.mk.injEq] at H;obtain ⟨rfl,rfl⟩:=H;have p179:0≤(x72_2:Int):=of_decide_eq_true (by assumption);have q179:x72_2 < (l0_5.length:Int):=of_decide_eq_true (by assumption);obtain ⟨ad179,e179,hx179_0,hx179_1,hx179_2,hx179_3,hx179_4⟩:=at_T79 HR0_5.out x72_2 p179 q179;cases e179;replace hx179_0:=(HB.out.cell (World.block_lt_of_cell? w _ hx179_0)).trans hx179_0;replace hx179_1:=(HB.out.cell (World.block_lt_of_cell? w _ hx179_1)).trans hx179_1;replace hx179_2:=(HB.out.cell (World.block_lt_of_cell? w _ hx179_2)).trans hx179_2;replace hx179_3:=(HB.out.cell (World.block_lt_of_cell? w _ hx179_3)).trans hx179_3;replace hx179_4:=(HB.out.cell (World.block_lt_of_cell? w _ hx179_4)).trans hx179_4;replace p179:=eq_true p179;replace q179:=eq_true q179
               go_wp2_with (first|((with_reducible refine z15 (N:=8) rfl ?_);refine z1e ?hg (N:=8) ?hd (cs:=#[.int .i64 0,.int .i64 0,.int .i64 0,.int .i64 0,.int .u64 0]) (t:=79) ?hr ?_;(case hd=>rfl);(case hg=>rfl);(case hr=>first|(go_simp;done)|(go_simp;rfl));intro gb180 hg w53 hbox hb;have n0_:=Aside0.mk (Kd.R_below (by (with_reducible repeat (first|apply Kd.R_alloc|apply Kd.R_drewN|apply Kd.R_drew));exact HO_4.out) hb);have n1_:=Aside0.mk (z0h (g:=gb146) (o:=.cells #[.int .i64 a0_0,.int .i64 a0_1,.int .i64 a0_2,.slice A0_3 l0_3.length c0_3,.slice A0_4 l0_4.length c0_4,.slice (some ad179) l0_5.length c0_5] 26 (0,0)) (by (with_reducible repeat (first|refine z08 ?_ _|refine z09 ?_|refine z06 ?_ _));exact BK146.out) hb);have n2_:=Aside0.mk (z0t (by repeat (first|(with_reducible first|exact HB.out|apply z04|apply z03|apply z05|refine z07 ?_ GE146.out)|exact HB.out)) hb);have n3_:=Aside0.mk (hbox);have n4_:=Aside0.mk ((by rw [hg];exact (z0o (by repeat (first|(with_reducible first|exact HB.out|apply z04|apply z03|apply z05|refine z07 ?_ GE146.out)|exact HB.out))):w.heap.size≤gb180));have n5_:=Aside0.mk ((by rw [hg];exact (z0o (by repeat (first|(with_reducible first|exact HB.out|apply z04|apply z03|apply z05|refine z07 ?_ GE146.out)|exact HB.out))):w.heap.size≤gb180));have n6_:=Aside0.mk ((by rw [hg];exact Nat.ne_of_lt (z0s (g:=gb146) (o:=.cells #[.int .i64 a0_0,.int .i64 a0_1,.int .i64 a0_2,.slice A0_3 l0_3.length c0_3,.slice A0_4 l0_4.length c0_4,.slice (some ad179) l0_5.length c0_5] 26 (0,0)) (by (with_reducible repeat (first|refine z08 ?_ _|refine z09 ?_|refine z06 ?_ _));exact BK146.out)):gb146≠gb180));have n7_:=Aside0.mk ((by rw [hg];exact Nat.ne_of_gt (z0s (g:=gb146) (o:=.cells #[.int .i64 a0_0,.int .i64 a0_1,.int .i64 a0_2,.slice A0_3 l0_3.length c0_3,.slice A0_4 l0_4.length c0_4,.slice (some ad179) l0_5.length c0_5] 26 (0,0)) (by (with_reducible repeat (first|refine z08 ?_ _|refine z09 ?_|refine z06 ?_ _));exact BK146.out)):gb180≠gb146));clear HO_4;clear BK146;clear HB;have HO_4:=n0_;have BK146:=n1_;have HB:=n2_;have BK180:=n3_;have GW180:=n4_;have GE180:=n5_;have NB146_180:=n6_;have NB180_146:=n7_;clear n0_ n1_ n2_ n3_ n4_ n5_ n6_ n7_;clear hb hbox hg;have hnb54:=NB180_146.out;have hnc54:=NB146_180.out;have hcz55_0:w53.cell? ⟨gb180,0,none⟩=some (.int .i64 0):=(z01 BK180.out 0).trans rfl;have hcz55_1:w53.cell? ⟨gb180,1,none⟩=some (.int .i64 0):=(z01 BK180.out 1).trans rfl;have hcz55_2:w53.cell? ⟨gb180,2,none⟩=some (.int .i64 0):=(z01 BK180.out 2).trans rfl;have hcz55_3:w53.cell? ⟨gb180,3,none⟩=some (.int .i64 0):=(z01 BK180.out 3).trans rfl;have hcz55_4:w53.cell? ⟨gb180,4,none⟩=some (.int .u64 0):=(z01 BK180.out 4).trans rfl;have hfz55_0:=z02 BK180.out 0;have hfz55_1:=z02 BK180.out 1;have hfz55_2:=z02 BK180.out 2;have hfz55_3:=z02 BK180.out 3;have hfz55_4:=z02 BK180.out 4)|((with_reducible refine z0w (f:=80) rfl ?_);refine z19 (some 78) rfl rfl Tryz.func80 (by kernel_rfl) rfl #[.agg #[.int .i64 ((z0a l0_5 x72_2).f0),.int .i64 ((z0a l0_5 x72_2).f1),.int .i64 ((z0a l0_5 x72_2).f2),.int .i64 ((z0a l0_5 x72_2).f3),.int .u64 ((z0a l0_5 x72_2).f4)]] rfl (by (try simp only [List.map_toArray,List.map_cons,List.map_nil]);first|done|rfl) ?_;(with_reducible refine (z18.calls k2 ((z0a l0_5 x72_2).f0) ((z0a l0_5 x72_2).f1) ((z0a l0_5 x72_2).f2) ((z0a l0_5 x72_2).f3) ((z0a l0_5 x72_2).f4) t181 t184 _ A44.out).mono ?_);rintro e w56 ⟨v182,rfl,ho0,hb⟩;refine ⟨_,rfl,?_⟩;have n0_:=Aside0.mk (Kd.R_elder' (by (with_reducible repeat (first|apply Kd.R_alloc|apply Kd.R_drewN|apply Kd.R_drew));exact (Kd.R_mono (Kd.R_far (p:=⟨gb180,4,none⟩) (Kd.R_far (p:=⟨gb180,3,none⟩) (Kd.R_far (p:=⟨gb180,2,none⟩) (Kd.R_far (p:=⟨gb180,1,none⟩) (Kd.R_far (p:=⟨gb180,0,none⟩) (Kd.R_types HO_4.out BK180.out (by decide)) (fun _ hk=>hk.2) (.int .i64 ((z0a l0_5 x72_2).f0))) (fun _ hk=>hk.2) (.int .i64 ((z0a l0_5 x72_2).f1))) (fun _ hk=>hk.2) (.int .i64 ((z0a l0_5 x72_2).f2))) (fun _ hk=>hk.2) (.int .i64 ((z0a l0_5 x72_2).f3))) (fun _ hk=>hk.2) (.int .u64 ((z0a l0_5 x72_2).f4))) (fun _ h_=>h_.1))) (Kd.R_base ho0) hb);have n1_:=Aside0.mk (Kd.R_lower (Kd.R_new' ho0 (Kd.R_lt (by (with_reducible repeat (first|apply Kd.R_alloc|apply Kd.R_drewN|apply Kd.R_drew));exact (Kd.R_mono (Kd.R_far (p:=⟨gb180,4,none⟩) (Kd.R_far (p:=⟨gb180,3,none⟩) (Kd.R_far (p:=⟨gb180,2,none⟩) (Kd.R_far (p:=⟨gb180,1,none⟩) (Kd.R_far (p:=⟨gb180,0,none⟩) (Kd.R_types HO_4.out BK180.out (by decide)) (fun _ hk=>hk.2) (.int .i64 ((z0a l0_5 x72_2).f0))) (fun _ hk=>hk.2) (.int .i64 ((z0a l0_5 x72_2).f1))) (fun _ hk=>hk.2) (.int .i64 ((z0a l0_5 x72_2).f2))) (fun _ hk=>hk.2) (.int .i64 ((z0a l0_5 x72_2).f3))) (fun _ hk=>hk.2) (.int .u64 ((z0a l0_5 x72_2).f4))) (fun _ h_=>h_.1))))) (z0o (by repeat (first|(with_reducible first|exact HB.out|apply z04|apply z03|apply z05|refine z07 ?_ GE146.out|refine z07 ?_ GE180.out)|exact HB.out))));have n2_:=Aside0.mk (z0h (g:=gb146) (o:=.cells #[.int .i64 a0_0,.int .i64 a0_1,.int .i64 a0_2,.slice A0_3 l0_3.length c0_3,.slice A0_4 l0_4.length c0_4,.slice (some ad179) l0_5.length c0_5] 26 (0,0)) (by (repeat first|(with_reducible first|refine z08 ?_ _|refine z09 ?_|refine z06 ?_ _)|refine z0z ?_ NB146_180.out _);exact BK146.out) hb);have n3_:=Aside0.mk (z0h (g:=gb180) (o:=.cells #[.int .i64 ((z0a l0_5 x72_2).f0),.int .i64 ((z0a l0_5 x72_2).f1),.int .i64 ((z0a l0_5 x72_2).f2),.int .i64 ((z0a l0_5 x72_2).f3),.int .u64 ((z0a l0_5 x72_2).f4)] 79 (0,0)) (by (with_reducible repeat (first|refine z08 ?_ _|refine z09 ?_|refine z06 ?_ _));refine z0y (cs:=#[.int .i64 ((z0a l0_5 x72_2).f0),.int .i64 ((z0a l0_5 x72_2).f1),.int .i64 ((z0a l0_5 x72_2).f2),.int .i64 ((z0a l0_5 x72_2).f3),.int .u64 0]) ?_ 4 _ rfl;(with_reducible repeat (first|refine z08 ?_ _|refine z09 ?_|refine z06 ?_ _));refine z0y (cs:=#[.int .i64 ((z0a l0_5 x72_2).f0),.int .i64 ((z0a l0_5 x72_2).f1),.int .i64 ((z0a l0_5 x72_2).f2),.int .i64 0,.int .u64 0]) ?_ 3 _ rfl;(with_reducible repeat (first|refine z08 ?_ _|refine z09 ?_|refine z06 ?_ _));refine z0y (cs:=#[.int .i64 ((z0a l0_5 x72_2).f0),.int .i64 ((z0a l0_5 x72_2).f1),.int .i64 0,.int .i64 0,.int .u64 0]) ?_ 2 _ rfl;(with_reducible repeat (first|refine z08 ?_ _|refine z09 ?_|refine z06 ?_ _));refine z0y (cs:=#[.int .i64 ((z0a l0_5 x72_2).f0),.int .i64 0,.int .i64 0,.int .i64 0,.int .u64 0]) ?_ 1 _ rfl;(with_reducible repeat (first|refine z08 ?_ _|refine z09 ?_|refine z06 ?_ _));refine z0y (cs:=#[.int .i64 0,.int .i64 0,.int .i64 0,.int .i64 0,.int .u64 0]) ?_ 0 _ rfl;(with_reducible repeat (first|refine z08 ?_ _|refine z09 ?_|refine z06 ?_ _));exact BK180.out) hb);have n4_:=Aside0.mk (z0t (by repeat (first|(with_reducible first|exact HB.out|apply z04|apply z03|apply z05|refine z07 ?_ GE146.out|refine z07 ?_ GE180.out)|exact HB.out)) hb);clear HO_4;clear BK146;clear BK180;clear HB;have HO_4:=n0_;have HO183:=n1_;have BK146:=n2_;have BK180:=n3_;have HB:=n4_;clear n0_ n1_ n2_ n3_ n4_;(try clear hb);(try clear hb2);(try clear hk);(try clear hi);(try clear ho0)))
               go_ret2
               exact ⟨_,by first|rfl|(simp [z0k,z0j] <;> rfl)|(simp [*,z0k,z0j] <;> rfl),by first|exact Kd.R_nil _ _ _ _ _|exact Kd.N_nil _ _ _ _ _|exact Kd.V_nil _ _ _ _ _|exact Kd.Q_nil _ _ _ _ _|exact Kd.S_nil _ _ _ _ _,by repeat (first|(with_reducible first|exact HB.out|apply z04|apply z03|apply z05|refine z07 ?_ GE146.out|refine z07 ?_ GE180.out)|exact HB.out)⟩
             ·rw [if_neg c43] at H;exact absurd H (by simp)
            ·rw [if_neg c42] at H;exact absurd H (by simp)
           ·rw [if_neg c41] at H;have c41b0:decide (x72_2 < (l0_5.length:Int))=false:=decide_eq_false c41;clear c41;replace H:=Option.bind_eq_some_iff.mp H;obtain ⟨t188,A570,H⟩:=H;skip;have A57:=Aside0.mk A570;clear A570
            by_cases c58:t188 ≥ 0
            ·rw [if_pos c58] at H;have c58b0:decide (0≤t188)=true:=decide_eq_true c58;clear c58;simp only [Option.some.injEq,Prod.mk.injEq] at H;obtain ⟨rfl,rfl⟩:=H;have hcz59_0:wr.cell? ⟨gb146,0,none⟩=some (.int .i64 a0_0):=(z01 BK146.out 0).trans rfl;have hcz59_1:wr.cell? ⟨gb146,1,none⟩=some (.int .i64 a0_1):=(z01 BK146.out 1).trans rfl;have hcz59_2:wr.cell? ⟨gb146,2,none⟩=some (.int .i64 a0_2):=(z01 BK146.out 2).trans rfl;have hcz59_3:wr.cell? ⟨gb146,3,none⟩=some (.slice A0_3 l0_3.length c0_3):=(z01 BK146.out 3).trans rfl;have hcz59_4:wr.cell? ⟨gb146,4,none⟩=some (.slice A0_4 l0_4.length c0_4):=(z01 BK146.out 4).trans rfl;have hcz59_5:wr.cell? ⟨gb146,5,none⟩=some (.slice A0_5 l0_5.length c0_5):=(z01 BK146.out 5).trans rfl;have hfz59_0:=z02 BK146.out 0;have hfz59_1:=z02 BK146.out 1;have hfz59_2:=z02 BK146.out 2;have hfz59_3:=z02 BK146.out 3;have hfz59_4:=z02 BK146.out 4;have hfz59_5:=z02 BK146.out 5
             go_wp2_with (first|((with_reducible refine z0w (f:=81) rfl ?_);refine z19 (some 89) rfl rfl Tryz.func81 (by kernel_rfl) rfl #[.agg #[.int .i64 a0_0,.int .i64 a0_1,.int .i64 a0_2,.slice A0_3 l0_3.length c0_3,.slice A0_4 l0_4.length c0_4,.slice A0_5 l0_5.length c0_5]] rfl (by (try simp only [List.map_toArray,List.map_cons,List.map_nil]);first|done|rfl) ?_;(with_reducible refine (z2r.calls a0_0 a0_1 a0_2 _ _ l0_3 _ _ l0_4 _ _ l0_5 t188 _ ?side1 ?side2 ?side3 ?side4 ?side5 ?side6 A57.out).mono ?_);(case side1=>repeat (first|exact (Kd.C_below HR0_3.out HB.out)|(with_reducible refine Kd.C_alloc ?_ _)|(with_reducible refine Kd.C_drewN ?_ _)|(with_reducible refine Kd.C_drew ?_)));(case side2=>exact HC0_3.out);(case side3=>repeat (first|exact (Kd.C_below HR0_4.out HB.out)|(with_reducible refine Kd.C_alloc ?_ _)|(with_reducible refine Kd.C_drewN ?_ _)|(with_reducible refine Kd.C_drew ?_)));(case side4=>exact HC0_4.out);(case side5=>repeat (first|exact (Kd.C_below HR0_5.out HB.out)|(with_reducible refine Kd.C_alloc ?_ _)|(with_reducible refine Kd.C_drewN ?_ _)|(with_reducible refine Kd.C_drew ?_)));(case side6=>exact HC0_5.out);rintro e w60 ⟨rfl,hb⟩;refine ⟨_,rfl,?_⟩;have n0_:=Aside0.mk (Kd.R_below (by (with_reducible repeat (first|apply Kd.R_alloc|apply Kd.R_drewN|apply Kd.R_drew));exact HO_4.out) hb);have n1_:=Aside0.mk (z0h (g:=gb146) (o:=.cells #[.int .i64 a0_0,.int .i64 a0_1,.int .i64 a0_2,.slice A0_3 l0_3.length c0_3,.slice A0_4 l0_4.length c0_4,.slice A0_5 l0_5.length c0_5] 26 (0,0)) (by (with_reducible repeat (first|refine z08 ?_ _|refine z09 ?_|refine z06 ?_ _));exact BK146.out) hb);have n2_:=Aside0.mk (z0t (by repeat (first|(with_reducible first|exact HB.out|apply z04|apply z03|apply z05|refine z07 ?_ GE146.out)|exact HB.out)) hb);clear HO_4;clear BK146;clear HB;have HO_4:=n0_;have BK146:=n1_;have HB:=n2_;clear n0_ n1_ n2_;(try clear hb);(try clear hb2);(try clear hk);(try clear hi)))
             go_ret2
             exact ⟨_,by first|rfl|(simp [z0k,z0j] <;> rfl)|(simp [*,z0k,z0j] <;> rfl),by first|exact Kd.R_nil _ _ _ _ _|exact Kd.N_nil _ _ _ _ _|exact Kd.V_nil _ _ _ _ _|exact Kd.Q_nil _ _ _ _ _|exact Kd.S_nil _ _ _ _ _,by repeat (first|(with_reducible first|exact HB.out|apply z04|apply z03|apply z05|refine z07 ?_ GE146.out)|exact HB.out)⟩
            ·rw [if_neg c58] at H;have c58b0:decide (0≤t188)=false:=decide_eq_false c58;clear c58;simp only [Option.some.injEq,Prod.mk.injEq] at H;obtain ⟨rfl,rfl⟩:=H;have hcz61_0:wr.cell? ⟨gb146,0,none⟩=some (.int .i64 a0_0):=(z01 BK146.out 0).trans rfl;have hcz61_1:wr.cell? ⟨gb146,1,none⟩=some (.int .i64 a0_1):=(z01 BK146.out 1).trans rfl;have hcz61_2:wr.cell? ⟨gb146,2,none⟩=some (.int .i64 a0_2):=(z01 BK146.out 2).trans rfl;have hcz61_3:wr.cell? ⟨gb146,3,none⟩=some (.slice A0_3 l0_3.length c0_3):=(z01 BK146.out 3).trans rfl;have hcz61_4:wr.cell? ⟨gb146,4,none⟩=some (.slice A0_4 l0_4.length c0_4):=(z01 BK146.out 4).trans rfl;have hcz61_5:wr.cell? ⟨gb146,5,none⟩=some (.slice A0_5 l0_5.length c0_5):=(z01 BK146.out 5).trans rfl;have hfz61_0:=z02 BK146.out 0;have hfz61_1:=z02 BK146.out 1;have hfz61_2:=z02 BK146.out 2;have hfz61_3:=z02 BK146.out 3;have hfz61_4:=z02 BK146.out 4;have hfz61_5:=z02 BK146.out 5
             go_wp2_with (first|((with_reducible refine z0w (f:=81) rfl ?_);refine z19 (some 89) rfl rfl Tryz.func81 (by kernel_rfl) rfl #[.agg #[.int .i64 a0_0,.int .i64 a0_1,.int .i64 a0_2,.slice A0_3 l0_3.length c0_3,.slice A0_4 l0_4.length c0_4,.slice A0_5 l0_5.length c0_5]] rfl (by (try simp only [List.map_toArray,List.map_cons,List.map_nil]);first|done|rfl) ?_;(with_reducible refine (z2r.calls a0_0 a0_1 a0_2 _ _ l0_3 _ _ l0_4 _ _ l0_5 t188 _ ?side1 ?side2 ?side3 ?side4 ?side5 ?side6 A57.out).mono ?_);(case side1=>repeat (first|exact (Kd.C_below HR0_3.out HB.out)|(with_reducible refine Kd.C_alloc ?_ _)|(with_reducible refine Kd.C_drewN ?_ _)|(with_reducible refine Kd.C_drew ?_)));(case side2=>exact HC0_3.out);(case side3=>repeat (first|exact (Kd.C_below HR0_4.out HB.out)|(with_reducible refine Kd.C_alloc ?_ _)|(with_reducible refine Kd.C_drewN ?_ _)|(with_reducible refine Kd.C_drew ?_)));(case side4=>exact HC0_4.out);(case side5=>repeat (first|exact (Kd.C_below HR0_5.out HB.out)|(with_reducible refine Kd.C_alloc ?_ _)|(with_reducible refine Kd.C_drewN ?_ _)|(with_reducible refine Kd.C_drew ?_)));(case side6=>exact HC0_5.out);rintro e w62 ⟨rfl,hb⟩;refine ⟨_,rfl,?_⟩;have n0_:=Aside0.mk (Kd.R_below (by (with_reducible repeat (first|apply Kd.R_alloc|apply Kd.R_drewN|apply Kd.R_drew));exact HO_4.out) hb);have n1_:=Aside0.mk (z0h (g:=gb146) (o:=.cells #[.int .i64 a0_0,.int .i64 a0_1,.int .i64 a0_2,.slice A0_3 l0_3.length c0_3,.slice A0_4 l0_4.length c0_4,.slice A0_5 l0_5.length c0_5] 26 (0,0)) (by (with_reducible repeat (first|refine z08 ?_ _|refine z09 ?_|refine z06 ?_ _));exact BK146.out) hb);have n2_:=Aside0.mk (z0t (by repeat (first|(with_reducible first|exact HB.out|apply z04|apply z03|apply z05|refine z07 ?_ GE146.out)|exact HB.out)) hb);clear HO_4;clear BK146;clear HB;have HO_4:=n0_;have BK146:=n1_;have HB:=n2_;clear n0_ n1_ n2_;(try clear hb);(try clear hb2);(try clear hk);(try clear hi)))
             go_ret2
             exact ⟨_,by first|rfl|(simp [z0k,z0j] <;> rfl)|(simp [*,z0k,z0j] <;> rfl),by (with_reducible repeat (first|apply Kd.R_alloc|apply Kd.R_drewN|apply Kd.R_drew));exact HO_4.out,by repeat (first|(with_reducible first|exact HB.out|apply z04|apply z03|apply z05|refine z07 ?_ GE146.out)|exact HB.out)⟩
        ·rw [if_neg c34] at H;exact absurd H (by simp)
    ·rw [if_neg c6] at H;exact absurd H (by simp)
   ·rw [if_neg c5] at H;exact absurd H (by simp)
  ·rw [if_neg c4] at H;exact absurd H (by simp)
 ·replace c3:=Bool.eq_false_iff.mpr c3;subst c3;rw [if_neg (show ¬ (false=true) by decide)] at H;simp only [Option.some.injEq,Prod.mk.injEq] at H;obtain ⟨rfl,rfl⟩:=H
  go_enter Tryz.func54,Tryz.ntmps54
  go_wp2_with (first|((with_reducible refine z15 (N:=1) rfl ?_);refine z1e ?hg (N:=1) ?hd (cs:=#[.int .i64 a0_0,.int .i64 a0_1,.int .i64 a0_2,.slice A0_3 l0_3.length c0_3,.slice A0_4 l0_4.length c0_4,.slice A0_5 l0_5.length c0_5]) (t:=26) ?hr ?_;(case hd=>rfl);(case hg=>rfl);(case hr=>first|(go_simp;done)|(go_simp;rfl));intro gb146 hg w63 hbox hb;have n0_:=Aside0.mk (z0t (by repeat (first|exact HB.out|apply z04|apply z03|apply z05)) hb);have n1_:=Aside0.mk (hbox);have n2_:=Aside0.mk ((by rw [hg];exact (z0o (by repeat (first|exact HB.out|apply z04|apply z03|apply z05))):w.heap.size≤gb146));have n3_:=Aside0.mk ((by rw [hg];exact (z0o (by repeat (first|exact HB.out|apply z04|apply z03|apply z05))):w.heap.size≤gb146));clear HB;have HB:=n0_;have BK146:=n1_;have GW146:=n2_;have GE146:=n3_;clear n0_ n1_ n2_ n3_;clear hb hbox hg;have hcz64_0:w63.cell? ⟨gb146,0,none⟩=some (.int .i64 a0_0):=(z01 BK146.out 0).trans rfl;have hcz64_1:w63.cell? ⟨gb146,1,none⟩=some (.int .i64 a0_1):=(z01 BK146.out 1).trans rfl;have hcz64_2:w63.cell? ⟨gb146,2,none⟩=some (.int .i64 a0_2):=(z01 BK146.out 2).trans rfl;have hcz64_3:w63.cell? ⟨gb146,3,none⟩=some (.slice A0_3 l0_3.length c0_3):=(z01 BK146.out 3).trans rfl;have hcz64_4:w63.cell? ⟨gb146,4,none⟩=some (.slice A0_4 l0_4.length c0_4):=(z01 BK146.out 4).trans rfl;have hcz64_5:w63.cell? ⟨gb146,5,none⟩=some (.slice A0_5 l0_5.length c0_5):=(z01 BK146.out 5).trans rfl;have hfz64_0:=z02 BK146.out 0;have hfz64_1:=z02 BK146.out 1;have hfz64_2:=z02 BK146.out 2;have hfz64_3:=z02 BK146.out 3;have hfz64_4:=z02 BK146.out 4;have hfz64_5:=z02 BK146.out 5)|((with_reducible refine z0w (f:=79) rfl ?_);refine z19 (some 12) rfl rfl Tryz.func79 (by kernel_rfl) rfl #[.agg #[.int .i64 a0_0,.int .i64 a0_1,.int .i64 a0_2,.slice A0_3 l0_3.length c0_3,.slice A0_4 l0_4.length c0_4,.slice A0_5 l0_5.length c0_5]] rfl (by (try simp only [List.map_toArray,List.map_cons,List.map_nil]);first|done|rfl) ?_;(with_reducible refine (z0n.calls k a0_0 a0_1 a0_2 _ _ l0_3 _ _ l0_4 _ _ l0_5 false _ ?side1 ?side2 ?side3 ?side4 ?side5 ?side6 A2.out).mono ?_);(case side1=>repeat (first|exact (Kd.C_below HR0_3.out HB.out)|(with_reducible refine Kd.C_alloc ?_ _)|(with_reducible refine Kd.C_drewN ?_ _)|(with_reducible refine Kd.C_drew ?_)));(case side2=>exact HC0_3.out);(case side3=>repeat (first|exact (Kd.C_below HR0_4.out HB.out)|(with_reducible refine Kd.C_alloc ?_ _)|(with_reducible refine Kd.C_drewN ?_ _)|(with_reducible refine Kd.C_drew ?_)));(case side4=>exact HC0_4.out);(case side5=>repeat (first|exact (Kd.C_below HR0_5.out HB.out)|(with_reducible refine Kd.C_alloc ?_ _)|(with_reducible refine Kd.C_drewN ?_ _)|(with_reducible refine Kd.C_drew ?_)));(case side6=>exact HC0_5.out);rintro e w65 ⟨rfl,hb⟩;refine ⟨_,rfl,?_⟩;have n0_:=Aside0.mk (z0h (g:=gb146) (o:=.cells #[.int .i64 a0_0,.int .i64 a0_1,.int .i64 a0_2,.slice A0_3 l0_3.length c0_3,.slice A0_4 l0_4.length c0_4,.slice A0_5 l0_5.length c0_5] 26 (0,0)) (by (with_reducible repeat (first|refine z08 ?_ _|refine z09 ?_|refine z06 ?_ _));exact BK146.out) hb);have n1_:=Aside0.mk (z0t (by repeat (first|(with_reducible first|exact HB.out|apply z04|apply z03|apply z05|refine z07 ?_ GE146.out)|exact HB.out)) hb);clear BK146;clear HB;have BK146:=n0_;have HB:=n1_;clear n0_ n1_;(try clear hb);(try clear hb2);(try clear hk);(try clear hi)))
  go_ret2
  exact ⟨_,by first|rfl|(simp [z0k,z0j] <;> rfl)|(simp [*,z0k,z0j] <;> rfl),by first|exact Kd.R_nil _ _ _ _ _|exact Kd.N_nil _ _ _ _ _|exact Kd.V_nil _ _ _ _ _|exact Kd.Q_nil _ _ _ _ _|exact Kd.S_nil _ _ _ _ _,by repeat (first|(with_reducible first|exact HB.out|apply z04|apply z03|apply z05|refine z07 ?_ GE146.out)|exact HB.out)⟩
end Go.Proofs.YtcbnhfnnjkkceaaGreat.X
end
section
namespace Go.Proofs.YtcbnhfnnjkkceaaGreat.X
open Go.RowKit Go.Proofs.YtcbnhfnnjkkceaaGreatW.PrintWords Go.Proofs.YtcbnhfnnjkkceaaGreatW.PrintLast Go.Proofs.YtcbnhfnnjkkceaaGreatW.PrintMore Go.Proofs.YtcbnhfnnjkkceaaGreat.Gr
abbrev Im:=S26
abbrev In:=S79
def ins1 (y:Int):List Int→List Int
 | []=>[y]
 | z :: r=>if y < z then y :: z :: r else if y=z then z :: r else z :: ins1 y r
def uniq (l:List Int):List Int:=l.foldr ins1 []
theorem mem_ins1 (y z:Int):∀ l:List Int,z ∈ ins1 y l↔z=y∨z ∈ l
 | []=>by simp [ins1]
 | a :: r=>by
  unfold ins1
  split
  ·simp
  ·split
   ·rename_i h
    subst h;simp
   ·rw [List.mem_cons,mem_ins1 y z r,List.mem_cons];exact ⟨fun h=>h.elim (fun e=>.inr (.inl e)) (fun e=>e.elim .inl fun e=>.inr (.inr e)),fun h=>h.elim (fun e=>.inr (.inl e)) (fun e=>e.elim .inl fun e=>.inr (.inr e))⟩
theorem ins1_asc (y:Int):∀ {l:List Int},l.Pairwise (· < ·)→(ins1 y l).Pairwise (· < ·)
 | [],_=>by simp [ins1]
 | a :: r,h=>by
  have h':=List.pairwise_cons.1 h;unfold ins1
  split
  ·rename_i hy
   exact List.pairwise_cons.2 ⟨fun z hz=>by
    rcases List.mem_cons.1 hz with e|e
    ·omega
    ·have:=h'.1 z e;omega,h⟩
  ·split
   ·exact h
   ·exact List.pairwise_cons.2 ⟨fun z hz=>by
     rcases (mem_ins1 y z r).1 hz with e|e
     ·omega
     ·exact h'.1 z e,ins1_asc y h'.2⟩
theorem mem_uniq (z:Int):∀ l:List Int,z ∈ uniq l↔z ∈ l
 | []=>by simp [uniq]
 | a :: r=>by
  show z ∈ ins1 a (uniq r)↔_;rw [mem_ins1,mem_uniq z r,List.mem_cons]
theorem uniq_asc:∀ l:List Int,(uniq l).Pairwise (· < ·)
 | []=>List.Pairwise.nil
 | a :: r=>ins1_asc a (uniq_asc r)
def sitesL (p:Im) (f:Int):List Int:=(z1i p.f5.length).filter fun a=>(z0a p.f5 a).f0 == 23 && (z0a p.f5 a).f4 == f
def backsL (p:Im) (f:Int):List Int:=(z1i p.f5.length).filter fun a=>(z0a p.f5 a).f0 == 24 && funP p.f4 p.f5.length a == f
def outL (p:Im) (x:Int):List Int :=
 if 0≤x∧x < p.f5.length then
  (let i:=z0a p.f5 x
   if i.f0=21 then [i.f4]
   else if i.f0=22 then [i.f4,x+1]
   else if i.f0=23 then [rd p.f4 i.f4]
   else if i.f0=24 then (sitesL p (funP p.f4 p.f5.length x)).map (·+1)
   else if goesB i.f0 then [x+1] else [])
 else []
def isB (p:Im) (a b:Int):Bool:=(outL p a).contains b
def nextL (p:Im) (x:Int):List Int:=uniq (outL p x)
def prevL (p:Im) (x:Int):List Int:=(z1i p.f5.length).filter fun a=>isB p a x
def rowsG (p:Im) (t:Nat) (x:Int):List Int:=if t=0 then nextL p x else if t=1 then prevL p x else if t=2 then sitesL p x else backsL p x
def z1m (p:Im) (dv fv cv:Value) (done st:Int) (m:Nat→Value):Array Value:=#[.int .i64 p.f0,.int .i64 p.f1,.int .i64 p.f2,dv,fv,cv,.int .u32 done,.int .i32 st,.int .u32 0,m 0,m 1,m 2,m 3]
structure GrP (w:World) (B:Nat) (p:Im) (dv fv cv:Value):Prop where
 d:Kd.R (Kd.int .u8) 5 w B (fun _=>True) dv p.f3
 f:Kd.R (Kd.int .i64) 3 w B (fun _=>True) fv p.f4
 c:Kd.R k79 79 w B (fun _=>True) cv p.f5
def Gr (w:World) (g B:Nat) (p:Im):Prop:=B≤g∧∃ dv fv cv,GrP w B p dv fv cv ∧
 (w.heap[g]?=some (.cells (z1m p dv fv cv 0 0 (fun _=>.map none)) 97 (0,0)) ∨
  ∃ bs n V,w.heap[g]?=some (.cells (z1m p dv fv cv 1 0 (fun t=>.map (some (bs t)))) 97 (0,0))∧Tab Tryz.prog 3 w B bs n V (rowsG p)∧n < 1000000)
theorem Gr.lt {w:World} {g B:Nat} {p:Im} (h:Gr w g B p):g < w.heap.size:=by
 obtain ⟨_,dv,fv,cv,_,h|⟨bs,n,V,h,_⟩⟩:=h <;> exact z0s h
theorem Gr.typed {w:World} {g B:Nat} {p:Im} (h:Gr w g B p):∃ c,w.heap[g]?=some (.cells c 97 (0,0)):=by
 obtain ⟨_,dv,fv,cv,_,h|⟨bs,n,V,h,_⟩⟩:=h <;> exact ⟨_,h⟩
theorem Gr.keep {w w1:World} {g B:Nat} {p:Im} (h:Gr w g B p) (hk:∀ i,i < w.heap.size→B≤i→(i=g∨∀ c,w.heap[i]?≠some (.cells c 97 (0,0)))→w1.heap[i]?=w.heap[i]?):Gr w1 g B p:=by
 have hg:=h.lt;obtain ⟨hB,dv,fv,cv,hp,hh⟩:=h;have hne:∀ i,B≤i→(∃ c t,w.heap[i]?=some (.cells c t (0,0))∧t≠97)∨(∃ es c,w.heap[i]?=some (.map es c))→w1.heap[i]?=w.heap[i]?:=fun i hBi hi=>by
  refine hk i ?_ hBi (.inr fun c hc=>?_)
  ·rcases hi with ⟨c,t,hi,_⟩|⟨es,c,hi⟩ <;> exact z0s hi
  ·rcases hi with ⟨c',t,hi,ht⟩|⟨es,c',hi⟩
   ·rw [hi] at hc;cases hc;exact ht rfl
   ·rw [hi] at hc;cases hc
 have hp1:GrP w1 B p dv fv cv:=⟨z30 rfl hp.d fun k e=>by obtain ⟨c,hc⟩:=Kd.R_typed hp.d k e;exact hne k (Kd.R_base hp.d k e) (.inl ⟨_,_,hc,by decide⟩),
  z30 rfl hp.f fun k e=>by obtain ⟨c,hc⟩:=Kd.R_typed hp.f k e;exact hne k (Kd.R_base hp.f k e) (.inl ⟨_,_,hc,by decide⟩),
  z30 rfl hp.c fun k e=>by obtain ⟨c,hc⟩:=Kd.R_typed hp.c k e;exact hne k (Kd.R_base hp.c k e) (.inl ⟨_,_,hc,by decide⟩)⟩
 have hg1:w1.heap[g]?=w.heap[g]?:=hk g hg hB (.inl rfl);refine ⟨hB,dv,fv,cv,hp1,?_⟩
 rcases hh with hh|⟨bs,n,V,hh,ht,hn⟩
 ·exact .inl (hg1.trans hh)
 ·refine .inr ⟨bs,n,V,hg1.trans hh,ht.keep fun i hi=>?_,hn⟩;obtain ⟨h1,h2,h3⟩:=ht.in_lt hi;refine hne i h1 ?_
  rcases h3 with h3|⟨c,h3⟩
  ·exact .inr h3
  ·exact .inl ⟨c,_,h3,by decide⟩
theorem Gr.below {w w1:World} {g B:Nat} {p:Im} (h:Gr w g B p) (hb:Below w.heap.size w w1):Gr w1 g B p:=h.keep fun i hi _ _=>hb.block i hi
theorem Gr.other {w w1:World} {g g' B B':Nat} {p q:Im} (h:Gr w g B p) (h':Gr w g' B' q) (hne:g≠g') (hf:Fr w w1 (fun i=>i=g')):Gr w1 g B p:=by
 obtain ⟨c,hc⟩:=h'.typed;refine h.keep fun i hi hB hor=>hf.block i hi fun e=>?_
 subst e
 rcases hor with e1|e1
 ·exact hne e1.symm
 ·exact e1 c hc
theorem new_yes (p:Im) (A3:Option Addr) (c3:Nat) (A4:Option Addr) (c4:Nat) (A5:Option Addr) (c5:Nat) (w:World) (k:Nat) (r:List Int)
  (hr3:Kd.C (Kd.int .u8) w A3 p.f3.length p.f3) (hc3:p.f3.length≤c3) (hr4:Kd.C (Kd.int .i64) w A4 p.f4.length p.f4) (hc4:p.f4.length≤c4) (hr5:Kd.C k79 w A5 p.f5.length p.f5) (hc5:p.f5.length≤c5)
  (hl3:p.f3.length≤100) (hl4:p.f4.length≤40) (hl5:p.f5.length≤300) (hE:z0u.f k p.f0 p.f1 p.f2 p.f3 p.f4 p.f5=some (r,0)) :
  Calls Tryz.prog 15 #[.agg #[.int .i64 p.f0,.int .i64 p.f1,.int .i64 p.f2,.slice A3 p.f3.length c3,.slice A4 p.f4.length c4,.slice A5 p.f5.length c5]] w fun e w'=>∃ g,e=.returned (.tuple #[.pointer (some ⟨g,0,none⟩),.int .i64 0])∧Gr w' g w.heap.size p∧Below w.heap.size w w':=by
 have HE:=Aside0.mk (fun W1 (hB:Below w.heap.size w W1)=>z0u.calls k p.f0 p.f1 p.f2 A3 c3 p.f3 A4 c4 p.f4 A5 c5 p.f5 r 0 W1 (Kd.C_below hr3 hB) hc3 (Kd.C_below hr4 hB) hc4 (Kd.C_below hr5 hB) hc5 hE);have HC:=Aside0.mk (fun W1 (hB:Below w.heap.size w W1)=>copied_calls p.f0 p.f1 p.f2 A3 c3 p.f3 A4 c4 p.f4 A5 c5 p.f5 W1 (Kd.C_below hr3 hB) hc3 (Kd.C_below hr4 hB) hc4 (Kd.C_below hr5 hB) hc5 hl3 hl4 hl5);clear hr3 hr4 hr5 hE
 go_enter Tryz.func15,Tryz.ntmps15
 go_wp2_with fail
 refine (HE.out _ (z04 (Below.refl _ _) _)).mono ?_;rintro e w2 ⟨v,rfl,hR,hB⟩;have e0:(w.alloc (Obj.cells #[.int .i64 p.f0,.int .i64 p.f1,.int .i64 p.f2,.slice A3 p.f3.length c3,.slice A4 p.f4.length c4,.slice A5 p.f5.length c5] 26)).heap.size=w.heap.size+1:=by show (w.heap.push _).size=_;simp
 have HB2:=Aside0.mk (z0x (z04 (Below.refl w.heap.size w) (Obj.cells #[.int .i64 p.f0,.int .i64 p.f1,.int .i64 p.f2,.slice A3 p.f3.length c3,.slice A4 p.f4.length c4,.slice A5 p.f5.length c5] 26)) (by omega) hB);have BK2:=Aside0.mk (z0h (z14 w (Obj.cells #[.int .i64 p.f0,.int .i64 p.f1,.int .i64 p.f2,.slice A3 p.f3.length c3,.slice A4 p.f4.length c4,.slice A5 p.f5.length c5] 26)) hB);clear hR hB e0;have k0:=z01 BK2.out 0;have k1:=z01 BK2.out 1;have k2:=z01 BK2.out 2;have k3:=z01 BK2.out 3;have k4:=z01 BK2.out 4;have k5:=z01 BK2.out 5
 go_wp2_with fail
 refine (HC.out _ HB2.out).mono ?_;rintro e w3 ⟨v3,v4,v5,rfl,h3,h4,h5,hB⟩;have HB3:=Aside0.mk (z0x HB2.out HB2.out.size hB);have HP:=Aside0.mk (And.intro (Kd.R_alloc (Kd.R_lower h3 HB2.out.size) (.cells (z1m p v3 v4 v5 0 0 (fun _=>.map none)) 97)) (And.intro (Kd.R_alloc (Kd.R_lower h4 HB2.out.size) (.cells (z1m p v3 v4 v5 0 0 (fun _=>.map none)) 97)) (Kd.R_alloc (Kd.R_lower h5 HB2.out.size) (.cells (z1m p v3 v4 v5 0 0 (fun _=>.map none)) 97))));obtain ⟨A3',n3',c3',e3⟩:∃ A n c,v3=.slice A n c:=by obtain ⟨A,c,h⟩:=Kd.R_slice h3;exact ⟨_,_,_,h⟩
 obtain ⟨A4',n4',c4',e4⟩:∃ A n c,v4=.slice A n c:=by obtain ⟨A,c,h⟩:=Kd.R_slice h4;exact ⟨_,_,_,h⟩
 obtain ⟨A5',n5',c5',e5⟩:∃ A n c,v5=.slice A n c:=by obtain ⟨A,c,h⟩:=Kd.R_slice h5;exact ⟨_,_,_,h⟩
 subst e3;subst e4;subst e5;clear h3 h4 h5 hB k0 k1 k2 k3 k4 k5 HC HE;go_wp2;go_ret2
 exact ⟨w3.heap.size,rfl,⟨HB3.out.size,_,_,_,⟨HP.out.1,HP.out.2.1,HP.out.2.2⟩,.inl (z14 w3 _)⟩,z04 HB3.out _⟩
end Go.Proofs.YtcbnhfnnjkkceaaGreat.X
end
section
namespace Go.Proofs
open Go.Shelf
def Tryz.lays189_ren:Go.Shelf.Ren:=⟨fun|189=>148|125=>94|257=>164|128=>137|129=>138|294=>184|295=>185|296=>186|297=>187|298=>188|299=>189|216=>190|300=>191|301=>192|328=>201|329=>156|330=>157|331=>202|332=>203|215=>139|343=>204|n=>n,fun|28=>23|3=>3|46=>125|0=>0|51=>86|53=>43|4=>4|183=>156|182=>155|131=>160|5=>5|9=>9|218=>181|222=>185|228=>199|229=>147|n=>n,fun|n=>n⟩
theorem Tryz.lays189:Go.Proofs.Lays.n189 Tryz.prog Tryz.lays189_ren:={
 mixed:=by kernel_rfl
 f125:=Tryz.func94.trans (congrArg some (by kernel_rfl))
 f128:=Tryz.func137.trans (congrArg some (by kernel_rfl))
 f129:=Tryz.func138.trans (congrArg some (by kernel_rfl))
 f189:=Tryz.func148.trans (congrArg some (by kernel_rfl))
 f215:=Tryz.func139.trans (congrArg some (by kernel_rfl))
 f216:=Tryz.func190.trans (congrArg some (by kernel_rfl))
 f257:=Tryz.func164.trans (congrArg some (by kernel_rfl))
 f294:=Tryz.func184.trans (congrArg some (by kernel_rfl))
 f295:=Tryz.func185.trans (congrArg some (by kernel_rfl))
 f296:=Tryz.func186.trans (congrArg some (by kernel_rfl))
 f297:=Tryz.func187.trans (congrArg some (by kernel_rfl))
 f298:=Tryz.func188.trans (congrArg some (by kernel_rfl))
 f299:=Tryz.func189.trans (congrArg some (by kernel_rfl))
 f300:=Tryz.func191.trans (congrArg some (by kernel_rfl))
 f301:=Tryz.func192.trans (congrArg some (by kernel_rfl))
 f328:=Tryz.func201.trans (congrArg some (by kernel_rfl))
 f329:=Tryz.func156.trans (congrArg some (by kernel_rfl))
 f330:=Tryz.func157.trans (congrArg some (by kernel_rfl))
 f331:=Tryz.func202.trans (congrArg some (by kernel_rfl))
 f332:=Tryz.func203.trans (congrArg some (by kernel_rfl))
 f343:=Tryz.func204.trans (congrArg some (by kernel_rfl))
 t0:=Tryz.underlying0
 a0:=Tryz.isAgg0
 z0:=Tryz.sizeOf0
 v0:=Tryz.zeroValue0
 t3:=Tryz.underlying3
 a3:=Tryz.isAgg3
 z3:=Tryz.sizeOf3
 v3:=Tryz.zeroValue3
 t4:=Tryz.underlying4
 a4:=Tryz.isAgg4
 z4:=Tryz.sizeOf4
 v4:=Tryz.zeroValue4
 t5:=Tryz.underlying5
 a5:=Tryz.isAgg5
 z5:=Tryz.sizeOf5
 v5:=Tryz.zeroValue5
 t9:=Tryz.underlying9
 a9:=Tryz.isAgg9
 z9:=Tryz.sizeOf9
 v9:=Tryz.zeroValue9
 t28:=Tryz.underlying23
 a28:=Tryz.isAgg23
 z28:=Tryz.sizeOf23
 v28:=Tryz.zeroValue23
 t46:=Tryz.underlying125
 a46:=Tryz.isAgg125
 z46:=Tryz.sizeOf125
 v46:=Tryz.zeroValue125
 t51:=Tryz.underlying86
 a51:=Tryz.isAgg86
 z51:=Tryz.sizeOf86
 v51:=Tryz.zeroValue86
 t53:=Tryz.underlying43
 a53:=Tryz.isAgg43
 z53:=Tryz.sizeOf43
 v53:=Tryz.zeroValue43
 t131:=Tryz.underlying160
 a131:=Tryz.isAgg160
 z131:=Tryz.sizeOf160
 v131:=Tryz.zeroValue160
 t182:=Tryz.underlying155
 a182:=Tryz.isAgg155
 z182:=Tryz.sizeOf155
 v182:=Tryz.zeroValue155
 t183:=Tryz.underlying156
 a183:=Tryz.isAgg156
 z183:=Tryz.sizeOf156
 v183:=Tryz.zeroValue156
 t218:=Tryz.underlying181
 a218:=Tryz.isAgg181
 z218:=Tryz.sizeOf181
 v218:=Tryz.zeroValue181
 t222:=Tryz.underlying185
 a222:=Tryz.isAgg185
 z222:=Tryz.sizeOf185
 v222:=Tryz.zeroValue185
 t228:=Tryz.underlying199
 a228:=Tryz.isAgg199
 z228:=Tryz.sizeOf199
 v228:=Tryz.zeroValue199
 t229:=Tryz.underlying147
 a229:=Tryz.isAgg147
 z229:=Tryz.sizeOf147
 v229:=Tryz.zeroValue147 }
open Go.Sort Go.RowKit in
theorem Tryz.slices_Sort_int (blk off cap:Nat) (zs:List Int) (w:World) (hH:Holds (Value.int .i64) w blk off zs.toArray) (hblk:blk < w.heap.size) (hsz:zs.length < 4611686018427387904) :
  Calls Tryz.prog 148 #[.slice (some ⟨blk,off,none⟩) zs.length cap] w fun e w' =>
   e=.returned (.tuple #[])∧∃ n os,w'=grow (putRow (Value.int .i64) (Sort.ahead w n) blk off (zs.mergeSort fun x y=>decide (x≤y)).toArray) os:=Any.slices_Sort_int Tryz.lays189 blk off cap zs w hH hblk hsz
open Go.RowKit Go.Sort in
theorem Tryz.slices_Sort_int_none (p:Option Addr) (cap:Nat) (w:World) :
  Calls Tryz.prog 148 #[.slice p 0 cap] w fun e w'=>e=.returned (.tuple #[])∧w'=w:=Any.slices_Sort_int_none Tryz.lays189 p cap w
def Tryz.lays107_ren:Go.Shelf.Ren:=⟨fun|107=>149|108=>165|n=>n,fun|28=>23|3=>3|4=>4|0=>0|n=>n,fun|n=>n⟩
theorem Tryz.lays107:Go.Proofs.Lays.n107 Tryz.prog Tryz.lays107_ren:={
 mixed:=by kernel_rfl
 f107:=Tryz.func149.trans (congrArg some (by kernel_rfl))
 f108:=Tryz.func165.trans (congrArg some (by kernel_rfl))
 t0:=Tryz.underlying0
 a0:=Tryz.isAgg0
 z0:=Tryz.sizeOf0
 v0:=Tryz.zeroValue0
 t3:=Tryz.underlying3
 a3:=Tryz.isAgg3
 z3:=Tryz.sizeOf3
 v3:=Tryz.zeroValue3
 t4:=Tryz.underlying4
 a4:=Tryz.isAgg4
 z4:=Tryz.sizeOf4
 v4:=Tryz.zeroValue4
 t28:=Tryz.underlying23
 a28:=Tryz.isAgg23
 z28:=Tryz.sizeOf23
 v28:=Tryz.zeroValue23 }
open Go.Lib in
theorem Tryz.slices_Contains_int (b off n c:Nat) (zs:List Int) (x:Int) (w:World) (hz:n≤zs.length) (hbig:n≤9223372036854775807) (hc:∀ j,j < zs.length→w.cell? ⟨b,off+j,none⟩=some (.int .i64 (zs.getD j 0))) :
  Calls Tryz.prog 149 #[.slice (some ⟨b,off,none⟩) n c,.int .i64 x] w fun e w'=>e=.returned (.bool ((zs.take n).contains x))∧w'=w:=Any.slices_Contains_int Tryz.lays107 b off n c zs x w hz hbig hc
open Go.Lib in
theorem Tryz.slices_Contains_int_empty (a:Option Addr) (c:Nat) (x:Int) (w:World) :
  Calls Tryz.prog 149 #[.slice a 0 c,.int .i64 x] w fun e w'=>e=.returned (.bool false)∧w'=w:=Any.slices_Contains_int_empty Tryz.lays107 a c x w
end Go.Proofs
end
section
namespace Go.Proofs.YtcbnhfnnjkkceaaGreat.X
open Go.RowKit Go.Proofs.YtcbnhfnnjkkceaaGreatW.PrintWords Go.Proofs.YtcbnhfnnjkkceaaGreatW.PrintLast Go.Proofs.YtcbnhfnnjkkceaaGreatW.PrintMore Go.Proofs.YtcbnhfnnjkkceaaGreat.Gr Go.Sort Go.Maps
def srt (zs:List Int):List Int:=zs.mergeSort fun x y=>decide (x≤y)
theorem sortInts_calls {W:World} {base:Nat} {v:Value} {zs:List Int} (h:W.ownsInts base 3 .i64 v zs) (hl:zs.length < 4611686018427387904) :
  Calls Tryz.prog 148 #[v] W fun e w'=>e=.returned (.tuple #[])∧w'.ownsInts base 3 .i64 v (srt zs)∧W.grownBy w' v.ownBlock:=by
 have hlen:(srt zs).length=zs.length:=by unfold srt;rw [List.length_mergeSort]
 rcases h.1.2 with ⟨rfl,h0⟩|⟨g,cap,cur,rfl,hbase,hb,h1,h2,h3,h4⟩
 ·obtain rfl:zs=[]:=List.eq_nil_of_length_eq_zero h0;refine (Tryz.slices_Sort_int_none none 0 W).mono fun e w' ⟨he,hw⟩=>⟨he,?_,?_⟩
  ·rw [hw];unfold srt;rw [List.mergeSort_nil];exact World.ownsInts_nil _ _ _ _
  ·rw [hw];exact ⟨rfl,rfl,rfl,Nat.le_refl _,fun _ _ _=>rfl⟩
 ·rw [Nat.mul_one] at h4;refine (Tryz.slices_Sort_int g 0 cap zs W (holds_of_blockI hb h4) (Array.getElem?_eq_some_iff.1 hb).1 hl).mono ?_;rintro e w' ⟨he,n,os,rfl⟩;refine ⟨he,⟨?_,fun z hz=>h.2 z ((List.mem_mergeSort).1 hz)⟩,?_⟩
  ·have:=ownsRow_sortedI (w:=W) (n:=n) (os:=os) (ss:=zs) (ts:=srt zs) hlen hbase hb h1 h2 h3;rw [hlen];exact this
  ·exact grownBy_sortedI (g:=g) (n:=n) (os:=os) _
theorem contains_calls {W:World} {base:Nat} {v:Value} {zs:List Int} (h:W.ownsInts base 3 .i64 v zs) (x:Int) (hl:zs.length≤9223372036854775807) :
  Calls Tryz.prog 149 #[v,.int .i64 x] W fun e w'=>e=.returned (.bool (zs.contains x))∧W=w':=by
 have hrow:=h.1
 rcases h.1.2 with ⟨rfl,h0⟩|⟨g,cap,cur,rfl,hbase,hb,h1,h2,h3,h4⟩
 ·obtain rfl:zs=[]:=List.eq_nil_of_length_eq_zero h0;exact (Tryz.slices_Contains_int_empty none 0 x W).mono fun e w' ⟨he,hw⟩=>⟨by rw [he];rfl,hw.symm⟩
 ·refine (Tryz.slices_Contains_int g 0 zs.length cap zs x W (Nat.le_refl _) hl (fun j hj=>?_)).mono fun e w' ⟨he,hw⟩=>⟨by rw [he,List.take_length],hw.symm⟩
  rw [Nat.zero_add,hrow.cellAt j (by omega)];simp [List.getD_eq_getElem?_getD,List.getElem?_eq_getElem hj]
theorem mt:MapT Tryz.prog 3 23 95:=⟨Tryz.underlying3,Tryz.underlying95,fun _=>by kernel_rfl⟩
def putR (zs:List Int) (x:Int):List Int:=if zs.contains x then zs else zs ++ [x]
def KeepT (w w':World):Prop:=∀ (i:Nat) (c:Array Value) (t:TypeId) (z:Nat × Nat),w.heap[i]?=some (Obj.cells c t z)→t≠3→w'.heap[i]?=some (Obj.cells c t z)
theorem KeepT.refl (w:World):KeepT w w:=fun _ _ _ _ h _=>h
theorem KeepT.trans {a b c:World} (h:KeepT a b) (k:KeepT b c):KeepT a c:=fun i x t z hi ht=>k i x t z (h i x t z hi ht) ht
theorem KeepT.of_grown {w w':World} {row:Option Nat} (h:w.grownBy w' row) (hr:∀ j,row=some j→(∃ es c,w.heap[j]?=some (.map es c))∨∃ c,w.heap[j]?=some (.cells c 3 (0,0))):KeepT w w':=fun i c t z hi ht =>
 (h.block i (z0s hi) (fun e=>by
  rcases hr i e.symm with ⟨es,c',h1⟩|⟨c',h1⟩
  ·rw [hi] at h1;cases h1
  ·rw [hi] at h1;cases h1;exact ht rfl)).trans hi
theorem KeepT.of_below {w w':World} (h:Below w.heap.size w w'):KeepT w w':=fun i c t z hi _=>(h.block i (z0s hi)).trans hi
def PutPost (w:World) (B:Nat) (bs:Nat→Nat) (n:Nat) (V:Nat→Int→Value) (G:Nat→Int→List Int) (t:Nat) (a x:Int) (e:Ending) (w':World):Prop :=
 e=.returned (.tuple #[])∧(∃ V',Tab Tryz.prog 3 w' B bs (n+1) V' (upd2 G t a (putR (G t a) x))∧∀ s y,s≠t→V' s y=V s y)∧Fr w w' (fun i=>B≤i)∧KeepT w w'
theorem upd2_self {α:Type} (G:Nat→Int→α) (t:Nat) (a:Int):upd2 G t a (G t a)=G:=by
 funext s x
 unfold upd2
 by_cases h:s=t
 ·subst h;rw [if_pos rfl];unfold upd
  by_cases h:x=a
  ·subst h;rw [if_pos rfl]
  ·rw [if_neg h]
 ·rw [if_neg h]
theorem putNew {w w1:World} {B:Nat} {bs:Nat→Nat} {n:Nat} {V:Nat→Int→Value} {G:Nat→Int→List Int} {t:Nat} {a x:Int} {v v':Value} {zs:List Int}
  (hmk:∀ (w1:World) (v':Value) (zs':List Int),w.grownBy w1 (V t a).ownBlock→w1.ownsInts B 3 .i64 v' zs'→zs'.length≤n+1→(v'.ownBlock=(V t a).ownBlock∨∃ g,v'.ownBlock=some g∧w.heap.size≤g) →
   ∃ w2,(Instr.mapUpdate 95 (.map (some (bs t))) (.int .i64 a) v').run Tryz.prog w1=.ok () w2∧Tab Tryz.prog 3 w2 B bs (n+1) (upd2 V t a v') (upd2 G t a zs')∧w1.grownBy w2 (some (bs t)))
  (hv:V t a=v) (hoi:w.ownsInts B 3 .i64 v zs) (h:Tab Tryz.prog 3 w B bs n V G) (ht:t < 4) (ha:Gr.wfI a) (hx:Gr.wfI x) (hl:zs.length≤n) (hB:B≤w.heap.size) (hz:G t a=zs) (hpr:putR zs x=zs ++ [x])
  (hown':w1.ownsRow B 3 1 v' (zs.length+1) (zs.map (Value.int .i64) ++ [.int .i64 x])) (hgrow:(w.alloc (.cells #[.int .i64 x] 3)).grownBy w1 v.ownBlock) (hloc:v'.ownBlock=v.ownBlock∨v'.ownBlock=some (w.alloc (.cells #[.int .i64 x] 3)).heap.size) :
  ∃ w2,(Instr.mapUpdate 95 (.map (some (bs t))) (.int .i64 a) v').run Tryz.prog w1=.ok () w2∧Aside0 (PutPost w B bs n V G t a x (.returned (.tuple #[])) w2):=by
 have hgr:w.grownBy w1 v.ownBlock:=(World.grownBy_alloc w (.cells #[.int .i64 x] 3) v.ownBlock).trans hgrow;obtain ⟨w2,hr2,hT,hg2⟩:=hmk w1 v' (zs ++ [x]) (by rw [hv];exact hgr) (hoi.appended hown' hx) (by simp;omega) (by
  rw [hv]
  rcases hloc with h1|h1
  ·exact .inl h1
  ·exact .inr ⟨_,h1,by show _≤(w.heap.push _).size;simp⟩)
 refine ⟨w2,hr2,⟨rfl,⟨_,by rw [hz,hpr];exact hT,fun s y hs=>z29 _ _ (.inl hs)⟩,(Fr.of_grown hgr fun j hj _=>(hoi.1.lt j hj).1).trans (Fr.of_grown hg2 fun j hj _=>by cases hj;exact h.lo t ht),(KeepT.of_grown hgr fun j hj=>.inr (z2i hoi hj).2).trans (KeepT.of_grown hg2 fun j hj=>by
  cases hj;obtain ⟨es,c,hb⟩:=(h.maps t ht).block;exact .inl ⟨es,c,(hgr.block (bs t) (z0s hb) (fun e=>(h.row_apart ht ha (j:=bs t) (by rw [hv];exact e.symm)).1 t ht rfl)).trans hb⟩)⟩⟩
set_option maxHeartbeats 4000000 in
theorem put_calls {w:World} {B:Nat} {bs:Nat→Nat} {n:Nat} {V:Nat→Int→Value} {G:Nat→Int→List Int} (h:Tab Tryz.prog 3 w B bs n V G) {t:Nat} (ht:t < 4) {a x:Int} (ha:Gr.wfI a) (hx:Gr.wfI x) (hn:n < 1000000) (hB:B≤w.heap.size) :
  Calls Tryz.prog 114 #[.map (some (bs t)),.int .i64 a,.int .i64 x] w (PutPost w B bs n V G t a x):=by
 have hlk:=fun (W:World) (hW:W.heap[bs t]?=w.heap[bs t]?)=>((h.maps t ht).at_ hW).look mt ha
 have hoi:=h.rows t a ht ha;have hle:=h.len t a ht ha;have hblt:=(h.maps t ht).lt;have hcon:=contains_calls hoi x (by omega);have hmk:=fun (w1:World) (v':Value) (zs':List Int)=>h.put (w1:=w1) (v':=v') (zs':=zs') mt ht ha (by unfold maxLen;omega)
 have H:=Aside0.mk h;have HMK:=Aside0.mk hmk;have HOI:=Aside0.mk hoi;have hget:=hlk w rfl;have HLK:=Aside0.mk hlk;have hnb:(V t a).ownBlock≠some (bs t):=fun e=>(h.row_apart ht ha e).1 t ht rfl
 have HVL:Aside0 (∀ j,(V t a).ownBlock=some j→j < w.heap.size):=⟨fun j hj=>(hoi.1.lt j hj).2⟩;clear hmk h;cases hc:(G t a).contains x with
 | true =>
  rw [hc] at hcon;have HCON:=Lib.hid hcon;have HP:Aside0 (PutPost w B bs n V G t a x (.returned (.tuple #[])) w):=⟨⟨rfl,⟨V,by unfold putR;rw [if_pos hc,upd2_self];exact H.out.mono (by omega),fun _ _ _=>rfl⟩,Fr.refl _ _,KeepT.refl _⟩⟩;clear hcon hc hlk hoi hnb;generalize V t a=v at hget HCON
  go_enter Tryz.func114,Tryz.ntmps114
  go_wp2_with (go_at_call 149;refine HCON.out.mono ?_;rintro e w' ⟨rfl,rfl⟩)
  go_end0
  exact HP.out
 | false =>
  rw [hc] at hcon;have HCON:=Lib.hid hcon;obtain ⟨i0,hi,hz0,hz1,hz2⟩:=info_parts infoC_int;have HPR:=Lib.hid (show putR (G t a) x=G t a ++ [x] by unfold putR;rw [hc];rfl);clear hcon hc hlk hoi;obtain ⟨v,hv⟩:∃ v,V t a=v:=⟨_,rfl⟩;obtain ⟨zs,hzs⟩:∃ zs,G t a=zs:=⟨_,rfl⟩;rw [hv,hzs] at HOI;rw [hv] at hget HLK HCON hnb HVL;rw [hzs] at hle HPR;have HV:=Lib.hid hv;have HZ:=Lib.hid hzs;clear hv hzs
  go_enter Tryz.func114,Tryz.ntmps114
  go_wp2_with (first
   | (go_at_call 149;refine HCON.out.mono ?_;rintro e w' ⟨rfl,rfl⟩)
   | (at_builtin;refine wpList_append_own_at _ rfl _ _ 23 rfl B 3 i0 (.int .i64 0) 1 8 Tryz.underlying23 hi hz0 hz1 hz2 rfl (by decide) _ _ _ rfl (HOI.out.1.alloc _) ⟨w.heap.size,0,none⟩ 1 1 [.int .i64 x] rfl rfl (cell_one_new _ _ _) (by simp [Value.oneCell']) (by unfold maxLen;omega) (by omega) (by simp;omega) ?_;intro v' w1 hown' hgrow hnil hloc;obtain ⟨w2,hr2,HQ⟩:=putNew HMK.out HV.out HOI.out H.out ht ha hx (by omega) hB HZ.out HPR.out hown' hgrow hloc;clear hown' hgrow hnil hloc)
   | go_in)
  go_end0
  exact HQ.out
end Go.Proofs.YtcbnhfnnjkkceaaGreat.X
end
section
namespace Go.Proofs.YtcbnhfnnjkkceaaGreat.X
open Go.RowKit Go.Proofs.YtcbnhfnnjkkceaaGreatW.PrintWords Go.Proofs.YtcbnhfnnjkkceaaGreatW.PrintLast Go.Proofs.YtcbnhfnnjkkceaaGreatW.PrintMore Go.Proofs.YtcbnhfnnjkkceaaGreat.Gr
def putG (G:Nat→Int→List Int) (t:Nat) (a x:Int):Nat→Int→List Int:=upd2 G t a (putR (G t a) x)
def edgeG (G:Nat→Int→List Int) (a b:Int):Nat→Int→List Int:=putG (putG G 0 a b) 1 b a
def MkPost (w:World) (B:Nat) (bs:Nat→Nat) (n:Nat) (V:Nat→Int→Value) (G:Nat→Int→List Int) (e:Ending) (w':World):Prop :=
 e=.returned (.tuple #[])∧(∃ V',Tab Tryz.prog 3 w' B bs n V' G∧∀ s y,2≤s→V' s y=V s y)∧Fr w w' (fun i=>B≤i)∧KeepT w w'
set_option maxHeartbeats 4000000 in
theorem edge_calls {w:World} {g b1 B:Nat} {p:Im} {dv fv cv:Value} {st:Int} {bs:Nat→Nat} {n:Nat} {V:Nat→Int→Value} {G:Nat→Int→List Int}
  (hb1:w.heap[b1]?=some (.cells #[.pointer (some ⟨g,0,none⟩)] 29 (0,0))) (hg:w.heap[g]?=some (.cells (z1m p dv fv cv 0 st (fun t=>.map (some (bs t)))) 97 (0,0)))
  (h1:b1 < B) (h2:g < B) (h:Tab Tryz.prog 3 w B bs n V G) {a b:Int} (ha:Gr.wfI a) (hb:Gr.wfI b) (hn:n < 900000) (hB:B≤w.heap.size) :
  Calls Tryz.prog 115 #[.int .i64 a,.int .i64 b,.pointer (some ⟨b1,0,none⟩)] w (MkPost w B bs (n+2) V (edgeG G a b)):=by
 have hp1:=put_calls h (t:=0) (by omega) ha hb (by omega) hB;have hp2:=fun (w1:World) (V1:Nat→Int→Value) (hT:Tab Tryz.prog 3 w1 B bs (n+1) V1 (putG G 0 a b)) (hB1:B≤w1.heap.size)=>put_calls hT (t:=1) (by omega) hb ha (by omega) hB1
 have HP1:=Lib.hid hp1;have HP2:=Aside0.mk hp2;have HB1:=Aside0.mk hb1;have HG:=Aside0.mk hg;have c1:=cell_of_one hb1;have c2:w.cell? ⟨g,9,none⟩=some (.map (some (bs 0))):=(z01 hg 9).trans rfl;have hlt1:Aside0 (b1 < w.heap.size):=⟨z0s hb1⟩;have hlt2:Aside0 (g < w.heap.size):=⟨z0s hg⟩;clear hp1 hp2 hb1 hg h
 go_enter Tryz.func115,Tryz.ntmps115
 go_wp2_with fail
 refine HP1.out.mono ?_;rintro e w1 ⟨rfl,⟨V1,hT,hV1⟩,hf,hk1⟩;have HK1:=Aside0.mk hk1;have HF1:=Aside0.mk hf;have HP3:=Lib.hid (HP2.out w1 V1 hT (Nat.le_trans hB hf.size));have hb1':=(hf.block b1 hlt1.out (by omega)).trans HB1.out;have hg':=(hf.block g hlt2.out (by omega)).trans HG.out;have d1:=cell_of_one hb1';have d2:w1.cell? ⟨g,10,none⟩=some (.map (some (bs 1))):=(z01 hg' 10).trans rfl;have HV1:=Aside0.mk hV1;clear hT hf hk1 c1 c2 hb1' hg' hV1
 go_wp2_with fail
 refine HP3.out.mono ?_;rintro e w2 ⟨rfl,⟨V2,hT,hV2⟩,hf,hk2⟩;have HK2:=Aside0.mk (HK1.out.trans hk2);have HF2:=Aside0.mk (HF1.out.trans hf);have HT:Aside0 (∃ V',Tab Tryz.prog 3 w2 B bs (n+2) V' (edgeG G a b)∧∀ s y,2≤s→V' s y=V s y):=⟨V2,hT,fun s y hs=>(hV2 s y (by omega)).trans (HV1.out s y (by omega))⟩;clear hT hf hV2 hk2;go_wp2;go_end0
 exact ⟨rfl,HT.out,HF2.out,HK2.out⟩
end Go.Proofs.YtcbnhfnnjkkceaaGreat.X
end
section
namespace Go.Proofs.YtcbnhfnnjkkceaaGreat.X
open Go.Proofs.YtcbnhfnnjkkceaaGreatW.PrintWords Go.Proofs.YtcbnhfnnjkkceaaGreat.Gr
abbrev opA (p:Im) (x:Int):Int:=(z0a p.f5 x).f0
abbrev immA (p:Im) (x:Int):Int:=(z0a p.f5 x).f4
structure Rt (p:Im):Prop where
 fits:Fits p.f4 p.f5.length
 jmp:∀ x:Int,0≤x→x < p.f5.length→opA p x=21∨opA p x=22→0≤immA p x∧immA p x≤9223372036854775807
 cal:∀ x:Int,0≤x→x < p.f5.length→opA p x=23→0≤immA p x∧immA p x < p.f4.length
theorem isB_in {p:Im} {a b:Int} (h:isB p a b=true):0≤a∧a < p.f5.length:=by
 unfold isB outL at h
 split at h
 ·assumption
 ·simp at h
theorem z2s {p:Im} {a b:Int}:isB p a b=true↔b ∈ outL p a:=by
 unfold isB;simp
theorem mem_sites {p:Im} {f a:Int}:a ∈ sitesL p f↔0≤a∧a < p.f5.length∧opA p a=23∧immA p a=f:=by
 unfold sitesL;simp only [List.mem_filter,z2b,Bool.and_eq_true,beq_iff_eq];exact ⟨fun h=>⟨h.1.1,h.1.2,h.2.1,h.2.2⟩,fun h=>⟨⟨h.1,h.2.1⟩,h.2.2.1,h.2.2.2⟩⟩
def TabOk (G:Nat→Int→List Int) (E:Nat→Int→Int→Prop):Prop:=∀ t x,t < 4→Gr.wfI x→(G t x).Nodup∧∀ y,y ∈ G t x↔E t x y
theorem TabOk.congr {G:Nat→Int→List Int} {E E':Nat→Int→Int→Prop} (h:TabOk G E) (he:∀ t x y,t < 4→Gr.wfI x→(E t x y↔E' t x y)):TabOk G E':=fun t x ht hx=>⟨(h t x ht hx).1,fun y=>((h t x ht hx).2 y).trans (he t x y ht hx)⟩
theorem putR_mem (zs:List Int) (x y:Int):y ∈ putR zs x↔y ∈ zs∨y=x:=by
 unfold putR
 split
 ·rename_i h
  have h:x ∈ zs:=by simpa using h
  exact ⟨.inl,fun h1=>h1.elim id fun e=>e ▸ h⟩
 ·simp
theorem putR_nodup {zs:List Int} (h:zs.Nodup) (x:Int):(putR zs x).Nodup:=by
 unfold putR
 split
 ·exact h
 ·rename_i hc
  have hc:x ∉ zs:=by simpa using hc
  rw [List.nodup_append];exact ⟨h,by simp,fun a ha b hb e=>hc (by simp at hb;rw [← hb,← e];exact ha)⟩
theorem TabOk.put {G:Nat→Int→List Int} {E:Nat→Int→Int→Prop} (h:TabOk G E) (t:Nat) (a x:Int):TabOk (putG G t a x) (fun s u y=>E s u y∨(s=t∧u=a∧y=x)):=fun s u hs hu=>by
 unfold putG
 by_cases e:s≠t∨u≠a
 ·rw [z29 _ _ e];refine ⟨(h s u hs hu).1,fun y=>⟨fun h1=>.inl (((h s u hs hu).2 y).1 h1),fun h1=>h1.elim ((h s u hs hu).2 y).2 fun h2=>?_⟩⟩
  rcases e with e|e
  ·exact absurd h2.1 e
  ·exact absurd h2.2.1 e
 ·obtain ⟨rfl,rfl⟩:s=t∧u=a:=⟨Classical.byContradiction fun h1=>e (.inl h1),Classical.byContradiction fun h1=>e (.inr h1)⟩;rw [z2v];refine ⟨putR_nodup (h s u hs hu).1 x,fun y=>?_⟩;rw [putR_mem,(h s u hs hu).2 y];simp
def E1 (p:Im) (k:Int) (t:Nat) (x y:Int):Prop:=(t=2∧0≤y∧y < k∧opA p y=23∧immA p y=x)∨(t=3∧0≤y∧y < k∧opA p y=24∧funP p.f4 p.f5.length y=x)
def E2 (p:Im) (k:Int) (ys:List Int) (t:Nat) (x y:Int):Prop:=(t=0∧0≤x∧x < k∧isB p x y=true)∨(t=1∧0≤y∧y < k∧isB p y x=true)∨E1 p p.f5.length t x y∨(t=0∧x=k∧y ∈ ys)∨(t=1∧y=k∧x ∈ ys)
theorem E1_start (p:Im):TabOk (fun _ _=>[]) (E1 p 0):=fun t x _ _=>⟨by simp,fun y=>by
 unfold E1;simp only [List.not_mem_nil,false_iff];omega⟩
section
variable {p:Im} {G:Nat→Int→List Int} {k:Int}
theorem E1_call (h:TabOk G (E1 p k)) (h0:0≤k) (ho:opA p k=23):TabOk (putG G 2 (immA p k) k) (E1 p (k+1)):=(h.put 2 (immA p k) k).congr fun t x y _ _=>by
 unfold E1;constructor
 ·rintro ((⟨h1,h2,h3,h4⟩|⟨h1,h2,h3,h4⟩)|⟨rfl,rfl,rfl⟩)
  ·exact .inl ⟨h1,h2,by omega,h4⟩
  ·exact .inr ⟨h1,h2,by omega,h4⟩
  ·exact .inl ⟨rfl,h0,by omega,ho,rfl⟩
 ·rintro (⟨h1,h2,h3,h4,h5⟩|⟨h1,h2,h3,h4,h5⟩)
  ·by_cases e:y=k
   ·subst e;exact .inr ⟨h1,h5.symm,rfl⟩
   ·exact .inl (.inl ⟨h1,h2,by omega,h4,h5⟩)
  ·by_cases e:y=k
   ·subst e;rw [ho] at h4;omega
   ·exact .inl (.inr ⟨h1,h2,by omega,h4,h5⟩)
theorem E1_back (h:TabOk G (E1 p k)) (h0:0≤k) (ho:opA p k=24):TabOk (putG G 3 (funP p.f4 p.f5.length k) k) (E1 p (k+1)):=(h.put 3 (funP p.f4 p.f5.length k) k).congr fun t x y _ _=>by
 unfold E1;constructor
 ·rintro ((⟨h1,h2,h3,h4⟩|⟨h1,h2,h3,h4⟩)|⟨rfl,rfl,rfl⟩)
  ·exact .inl ⟨h1,h2,by omega,h4⟩
  ·exact .inr ⟨h1,h2,by omega,h4⟩
  ·exact .inr ⟨rfl,h0,by omega,ho,rfl⟩
 ·rintro (⟨h1,h2,h3,h4,h5⟩|⟨h1,h2,h3,h4,h5⟩)
  ·by_cases e:y=k
   ·subst e;rw [ho] at h4;omega
   ·exact .inl (.inl ⟨h1,h2,by omega,h4,h5⟩)
  ·by_cases e:y=k
   ·subst e;exact .inr ⟨h1,h5.symm,rfl⟩
   ·exact .inl (.inr ⟨h1,h2,by omega,h4,h5⟩)
theorem E1_other (h:TabOk G (E1 p k)) (h1:opA p k≠23) (h2:opA p k≠24):TabOk G (E1 p (k+1)):=h.congr fun t x y _ _=>by
 unfold E1;constructor
 ·rintro (⟨a,b,c,d⟩|⟨a,b,c,d⟩)
  ·exact .inl ⟨a,b,by omega,d⟩
  ·exact .inr ⟨a,b,by omega,d⟩
 ·rintro (⟨a,b,c,d,e⟩|⟨a,b,c,d,e⟩)
  ·refine .inl ⟨a,b,?_,d,e⟩;have:y≠k:=fun e1=>h1 (by rw [← e1];exact d)
   omega
  ·refine .inr ⟨a,b,?_,d,e⟩;have:y≠k:=fun e1=>h2 (by rw [← e1];exact d)
   omega
theorem E2_start (h:TabOk G (E1 p p.f5.length)):TabOk G (E2 p 0 []):=h.congr fun t x y _ _=>by
 unfold E2;simp only [List.not_mem_nil,and_false,or_false];constructor
 ·exact fun h=>.inr (.inr h)
 ·rintro (⟨_,_,_,_⟩|⟨_,_,_,_⟩|h)
  ·omega
  ·omega
  ·exact h
theorem E2_edge {ys:List Int} (h:TabOk G (E2 p k ys)) (y0:Int):TabOk (edgeG G k y0) (E2 p k (ys ++ [y0])):=((h.put 0 k y0).put 1 y0 k).congr fun t x y _ _=>by
 unfold E2;simp only [List.mem_append,List.mem_singleton];constructor
 ·rintro ((h1|h1)|h1)
  ·rcases h1 with h1|h1|h1|h1|h1
   ·exact .inl h1
   ·exact .inr (.inl h1)
   ·exact .inr (.inr (.inl h1))
   ·exact .inr (.inr (.inr (.inl ⟨h1.1,h1.2.1,.inl h1.2.2⟩)))
   ·exact .inr (.inr (.inr (.inr ⟨h1.1,h1.2.1,.inl h1.2.2⟩)))
  ·exact .inr (.inr (.inr (.inl ⟨h1.1,h1.2.1,.inr h1.2.2⟩)))
  ·exact .inr (.inr (.inr (.inr ⟨h1.1,h1.2.2,.inr h1.2.1⟩)))
 ·rintro (h1|h1|h1|⟨h1,h2,h3⟩|⟨h1,h2,h3⟩)
  ·exact .inl (.inl (.inl h1))
  ·exact .inl (.inl (.inr (.inl h1)))
  ·exact .inl (.inl (.inr (.inr (.inl h1))))
  ·rcases h3 with h3|h3
   ·exact .inl (.inl (.inr (.inr (.inr (.inl ⟨h1,h2,h3⟩)))))
   ·exact .inl (.inr ⟨h1,h2,h3⟩)
  ·rcases h3 with h3|h3
   ·exact .inl (.inl (.inr (.inr (.inr (.inr ⟨h1,h2,h3⟩)))))
   ·exact .inr ⟨h1,h3,h2⟩
theorem E2_next {ys:List Int} (h:TabOk G (E2 p k ys)) (h0:0≤k) (hy:∀ y,y ∈ ys↔isB p k y=true):TabOk G (E2 p (k+1) []):=h.congr fun t x y _ _=>by
 unfold E2;simp only [List.not_mem_nil,and_false,or_false];constructor
 ·rintro (⟨a,b,c,d⟩|⟨a,b,c,d⟩|h1|⟨a,b,c⟩|⟨a,b,c⟩)
  ·exact .inl ⟨a,b,by omega,d⟩
  ·exact .inr (.inl ⟨a,b,by omega,d⟩)
  ·exact .inr (.inr h1)
  ·subst b;exact .inl ⟨a,h0,by omega,(hy y).1 c⟩
  ·subst b;exact .inr (.inl ⟨a,h0,by omega,(hy x).1 c⟩)
 ·rintro (⟨a,b,c,d⟩|⟨a,b,c,d⟩|h1)
  ·by_cases e:x=k
   ·subst e;exact .inr (.inr (.inr (.inl ⟨a,rfl,(hy y).2 d⟩)))
   ·exact .inl ⟨a,b,by omega,d⟩
  ·by_cases e:y=k
   ·subst e;exact .inr (.inr (.inr (.inr ⟨a,rfl,(hy x).2 d⟩)))
   ·exact .inr (.inl ⟨a,b,by omega,d⟩)
  ·exact .inr (.inr (.inl h1))
end
section
variable {p:Im} {k:Int} (h0:0≤k) (h1:k < p.f5.length)
include h0 h1
theorem isB_jump (ho:opA p k=21) (y:Int):y ∈ [immA p k]↔isB p k y=true:=by
 rw [z2s];unfold outL;rw [if_pos ⟨h0,h1⟩];simp only [ho,if_true]
theorem isB_branch (ho:opA p k=22) (y:Int):y ∈ [immA p k,k+1]↔isB p k y=true:=by
 rw [z2s];unfold outL;rw [if_pos ⟨h0,h1⟩];simp only [ho,if_true,show ¬ ((22:Int)=21) by decide,if_false]
theorem isB_call (ho:opA p k=23) (y:Int):y ∈ [rd p.f4 (immA p k)]↔isB p k y=true:=by
 rw [z2s];unfold outL;rw [if_pos ⟨h0,h1⟩];simp only [ho,if_true,show ¬ ((23:Int)=21) by decide,show ¬ ((23:Int)=22) by decide,if_false]
theorem isB_back (ho:opA p k=24) {zs:List Int} (hz:∀ z,z ∈ zs↔0≤z∧z < p.f5.length∧opA p z=23∧immA p z=funP p.f4 p.f5.length k) (y:Int):y ∈ zs.map (·+1)↔isB p k y=true:=by
 rw [z2s];unfold outL;rw [if_pos ⟨h0,h1⟩];simp only [ho,if_true,show ¬ ((24:Int)=21) by decide,show ¬ ((24:Int)=22) by decide,show ¬ ((24:Int)=23) by decide,if_false,List.mem_map];exact ⟨fun ⟨z,hz1,e⟩=>⟨z,mem_sites.2 ((hz z).1 hz1),e⟩,fun ⟨z,hz1,e⟩=>⟨z,(hz z).2 (mem_sites.1 hz1),e⟩⟩
theorem isB_goes (hg:goesB (opA p k)=true) (h21:opA p k≠21) (h22:opA p k≠22) (h23:opA p k≠23) (h24:opA p k≠24) (y:Int):y ∈ [k+1]↔isB p k y=true:=by
 rw [z2s];unfold outL;rw [if_pos ⟨h0,h1⟩];simp only [if_neg h21,if_neg h22,if_neg h23,if_neg h24,hg,if_true]
omit h0 h1 in
theorem isB_ends (hg:goesB (opA p k)=false) (h21:opA p k≠21) (h22:opA p k≠22) (h23:opA p k≠23) (h24:opA p k≠24) (y:Int):y ∈ ([]:List Int)↔isB p k y=true:=by
 rw [z2s];unfold outL;simp [if_neg h21,if_neg h22,if_neg h23,if_neg h24,hg]
end
theorem E2_sites {p:Im} {G:Nat→Int→List Int} {k:Int} {ys:List Int} (h:TabOk G (E2 p k ys)) {f:Int} (hf:Gr.wfI f) (z:Int):z ∈ G 2 f↔0≤z∧z < p.f5.length∧opA p z=23∧immA p z=f:=by
 rw [(h 2 f (by omega) hf).2 z];unfold E2 E1;simp
theorem nodup_le:∀ {n:Nat} {zs:List Int},zs.Nodup→(∀ z ∈ zs,0≤z∧z < n)→zs.length≤n
 | 0,zs,_,hz=>by
  cases zs with
  | nil=>simp
  | cons z r =>
   have:=hz z (by simp);omega
 | n+1,zs,h,hz=>by
  by_cases hm:(n:Int) ∈ zs
  ·have h1:=nodup_le (n:=n) (h.erase (n:Int)) (fun z hz1=>by
    have h2:=(h.mem_erase_iff).1 hz1;have:=hz z h2.2;omega)
   rw [List.length_erase_of_mem hm] at h1;omega
  ·have h1:=nodup_le (n:=n) h (fun z hz1=>by
    have:=hz z hz1;have:z≠n:=fun e=>hm (e ▸ hz1)
    omega)
   omega
end Go.Proofs.YtcbnhfnnjkkceaaGreat.X
end
section
namespace Go.Proofs.YtcbnhfnnjkkceaaGreat.X
open Go.RowKit Go.Proofs.YtcbnhfnnjkkceaaGreatW.PrintWords Go.Proofs.YtcbnhfnnjkkceaaGreat.Gr
theorem kept_some (k:Nat) (a b c d e x:Int):∃ r,z11.f (k+2) a b c d e x=some r:=by
 unfold z11.f
 split <;> (rw [z11.j0];split <;> (rw [z11.j1];split <;> split <;> exact ⟨_,rfl⟩))
theorem reg_some (a:Int):∃ b,z1j.f a=some b:=by
 unfold z1j.f
 split <;> exact ⟨_,rfl⟩
theorem wrong_j3 (k:Nat) (x57:Bool) (a b c d e a' b' c' d' e':Int):∃ r,z0m.j3 (k+1) x57 a b c d e a' b' c' d' e'=some r:=by
 rw [z0m.j3]
 split
 ·exact ⟨_,rfl⟩
 ·split <;> exact ⟨_,rfl⟩
theorem wrong_j2 (k:Nat) (x3:Int) (x5 x45:Bool) (a b c d e a' b' c' d' e':Int):∃ r,z0m.j2 (k+2) x3 x5 x45 a b c d e a' b' c' d' e'=some r:=by
 rw [z0m.j2];obtain ⟨t,ht⟩:=reg_some d;rw [ht];simp only [Option.bind_some]
 repeat' split
 all_goals first|exact ⟨_,rfl⟩|exact wrong_j3 k _ _ _ _ _ _ _ _ _ _ _
theorem wrong_j1 (k:Nat) (x3:Int) (x5 x33:Bool) (a b c d e a' b' c' d' e':Int):∃ r,z0m.j1 (k+3) x3 x5 x33 a b c d e a' b' c' d' e'=some r:=by
 rw [z0m.j1];obtain ⟨t,ht⟩:=reg_some c;rw [ht];simp only [Option.bind_some]
 repeat' split
 all_goals first|exact ⟨_,rfl⟩|exact wrong_j2 k _ _ _ _ _ _ _ _ _ _ _ _ _
theorem wrong_j0 (k:Nat) (x3:Int) (x5:Bool) (a b c d e a' b' c' d' e':Int):∃ r,z0m.j0 (k+4) x3 x5 a b c d e a' b' c' d' e'=some r:=by
 rw [z0m.j0];obtain ⟨t,ht⟩:=reg_some b;rw [ht];simp only [Option.bind_some]
 repeat' split
 all_goals exact wrong_j1 k _ _ _ _ _ _ _ _ _ _ _ _ _
theorem forms_some:∃ l,z2n.f=some l∧l.length=26:=⟨_,rfl,rfl⟩
theorem wrong_some (k:Nat) (a b c d e:Int) (h0:0≤a) (h1:a≤25):∃ r,z0m.f (k+4) a b c d e=some r:=by
 obtain ⟨l,hl,hn⟩:=forms_some;unfold z0m.f;rw [hl,Option.bind_some,if_pos h0,if_pos (by rw [hn];omega)];obtain ⟨t,ht⟩:=kept_some (k+2) a b c d e ((z17 l a).f1);rw [ht,Option.bind_some]
 repeat' split
 all_goals exact wrong_j0 k _ _ _ _ _ _ _ _ _ _ _ _
theorem put_l0:∀ (n k:Nat) (x4:List Int) (a b c d e:Int),n≤8→n < k→x4.length+n≤100→∃ r,z18.l0 k x4 (8 * (n:Int) - 8) a b c d e=some (r,0)∧r.length=x4.length+n
 | 0,k,x4,a,b,c,d,e,_,hk,hx=>by
  obtain ⟨k,rfl⟩:∃ j,k=j+1:=⟨k - 1,by omega⟩;rw [z18.l0,if_neg (by omega)];exact ⟨_,rfl,rfl⟩
 | n+1,k,x4,a,b,c,d,e,hn,hk,hx=>by
  obtain ⟨k,rfl⟩:∃ j,k=j+1:=⟨k - 1,by omega⟩;rw [z18.l0,if_pos (by omega),if_pos (by omega),if_pos (by omega),show wrap64 (8 * ((n+1:Nat):Int) - 8 - 8)=8 * (n:Int) - 8 by unfold wrap64;omega];obtain ⟨r,hr,hl⟩:=put_l0 n k (x4 ++ [(shr .u64 e (8 * ((n+1:Nat):Int) - 8)) % 256]) a b c d e (by omega) (by omega) (by simp;omega);exact ⟨r,hr,by rw [hl];simp;omega⟩
theorem put_some (a b c d e:Int):∃ r er,z18.f 20 a b c d e=some (r,er)∧r.length≤12∧(er=0→0≤a∧a≤25):=by
 unfold z18.f z1z.f
 by_cases h0:a ≥ 0
 ·rw [if_pos h0,Option.bind_some]
  by_cases h1:a≤25
  ·rw [if_pos (decide_eq_true h1)];obtain ⟨t,ht⟩:=wrong_some 16 a b c d e h0 h1;rw [ht,Option.bind_some]
   split
   ·obtain ⟨r,hr,hl⟩:=put_l0 8 20 [a % 256,b % 256,c % 256,d % 256] a b c d e (by omega) (by omega) (by simp);exact ⟨r,0,hr,by rw [hl];simp,fun _=>⟨h0,h1⟩⟩
   ·exact ⟨_,_,rfl,by simp,fun h=>by simp at h⟩
  ·rw [if_neg (by simpa using h1)];exact ⟨_,_,rfl,by simp,fun h=>by simp at h⟩
 ·rw [if_neg h0,Option.bind_some];exact ⟨_,_,rfl,by simp,fun h=>by simp at h⟩
def putV (i:In):List Int × Int:=(z18.f 20 i.f0 i.f1 i.f2 i.f3 i.f4).getD ([],0)
theorem put_f (i:In) {k:Nat} (hk:20≤k):z18.f k i.f0 i.f1 i.f2 i.f3 i.f4=some (putV i):=by
 obtain ⟨r,er,h,_⟩:=put_some i.f0 i.f1 i.f2 i.f3 i.f4;have:putV i=(r,er):=by unfold putV;rw [h];rfl
 rw [this];exact at_rounds (fun k=>z18.mono i.f0 i.f1 i.f2 i.f3 i.f4 k) hk h
theorem putV_len (i:In):(putV i).1.length≤12:=by
 obtain ⟨r,er,h,hl,_⟩:=put_some i.f0 i.f1 i.f2 i.f3 i.f4;have:putV i=(r,er):=by unfold putV;rw [h];rfl
 rw [this];exact hl
def firstE (p:Im):List In→Int
 | []=>if z1s (z1t p.f4 p.f5) (z1i p.f5.length) ≥ 0 then 7 else 0
 | i :: r=>if (putV i).2=0 then firstE p r else (putV i).2
theorem enc_l1 (p:Im) (hf:Fits p.f4 p.f5.length):∀ (d k x:Nat) (x4:List Int),x+d=p.f5.length→d+21≤k→x4.length≤1000+12 * x →
  ∃ r,z0u.l1 k x4 p.f5 (p.f5.length:Int) x p.f0 p.f1 p.f2 p.f3 p.f4 p.f5=some (r,firstE p (p.f5.drop x))
 | 0,k,x,x4,hx,hk,hl=>by
  obtain ⟨k,rfl⟩:∃ j,k=j+1:=⟨k - 1,by omega⟩;rw [z0u.l1,if_neg (by omega)];unfold z2r.f;rw [if_pos hf,Option.bind_some,List.drop_eq_nil_of_le (by omega)];unfold firstE
  split <;> exact ⟨_,rfl⟩
 | d+1,k,x,x4,hx,hk,hl=>by
  obtain ⟨k,rfl⟩:∃ j,k=j+1:=⟨k - 1,by omega⟩;have hlt:x < p.f5.length:=by omega
  have h256:=hf.2.2.1;rw [z0u.l1,if_pos (by omega),if_pos (by omega),if_pos (by omega),put_f _ (by omega),Option.bind_some,List.drop_eq_getElem_cons hlt];have e:z0a p.f5 x=p.f5[x]:=by
   unfold z0a;simp [List.getD_eq_getElem?_getD,List.getElem?_eq_getElem hlt]
  rw [e];have hpl:=putV_len p.f5[x];unfold firstE
  split
  ·rw [if_pos (by omega),show wrap64 ((x:Int)+1)=((x+1:Nat):Int) by unfold wrap64;omega];exact enc_l1 p hf d k (x+1) _ (by omega) (by omega) (by rw [List.length_append];omega)
  ·exact ⟨_,rfl⟩
theorem enc_l0 (p:Im) (hf:Fits p.f4 p.f5.length):∀ (d k x:Nat) (x4:List Int),x+d=p.f4.length→d+300≤k→x4.length≤200+2 * x →
  ∃ r,z0u.l0 k x4 p.f4 (p.f4.length:Int) x p.f0 p.f1 p.f2 p.f3 p.f4 p.f5=some (r,firstE p p.f5)
 | 0,k,x,x4,hx,hk,hl=>by
  obtain ⟨k,rfl⟩:∃ j,k=j+1:=⟨k - 1,by omega⟩;have h16:=hf.2.1;have h256:=hf.2.2.1;rw [z0u.l0,if_neg (by omega),Option.bind_some,if_pos (by simp;omega)];exact enc_l1 p hf p.f5.length k 0 _ (by omega) (by omega) (by simp;omega)
 | d+1,k,x,x4,hx,hk,hl=>by
  obtain ⟨k,rfl⟩:∃ j,k=j+1:=⟨k - 1,by omega⟩;have h16:=hf.2.1;rw [z0u.l0,if_pos (by omega),if_pos (by omega),if_pos (by omega),Option.bind_some,if_pos (by simp;omega),show wrap64 ((x:Int)+1)=((x+1:Nat):Int) by unfold wrap64;omega];exact enc_l0 p hf d k (x+1) _ (by omega) (by omega) (by simp;omega)
def z2h (p:Im):Prop:=(0≤p.f0∧p.f0≤64)∧(0≤p.f1∧p.f1≤16)∧(0≤p.f2∧p.f2≤16)∧(p.f3.length:Int)≤p.f0∧(1≤p.f4.length∧p.f4.length≤16)∧rd p.f4 0=0 ∧
 (∀ j:Nat,j < p.f4.length - 1→rd p.f4 j < rd p.f4 (j+1))∧wrap64 (rd p.f4 ((p.f4.length:Int) - 1)+1)≤p.f5.length∧p.f5.length≤256
theorem within_f (a lo hi:Int):z0q.f a lo hi=some (decide (lo≤a∧a≤hi)):=by
 unfold z0q.f
 by_cases h:a ≥ lo
 ·rw [if_pos h];simp [h]
 ·rw [if_neg h];simp [h]
theorem rd_drop1 (l:List Int) (x:Nat) (h:x < l.length - 1):rd (l.drop 1) x=rd l ((x:Int)+1):=by
 unfold rd;rw [show ((x:Int)+1).toNat=x+1 by omega,Int.toNat_natCast,List.getD_eq_getElem?_getD,List.getD_eq_getElem?_getD,List.getElem?_drop,Nat.add_comm 1 x]
theorem sizes_l0 (p:Im) (h16:p.f4.length≤16) (h1:1≤p.f4.length):∀ (d k x:Nat),x+d=p.f4.length - 1→d < k →
  ∃ b,z0n.l0 k (p.f4.drop 1) ((p.f4.drop 1).length:Int) x p.f0 p.f1 p.f2 p.f3 p.f4 p.f5=some b ∧
   (b=true↔(∀ j:Nat,x≤j→j < p.f4.length - 1→rd p.f4 j < rd p.f4 (j+1))∧wrap64 (rd p.f4 ((p.f4.length:Int) - 1)+1)≤p.f5.length∧p.f5.length≤256)
 | 0,k,x,hx,hk=>by
  obtain ⟨k,rfl⟩:∃ j,k=j+1:=⟨k - 1,by omega⟩;rw [z0n.l0,if_neg (by rw [List.length_drop];omega),show wrap64 ((p.f4.length:Int) - 1)=(p.f4.length:Int) - 1 by unfold wrap64;omega,if_pos (by omega),if_pos (by omega),within_f,Option.bind_some];refine ⟨_,rfl,?_⟩;rw [decide_eq_true_eq];exact ⟨fun h=>⟨fun j h2 h3=>by omega,h.1,by omega⟩,fun h=>⟨h.2.1,by omega⟩⟩
 | d+1,k,x,hx,hk=>by
  obtain ⟨k,rfl⟩:∃ j,k=j+1:=⟨k - 1,by omega⟩;rw [z0n.l0,if_pos (by rw [List.length_drop];omega),if_pos (by omega),if_pos (by rw [List.length_drop];omega),if_pos (by omega),rd_drop1 p.f4 x (by omega)]
  by_cases h:rd p.f4 ((x:Int)+1)≤rd p.f4 x
  ·rw [if_pos h];refine ⟨_,rfl,fun h2=>by simp at h2,fun h2=>?_⟩;have:=h2.1 x (Nat.le_refl _) (by omega);omega
  ·rw [if_neg h,show wrap64 ((x:Int)+1)=((x+1:Nat):Int) by unfold wrap64;omega];obtain ⟨b,hb,hi⟩:=sizes_l0 p h16 h1 d k (x+1) (by omega) (by omega);refine ⟨b,hb,hi.trans ⟨fun h2=>⟨fun j h3 h4=>?_,h2.2⟩,fun h2=>⟨fun j h3 h4=>h2.1 j (by omega) h4,h2.2⟩⟩⟩
   by_cases e:j=x
   ·subst e;omega
   ·exact h2.1 j (by omega) h4
theorem sizes_f (p:Im) {k:Nat} (hk:20≤k):∃ b,z0n.f k p.f0 p.f1 p.f2 p.f3 p.f4 p.f5=some b∧(b=true↔z2h p):=by
 obtain ⟨k,rfl⟩:∃ j,k=j+1:=⟨k - 1,by omega⟩;have hj:z0n.j0 (k+1) true p.f0 p.f1 p.f2 p.f3 p.f4 p.f5=some false:=by rw [z0n.j0,if_pos rfl]
 have hno:¬ z2h p→∃ b,some false=some b∧(b=true↔z2h p):=fun h=>⟨false,rfl,fun e=>by simp at e,fun e=>absurd e h⟩
 unfold z0n.f;rw [within_f,Option.bind_some]
 by_cases c0:0≤p.f0∧p.f0≤64
 ·rw [if_pos (decide_eq_true c0),within_f,Option.bind_some]
  by_cases c1:0≤p.f1∧p.f1≤16
  ·rw [if_pos (decide_eq_true c1),within_f,Option.bind_some]
   by_cases c2:0≤p.f2∧p.f2≤16
   ·rw [if_pos (decide_eq_true c2)]
    by_cases c3:(p.f3.length:Int) > p.f0
    ·rw [if_pos c3,hj];exact hno fun h=>by have:=h.2.2.2.1;omega
    ·rw [if_neg c3,within_f,Option.bind_some]
     by_cases c4:1≤(p.f4.length:Int)∧(p.f4.length:Int)≤16
     ·rw [if_pos (decide_eq_true c4),if_pos (by omega),z0n.j0]
      by_cases c5:rd p.f4 0=0
      ·rw [if_neg (by simp [c5]),if_pos (by omega)];obtain ⟨b,hb,hi⟩:=sizes_l0 p (by omega) (by omega) (p.f4.length - 1) k 0 (by omega) (by omega);refine ⟨b,hb,hi.trans ⟨fun h=>⟨c0,c1,c2,by omega,⟨by omega,by omega⟩,c5,fun j hj=>h.1 j (by omega) hj,h.2.1,h.2.2⟩,fun h=>⟨fun j _ hj=>h.2.2.2.2.2.2.1 j hj,h.2.2.2.2.2.2.2.1,h.2.2.2.2.2.2.2.2⟩⟩⟩
      ·rw [if_pos (by simpa using c5)];exact hno fun h=>c5 h.2.2.2.2.2.1
     ·rw [if_neg (by simpa using c4),hj];exact hno fun h=>c4 ⟨by have:=h.2.2.2.2.1.1;omega,by have:=h.2.2.2.2.1.2;omega⟩
   ·rw [if_neg (by simpa using c2),hj];exact hno fun h=>c2 h.2.2.1
  ·rw [if_neg (by simpa using c1),hj];exact hno fun h=>c1 h.2.1
 ·rw [if_neg (by simpa using c0),hj];exact hno fun h=>c0 h.1
theorem z2h.mono {p:Im} (h:z2h p):∀ (d i:Nat),i+d < p.f4.length→rd p.f4 i≤rd p.f4 ((i+d:Nat):Int)
 | 0,i,_=>by simp
 | d+1,i,hi=>by
  have h1:=z2h.mono h d i (by omega);have h2:=h.2.2.2.2.2.2.1 (i+d) (by omega);rw [show ((i+(d+1):Nat):Int)=((i+d:Nat):Int)+1 by omega];omega
def wfF (p:Im):Prop:=∀ z ∈ p.f4,-9223372036854775808≤z∧z≤9223372036854775807
theorem z2h.fits {p:Im} (h:z2h p) (hw:wfF p):Fits p.f4 p.f5.length:=by
 refine ⟨h.2.2.2.2.1.1,h.2.2.2.2.1.2,h.2.2.2.2.2.2.2.2,h.2.2.2.2.2.1,fun j hj=>⟨?_,?_⟩⟩
 ·have:=z2h.mono h j 0 (by omega);rw [Nat.zero_add] at this;have h0:=h.2.2.2.2.2.1;simp only [Int.natCast_zero] at this;omega
 ·have:rd p.f4 j ∈ p.f4:=by
   unfold rd;rw [Int.toNat_natCast,List.getD_eq_getElem?_getD,List.getElem?_eq_getElem hj];exact List.getElem_mem hj
  exact (hw _ this).2
open Classical in
noncomputable def encV (p:Im):Int:=if z2h p then firstE p p.f5 else 3
theorem enc_f (p:Im) (hw:wfF p):∃ r,z0u.f 700 p.f0 p.f1 p.f2 p.f3 p.f4 p.f5=some (r,encV p):=by
 obtain ⟨b,hb,hi⟩:=sizes_f p (k:=700) (by omega);unfold z0u.f encV;rw [hb,Option.bind_some]
 by_cases h:z2h p
 ·rw [if_pos (hi.2 h),if_pos h,Option.bind_some,Option.bind_some];have h3:p.f3.length≤64:=by have:=h.1;have:=h.2.2.2.1;omega
  rw [if_pos (by simp),Option.bind_some,if_pos (by simp;omega),Option.bind_some,Option.bind_some,if_pos (by simp;omega)];have:=h.2.2.2.2.1;exact enc_l0 p (h.fits hw) p.f4.length 700 0 _ (by omega) (by omega) (by simp;omega)
 ·rw [if_neg (fun e=>h (hi.1 e)),if_neg h];exact ⟨_,rfl⟩
theorem firstP_none {α:Type} (q:α→Bool):∀ l:List α,z1s q l < 0→∀ x ∈ l,q x=false
 | [],_,x,hx=>by simp at hx
 | c :: r,h,x,hx=>by
  unfold z1s at h
  by_cases hc:q c=true
  ·rw [if_pos hc] at h;omega
  ·rw [if_neg hc] at h
   by_cases hr:z1s q r < 0
   ·rcases List.mem_cons.1 hx with e|e
    ·rw [e]
     simpa using hc
    ·exact firstP_none q r hr x e
   ·rw [if_neg hr] at h;omega
theorem firstP_some {α:Type} (q:α→Bool):∀ l:List α,(∀ x ∈ l,q x=false)→z1s q l < 0
 | [],_=>by simp [z1s]
 | c :: r,h=>by
  unfold z1s;rw [if_neg (by simp [h c (by simp)]),if_pos (firstP_some q r fun x hx=>h x (List.mem_cons_of_mem _ hx))];omega
theorem firstE_zero {p:Im}:∀ {l:List In},firstE p l=0↔(∀ i ∈ l,(putV i).2=0)∧∀ x ∈ z1i p.f5.length,z1t p.f4 p.f5 x=false
 | []=>by
  unfold firstE;constructor
  ·intro h
   split at h
   ·omega
   ·rename_i h1
    exact ⟨by simp,firstP_none _ _ (by omega)⟩
  ·intro h;rw [if_neg];have:=firstP_some _ _ h.2;omega
 | i :: r=>by
  unfold firstE;constructor
  ·intro h
   split at h
   ·rename_i h1
    have:=(firstE_zero (l:=r)).1 h;exact ⟨fun j hj=>(List.mem_cons.1 hj).elim (fun e=>e ▸ h1) (this.1 j),this.2⟩
   ·rename_i h1
    exact absurd h h1
  ·intro h;rw [if_pos (h.1 i (by simp))];exact (firstE_zero (l:=r)).2 ⟨fun j hj=>h.1 j (List.mem_cons_of_mem _ hj),h.2⟩
theorem z2w {p:Im}:encV p=0↔z2h p∧(∀ i ∈ p.f5,(putV i).2=0)∧∀ x ∈ z1i p.f5.length,z1t p.f4 p.f5 x=false:=by
 unfold encV
 by_cases h:z2h p
 ·rw [if_pos h,firstE_zero];exact ⟨fun h2=>⟨h,h2⟩,fun h2=>h2.2⟩
 ·rw [if_neg h];exact ⟨fun h2=>by omega,fun h2=>absurd h2.1 h⟩
def wfP (p:Im):Prop:=wfF p∧∀ i ∈ p.f5,0≤i.f4
theorem rdI_mem {l:List In} {x:Int} (h0:0≤x) (h1:x < l.length):z0a l x ∈ l:=by
 unfold z0a;rw [List.getD_eq_getElem?_getD,List.getElem?_eq_getElem (by omega)];exact List.getElem_mem _
theorem encV_rt {p:Im} (hw:wfP p) (h:encV p=0):Rt p:=by
 obtain ⟨hs,hp,hst⟩:=z2w.1 h;have hf:=hs.fits hw.1;refine ⟨hf,fun x h0 h1 ho=>?_,fun x h0 h1 ho=>?_⟩
 ·have:=hst x (z2b.2 ⟨h0,h1⟩);unfold z1t z2o at this;rw [Bool.or_eq_false_iff] at this;have h2:=this.2;rw [if_pos ho] at h2;simp only [Bool.or_eq_false_iff,decide_eq_false_iff_not] at h2;have hfp:=funP_in hf h0 h1;have hlo:=rd_fits hf hfp.1 hfp.2;have hhi:=hiP_fits hf hfp.1;unfold loP at h2;show 0≤(z0a p.f5 x).f4∧(z0a p.f5 x).f4≤9223372036854775807;omega
 ·have:=hst x (z2b.2 ⟨h0,h1⟩);unfold z1t z2o at this;rw [Bool.or_eq_false_iff] at this;have h2:=this.2;have ho':(z0a p.f5 x).f0=23:=ho;rw [if_neg (by rw [ho'];decide),if_pos ho'] at h2;simp only [decide_eq_false_iff_not] at h2;have:=hw.2 _ (rdI_mem h0 h1);show 0≤(z0a p.f5 x).f4∧(z0a p.f5 x).f4 < _;omega
structure InsOk (i:In):Prop where
 op0:0≤i.f0
 op1:i.f0≤25
 a0:0≤i.f1
 a1:i.f1≤7
 b0:0≤i.f2
 b1:i.f2≤7
 c0:0≤i.f3
 c1:i.f3≤8
 c7:i.f0≠17→i.f0≠18→i.f3≤7
def Chn (p:Im):Int→List Int→Prop
 | _,[]=>True
 | f,y :: r=>∃ z,y=z+1∧z ∈ sitesL p f∧Chn p (funP p.f4 p.f5.length z) r
def Nxt (p:Im) (x:Int) (os:List Int) (x':Int) (os':List Int):Prop :=
 (opA p x=21∧x'=immA p x∧os'=os)∨(opA p x=22∧(x'=immA p x∨x'=x+1)∧os'=os)∨(opA p x=23∧x'=rd p.f4 (immA p x)∧os'=(x+1) :: os)∨(opA p x=24∧os=x' :: os') ∨
  (goesB (opA p x)=true∧opA p x≠22∧opA p x≠23∧x'=x+1∧os'=os)
theorem fun_of {p:Im} (hs:z2h p) {f y:Int} (h0:0≤f) (h1:f < p.f4.length) (hy0:0≤y) (hy1:y < p.f5.length) (hlo:loP p.f4 f≤y) (hhi:y < hiP p.f4 p.f5.length f):funP p.f4 p.f5.length y=f:=by
 have e:funP p.f4 p.f5.length y=funUp p.f4 y p.f4.length:=by
  unfold funP;rw [if_neg (by omega)]
 rw [e];have key:∀ m:Nat,f < m→m≤p.f4.length→funUp p.f4 y m=f:=by
  intro m
  induction m with
  | zero=>intro h;omega
  | succ m ih =>
   intro hm hl;unfold funUp
   by_cases em:f=m
   ·rw [if_pos (by rw [← em];exact hlo),em]
   ·have hfm:f < m:=(by omega);have h2:rd p.f4 (f+1)≤rd p.f4 m:=by
     have:=hs.mono (m - (f+1).toNat) (f+1).toNat (by omega);rw [show (((f+1).toNat:Nat):Int)=f+1 by omega,show (((f+1).toNat+(m - (f+1).toNat):Nat):Int)=(m:Int) by omega] at this;exact this
    unfold hiP at hhi;rw [if_pos (by omega)] at hhi;rw [if_neg (by omega)];exact ih hfm (by omega)
 exact key p.f4.length (by omega) (Nat.le_refl _)
theorem fun_lo {p:Im} (hf:Fits p.f4 p.f5.length) {x:Int} (h0:0≤x) (h1:x < p.f5.length):loP p.f4 (funP p.f4 p.f5.length x)≤x:=by
 have e:funP p.f4 p.f5.length x=funUp p.f4 x p.f4.length:=by
  unfold funP;rw [if_neg (by omega)]
 have h:=(funP_in hf h0 h1).1;rw [e] at h ⊢;have key:∀ m:Nat,0≤funUp p.f4 x m→rd p.f4 (funUp p.f4 x m)≤x:=by
  intro m
  induction m with
  | zero=>intro h;simp [funUp] at h
  | succ m ih =>
   intro h;unfold funUp at h ⊢
   split
   ·rename_i h2
    exact h2
   ·rename_i h2
    rw [if_neg h2] at h;exact ih h
 exact key _ h
section
variable {p:Im} (hw:wfP p) (h:encV p=0)
include hw h
theorem same_goes {x:Int} (h0:0≤x) (h1:x < p.f5.length) (hg:goesB (opA p x)=true) (h2:x+1 < p.f5.length):funP p.f4 p.f5.length (x+1)=funP p.f4 p.f5.length x:=by
 obtain ⟨hs,hp,hst⟩:=z2w.1 h;have hf:=hs.fits hw.1;have hfp:=funP_in hf h0 h1;have hst:=hst x (z2b.2 ⟨h0,h1⟩);unfold z1t z2o at hst;have hg:goesB (z0a p.f5 x).f0=true:=hg;rw [Bool.or_eq_false_iff,hg,Bool.true_and] at hst;have h3:=hst.1;simp only [decide_eq_false_iff_not] at h3;have h4:=fun_lo hf h0 h1;exact fun_of hs hfp.1 hfp.2 (by omega) h2 (by omega) (by omega)
theorem same_jump {x:Int} (h0:0≤x) (h1:x < p.f5.length) (ho:opA p x=21∨opA p x=22) (h2:immA p x < p.f5.length):0≤immA p x∧funP p.f4 p.f5.length (immA p x)=funP p.f4 p.f5.length x:=by
 obtain ⟨hs,hp,hst⟩:=z2w.1 h;have hf:=hs.fits hw.1;have hfp:=funP_in hf h0 h1;have hst:=hst x (z2b.2 ⟨h0,h1⟩);unfold z1t z2o at hst;rw [Bool.or_eq_false_iff] at hst;have h3:=hst.2;rw [if_pos ho] at h3;simp only [Bool.or_eq_false_iff,decide_eq_false_iff_not] at h3;have hlo:=rd_fits hf hfp.1 hfp.2;have e:immA p x=(z0a p.f5 x).f4:=rfl;have hi0:0≤immA p x:=by
  unfold loP at h3;omega
 exact ⟨hi0,fun_of hs hfp.1 hfp.2 hi0 h2 (by rw [e];omega) (by rw [e];omega)⟩
theorem same_call {f:Int} (h0:0≤f) (h1:f < p.f4.length) (h2:rd p.f4 f < p.f5.length):0≤rd p.f4 f∧funP p.f4 p.f5.length (rd p.f4 f)=f:=by
 obtain ⟨hs,hp,hst⟩:=z2w.1 h;have hf:=hs.fits hw.1;have h3:=rd_fits hf h0 h1;refine ⟨h3.1,fun_of hs h0 h1 h3.1 h2 (Int.le_refl _) ?_⟩;unfold hiP
 split
 ·rename_i h4
  have:=hs.2.2.2.2.2.2.1 f.toNat (by omega);rw [show ((f.toNat:Nat):Int)=f by omega] at this;exact this
 ·exact h2
theorem nxt_next {x x':Int} {os os':List Int} (h0:0≤x) (h1:x < p.f5.length) (hC:Chn p (funP p.f4 p.f5.length x) os) (hN:Nxt p x os x' os') :
  x' ∈ nextL p x∧(0≤x'→x' < p.f5.length→Chn p (funP p.f4 p.f5.length x') os'):=by
 have hm:x' ∈ nextL p x↔x' ∈ outL p x:=mem_uniq x' _;unfold outL at hm;rw [if_pos ⟨h0,h1⟩] at hm;simp only at hm;have eo:opA p x=(z0a p.f5 x).f0:=rfl;have ei:immA p x=(z0a p.f5 x).f4:=rfl;rw [← eo,← ei] at hm
 rcases hN with ⟨ho,hx,rfl⟩|⟨ho,hx,rfl⟩|⟨ho,hx,rfl⟩|⟨ho,rfl⟩|⟨hg,n22,n23,hx,rfl⟩
 ·rw [if_pos ho] at hm;refine ⟨hm.2 (by simp [hx]),fun _ h3=>?_⟩;rw [hx] at h3 ⊢;rw [(same_jump hw h h0 h1 (.inl ho) h3).2];exact hC
 ·rw [if_neg (by omega),if_pos ho] at hm
  rcases hx with hx|hx
  ·refine ⟨hm.2 (by simp [hx]),fun _ h3=>?_⟩;rw [hx] at h3 ⊢;rw [(same_jump hw h h0 h1 (.inr ho) h3).2];exact hC
  ·refine ⟨hm.2 (by simp [hx]),fun _ h3=>?_⟩;rw [hx] at h3 ⊢;rw [same_goes hw h h0 h1 (by rw [ho];rfl) h3];exact hC
 ·rw [if_neg (by omega),if_neg (by omega),if_pos ho] at hm;refine ⟨hm.2 (by simp [hx]),fun _ h3=>?_⟩;have hc:=(encV_rt hw h).cal x h0 h1 ho;rw [hx] at h3 ⊢;rw [(same_call hw h hc.1 hc.2 h3).2];exact ⟨x,rfl,mem_sites.2 ⟨h0,h1,ho,rfl⟩,hC⟩
 ·rw [if_neg (by omega),if_neg (by omega),if_neg (by omega),if_pos ho] at hm;obtain ⟨z,hz,hzs,hzC⟩:=hC;refine ⟨hm.2 (by rw [hz];exact List.mem_map_of_mem hzs),fun _ h3=>?_⟩;obtain ⟨z0,z1,z2,_⟩:=mem_sites.1 hzs;rw [hz] at h3 ⊢;rw [same_goes hw h z0 z1 (by rw [z2];rfl) h3];exact hzC
 ·have n21:opA p x≠21:=fun e=>by rw [e] at hg;exact absurd hg (by decide)
  have n24:opA p x≠24:=fun e=>by rw [e] at hg;exact absurd hg (by decide)
  rw [if_neg n21,if_neg n22,if_neg n23,if_neg n24,if_pos hg] at hm;refine ⟨hm.2 (by simp [hx]),fun _ h3=>?_⟩;rw [hx] at h3 ⊢;rw [same_goes hw h h0 h1 hg h3];exact hC
end
end Go.Proofs.YtcbnhfnnjkkceaaGreat.X
end
section
namespace Go.Proofs.YtcbnhfnnjkkceaaGreat.X
open Go.RowKit Go.Proofs.YtcbnhfnnjkkceaaGreatW.PrintWords Go.Proofs.YtcbnhfnnjkkceaaGreatW.PrintLast Go.Proofs.YtcbnhfnnjkkceaaGreatW.PrintMore Go.Proofs.YtcbnhfnnjkkceaaGreat.Gr
def srtG (G:Nat→Int→List Int) (k:Nat):Nat→Int→List Int:=fun t x=>if t < k then srt (G t x) else G t x
def midG (G:Nat→Int→List Int) (k:Nat) (left:Int→Bool):Nat→Int→List Int:=fun t x=>if t < k then srt (G t x) else if t=k then (if left x then G t x else srt (G t x)) else G t x
theorem srt_length (zs:List Int):(srt zs).length=zs.length:=by unfold srt;rw [List.length_mergeSort]
theorem srt_nil:srt []=[]:=by unfold srt;rw [List.mergeSort_nil]
section
variable {w:World} {B n k:Nat} {bs:Nat→Nat} {V:Nat→Int→Value} {G:Nat→Int→List Int}
theorem mid_start (h:Tab Tryz.prog 3 w B bs n V (srtG G k)) (hk:k < 4) {left:Int→Bool} (hl:∀ x,Gr.wfI x→left x=false→V k x=nilS):Tab Tryz.prog 3 w B bs n V (midG G k left):=by
 refine h.ext fun t x ht hx=>?_
 unfold srtG midG
 by_cases h1:t < k
 ·rw [if_pos h1,if_pos h1]
 ·rw [if_neg h1,if_neg h1]
  by_cases h2:t=k
  ·subst h2;rw [if_pos rfl];cases hlx:left x with
   | true=>simp
   | false =>
    have h3:=h.rows t x ht hx;rw [hl x hx hlx] at h3;have h4:=h3.1.2;unfold srtG at h4;rw [if_neg h1] at h4
    rcases h4 with ⟨_,h5⟩|⟨g,c,cur,hv,_⟩
    ·rw [List.eq_nil_of_length_eq_zero h5,srt_nil];simp
    ·simp [nilS] at hv
  ·rw [if_neg h2]
theorem mid_end {left:Int→Bool} (h:Tab Tryz.prog 3 w B bs n V (midG G k left)) (hl:∀ x,Gr.wfI x→left x=false):Tab Tryz.prog 3 w B bs n V (srtG G (k+1)):=by
 refine h.ext fun t x ht hx=>?_
 unfold srtG midG
 by_cases h1:t < k
 ·rw [if_pos h1,if_pos (by omega)]
 ·rw [if_neg h1]
  by_cases h2:t=k
  ·subst h2;rw [if_pos rfl,hl x hx,if_neg (by simp:¬ (false=true)),if_pos (by omega)]
  ·rw [if_neg h2,if_neg (by omega)]
theorem mid_step {left:Int→Bool} {w1:World} (h:Tab Tryz.prog 3 w B bs n V (midG G k left)) (hk:k < 4) {x:Int} (hx:Gr.wfI x) (hlx:left x=true) (hg:w.grownBy w1 (V k x).ownBlock) (ho:w1.ownsInts B 3 .i64 (V k x) (srt (G k x))) :
  Tab Tryz.prog 3 w1 B bs n V (midG G k (fun z=>left z && !(z == x))):=by
 have hl:=h.len k x hk hx;have e0:midG G k left k x=G k x:=by unfold midG;rw [if_neg (by omega),if_pos rfl,hlx];rfl
 rw [e0] at hl;refine (h.turn hk hx hg ho (by rw [srt_length];exact hl)).ext fun t y ht hy=>?_
 unfold upd2 upd midG
 by_cases h1:t=k
 ·subst h1;simp only [if_pos,Nat.lt_irrefl,if_false]
  by_cases h2:y=x
  ·subst h2;simp
  ·simp [h2]
 ·rw [if_neg h1]
  by_cases h2:t < k
  ·rw [if_pos h2,if_pos h2]
  ·rw [if_neg h2,if_neg h2,if_neg h1,if_neg h1]
end
theorem sort_calls {w:World} {u:FrameMode} {g B:Nat} {p:Im} {dv fv cv:Value} {st:Int} {bs:Nat→Nat} {n:Nat} {V:Nat→Int→Value} {G:Nat→Int→List Int}
  (hg:w.heap[g]?=some (.cells (z1m p dv fv cv 0 st (fun t=>.map (some (bs t)))) 97 (0,0))) (h2:g < B) (h:Tab Tryz.prog 3 w B bs n V G) (hn:n < 1000000) (hB:B≤w.heap.size) :
  CallsD Tryz.prog 113 #[.pointer (some ⟨g,0,none⟩)] u w fun e u' w'=>u'=u∧(e=.returned (.tuple #[])∧Tab Tryz.prog 3 w' B bs n V (srtG G 4)∧Fr w w' (fun i=>B≤i)):=by
 have HG:=Aside0.mk hg;have HT:=Aside0.mk h;clear hg h
 go_enter_d Tryz.func113,Tryz.ntmps113
 go_wp2_with fail
 refine z27 (n:=19) (S:=fun w'=>w'.cell? ⟨g,9,none⟩=some (.map (some (bs 0)))∧w'.cell? ⟨g,10,none⟩=some (.map (some (bs 1)))∧w'.cell? ⟨g,11,none⟩=some (.map (some (bs 2)))∧w'.cell? ⟨g,12,none⟩=some (.map (some (bs 3)))) (ds:=[16]) #[zf,zf,zf,zf,zf,zf,zf,zf,zf,zf,zf,zf,zf,zf,zf,zf,zf,zf,zf] (by kernel_rfl) rfl rfl ⟨(z01 HG.out 9).trans rfl,(z01 HG.out 10).trans rfl,(z01 HG.out 11).trans rfl,(z01 HG.out 12).trans rfl⟩ (fun hHeld=>?_);refine pure_ (i:=0) (N:=some 6) (v:=?_) (a':=?_) #[zt,zf,zf,zf,zf,zf,zf,zf,zf,zf,zf,zf,zf,zf,zf,zf,zf,zf,zf] rfl rfl (by kernel_rfl) (fun _ _ _ h=>h) (Or.inl ⟨by rfl,?_⟩) ?_ ?_;rotate_left
 ·intro w';go_simp;with_reducible rfl
 rotate_left
 ·simp only [Act.put,zq1,zq2,zq3,i64_w,i32_w];rfl
 refine pure_ (i:=1) (N:=some 7) (v:=?_) (a':=?_) #[zt,zt,zf,zf,zf,zf,zf,zf,zf,zf,zf,zf,zf,zf,zf,zf,zf,zf,zf] rfl rfl (by kernel_rfl) (fun _ _ _ h=>h) (Or.inl ⟨by rfl,?_⟩) ?_ ?_;rotate_left
 ·intro w';go_simp;with_reducible rfl
 rotate_left
 ·simp only [Act.put,zq1,zq2,zq3,i64_w,i32_w];rfl
 refine pure_ (i:=2) (N:=some 8) (v:=?_) (a':=?_) #[zt,zt,zt,zf,zf,zf,zf,zf,zf,zf,zf,zf,zf,zf,zf,zf,zf,zf,zf] rfl rfl (by kernel_rfl) (fun _ _ _ h=>h) (Or.inl ⟨by rfl,?_⟩) ?_ ?_;rotate_left
 ·intro w';go_simp;with_reducible rfl
 rotate_left
 ·simp only [Act.put,zq1,zq2,zq3,i64_w,i32_w];rfl
 refine pure_ (i:=4) (N:=some 10) (v:=?_) (a':=?_) #[zt,zt,zt,zf,zt,zf,zf,zf,zf,zf,zf,zf,zf,zf,zf,zf,zf,zf,zf] rfl rfl (by kernel_rfl) (fun _ _ _ h=>h) (Or.inl ⟨by rfl,?_⟩) ?_ ?_;rotate_left
 ·intro w';go_simp;with_reducible rfl
 rotate_left
 ·simp only [Act.put,zq1,zq2,zq3,i64_w,i32_w];rfl
 refine pure_ (i:=5) (N:=some 11) (v:=?_) (a':=?_) #[zt,zt,zt,zf,zt,zt,zf,zf,zf,zf,zf,zf,zf,zf,zf,zf,zf,zf,zf] rfl rfl (by kernel_rfl) (fun _ _ _ h=>h) (Or.inl ⟨by rfl,?_⟩) ?_ ?_;rotate_left
 ·intro w';go_simp;with_reducible rfl
 rotate_left
 ·simp only [Act.put,zq1,zq2,zq3,i64_w,i32_w];rfl
 refine pure_ (i:=6) (N:=some 12) (v:=?_) (a':=?_) #[zt,zt,zt,zf,zt,zt,zt,zf,zf,zf,zf,zf,zf,zf,zf,zf,zf,zf,zf] rfl rfl (by kernel_rfl) (fun _ _ _ h=>h) (Or.inl ⟨by rfl,?_⟩) ?_ ?_;rotate_left
 ·intro w';go_simp;with_reducible rfl
 rotate_left
 ·simp only [Act.put,zq1,zq2,zq3,i64_w,i32_w];rfl
 refine pure_ (i:=8) (N:=some 14) (v:=?_) (a':=?_) #[zt,zt,zt,zf,zt,zt,zt,zf,zt,zf,zf,zf,zf,zf,zf,zf,zf,zf,zf] rfl rfl (by kernel_rfl) (fun _ _ _ h=>h) (Or.inl ⟨by rfl,?_⟩) ?_ ?_;rotate_left
 ·intro w';go_simp;with_reducible rfl
 rotate_left
 ·simp only [Act.put,zq1,zq2,zq3,i64_w,i32_w];rfl
 refine pure_ (i:=9) (N:=some 15) (v:=?_) (a':=?_) #[zt,zt,zt,zf,zt,zt,zt,zf,zt,zt,zf,zf,zf,zf,zf,zf,zf,zf,zf] rfl rfl (by kernel_rfl) (fun _ _ _ h=>h) (Or.inl ⟨by rfl,?_⟩) ?_ ?_;rotate_left
 ·intro w';go_simp;with_reducible rfl
 rotate_left
 ·simp only [Act.put,zq1,zq2,zq3,i64_w,i32_w];rfl
 refine pure_ (i:=10) (N:=some 16) (v:=?_) (a':=?_) #[zt,zt,zt,zf,zt,zt,zt,zf,zt,zt,zt,zf,zf,zf,zf,zf,zf,zf,zf] rfl rfl (by kernel_rfl) (fun _ _ _ h=>h) (Or.inl ⟨by rfl,?_⟩) ?_ ?_;rotate_left
 ·intro w';go_simp;with_reducible rfl
 rotate_left
 ·simp only [Act.put,zq1,zq2,zq3,i64_w,i32_w];rfl
 refine pure_ (i:=12) (N:=some 18) (v:=?_) (a':=?_) #[zt,zt,zt,zf,zt,zt,zt,zf,zt,zt,zt,zf,zt,zf,zf,zf,zf,zf,zf] rfl rfl (by kernel_rfl) (fun _ _ _ h=>h) (Or.inl ⟨by rfl,?_⟩) ?_ ?_;rotate_left
 ·intro w';go_simp;with_reducible rfl
 rotate_left
 ·simp only [Act.put,zq1,zq2,zq3,i64_w,i32_w];rfl
 refine pure_ (i:=13) (N:=some 19) (v:=?_) (a':=?_) #[zt,zt,zt,zf,zt,zt,zt,zf,zt,zt,zt,zf,zt,zt,zf,zf,zf,zf,zf] rfl rfl (by kernel_rfl) (fun _ _ _ h=>h) (Or.inl ⟨by rfl,?_⟩) ?_ ?_;rotate_left
 ·intro w';go_simp;with_reducible rfl
 rotate_left
 ·simp only [Act.put,zq1,zq2,zq3,i64_w,i32_w];rfl
 refine pure_ (i:=14) (N:=some 20) (v:=?_) (a':=?_) #[zt,zt,zt,zf,zt,zt,zt,zf,zt,zt,zt,zf,zt,zt,zt,zf,zf,zf,zf] rfl rfl (by kernel_rfl) (fun _ _ _ h=>h) (Or.inl ⟨by rfl,?_⟩) ?_ ?_;rotate_left
 ·intro w';go_simp;with_reducible rfl
 rotate_left
 ·simp only [Act.put,zq1,zq2,zq3,i64_w,i32_w];rfl
 refine pure_ (i:=18) (N:=some 24) (v:=?_) (a':=?_) #[zt,zt,zt,zf,zt,zt,zt,zf,zt,zt,zt,zf,zt,zt,zt,zf,zf,zf,zt] rfl rfl (by kernel_rfl) (fun _ _ _ h=>h) (Or.inl ⟨by rfl,?_⟩) ?_ ?_;rotate_left
 ·intro w';go_simp;with_reducible rfl
 rotate_left
 ·simp only [Act.put,zq1,zq2,zq3,i64_w,i32_w];rfl
 refine take_ (i:=3) (N:=some 9) (v:=?_) (a':=?_) #[zt,zt,zt,zt,zt,zt,zt,zf,zt,zt,zt,zf,zt,zt,zt,zf,zf,zf,zt] rfl rfl (by kernel_rfl) (fun _ _ _ h=>h) (Or.inl ⟨by rfl,?_⟩) hHeld ?_ ?_;rotate_left
 ·rintro w' ⟨s0,s1,s2,s3⟩;go_simp;with_reducible rfl
 rotate_left
 ·simp only [Act.put,zq1,zq2,zq3,i64_w,i32_w];rfl
 refine take_ (i:=7) (N:=some 13) (v:=?_) (a':=?_) #[zt,zt,zt,zt,zt,zt,zt,zt,zt,zt,zt,zf,zt,zt,zt,zf,zf,zf,zt] rfl rfl (by kernel_rfl) (fun _ _ _ h=>h) (Or.inl ⟨by rfl,?_⟩) hHeld ?_ ?_;rotate_left
 ·rintro w' ⟨s0,s1,s2,s3⟩;go_simp;with_reducible rfl
 rotate_left
 ·simp only [Act.put,zq1,zq2,zq3,i64_w,i32_w];rfl
 refine take_ (i:=11) (N:=some 17) (v:=?_) (a':=?_) #[zt,zt,zt,zt,zt,zt,zt,zt,zt,zt,zt,zt,zt,zt,zt,zf,zf,zf,zt] rfl rfl (by kernel_rfl) (fun _ _ _ h=>h) (Or.inl ⟨by rfl,?_⟩) hHeld ?_ ?_;rotate_left
 ·rintro w' ⟨s0,s1,s2,s3⟩;go_simp;with_reducible rfl
 rotate_left
 ·simp only [Act.put,zq1,zq2,zq3,i64_w,i32_w];rfl
 refine take_ (i:=15) (N:=some 21) (v:=?_) (a':=?_) #[zt,zt,zt,zt,zt,zt,zt,zt,zt,zt,zt,zt,zt,zt,zt,zt,zf,zf,zt] rfl rfl (by kernel_rfl) (fun _ _ _ h=>h) (Or.inl ⟨by rfl,?_⟩) hHeld ?_ ?_;rotate_left
 ·rintro w' ⟨s0,s1,s2,s3⟩;go_simp;with_reducible rfl
 rotate_left
 ·simp only [Act.put,zq1,zq2,zq3,i64_w,i32_w];rfl
 refine last_ (i:=16) (N:=some 22) #[zt,zt,zt,zt,zt,zt,zt,zt,zt,zt,zt,zt,zt,zt,zt,zt,zt,zf,zt] rfl rfl (by kernel_rfl) (by decide) (fun K hK=>?_);refine z1c (w1:=?_) (v:=?_) (by rfl) rfl ?_ ?_;rotate_left 2
 ·go_simp;constructor
  ·rfl
  ·rfl
 refine hK.out _ _ ?_;clear hK K;refine norm_ (a':=?_) ?_ ?_;rotate_left
 ·show Act.put _ (some 22) _=_;simp only [Act.put,zq1,zq2,zq3,i64_w,i32_w];rfl
 refine pure_ (i:=17) (N:=some 23) (v:=?_) (a':=?_) #[zt,zt,zt,zt,zt,zt,zt,zt,zt,zt,zt,zt,zt,zt,zt,zt,zt,zt,zt] rfl rfl (by kernel_rfl) (fun _ _ _ h=>h) (Or.inl ⟨by rfl,?_⟩) ?_ ?_;rotate_left
 ·intro w';go_simp;with_reducible rfl
 rotate_left
 ·simp only [Act.put,zq1,zq2,zq3,i64_w,i32_w];rfl
 refine done_ (by kernel_rfl) ?_;obtain ⟨W1,hW1⟩:∃ W1,(w.alloc (Obj.cells #[.map (some (bs 0)),.map (some (bs 1)),.map (some (bs 2)),.map (some (bs 3))] 95)).drew=W1:=⟨_,rfl⟩;have HL1:Aside0 (W1.heap[w.heap.size]?=some (.cells #[.map (some (bs 0)),.map (some (bs 1)),.map (some (bs 2)),.map (some (bs 3))] 95 (0,0))):=⟨by rw [← hW1];exact z14 w _⟩;have HT1:Aside0 (Tab Tryz.prog 3 W1 B bs n V (srtG G 0)):=⟨by rw [← hW1];exact ((HT.out.alloc _).drew).ext (fun t x _ _=>by unfold srtG;rw [if_neg (by omega)])⟩;have HF1:Aside0 (Fr w W1 (fun i=>B≤i)):=⟨by rw [← hW1];exact Fr.mono (Fr.of_below (z05 (z04 (Below.refl w.heap.size w) _))) (fun i _ h=>Nat.le_trans hB h)⟩;simp only [hW1];clear hW1 hHeld;go_wp2
 go_loopw [24] (fun v24 wr=>∃ (k:Nat),v24=.int .i64 k∧Aside0 (k≤4)∧Aside0 (wr.heap[w.heap.size]?=some (.cells #[.map (some (bs 0)),.map (some (bs 1)),.map (some (bs 2)),.map (some (bs 3))] 95 (0,0)))∧Aside0 (Tab Tryz.prog 3 wr B bs n V (srtG G k))∧Aside0 (Fr w wr (fun i=>B≤i)))
  (fun i _=>4 - (intOf i).toNat)
 case atStart=>exact ⟨0,rfl,⟨by omega⟩,HL1,HT1,HF1⟩
 case round =>
  clear HL1 HT1 HF1;obtain ⟨k,rfl,hk,hl,ht,hf⟩:=hrel;have hk:=hk.out
  by_cases hlt:k < 4
  ·obtain ⟨wo,rfl⟩:∃ wo:World,wo=wr:=⟨_,rfl⟩;have hkd:decide ((k:Int) < 4)=true:=decide_eq_true (by omega);have hc:wo.cell? ⟨w.heap.size,k,none⟩=some (.map (some (bs k))):=by
    have h0:=z01 hl.out k;rw [h0]
    rcases k with _|_|_|_|k
    ·rfl
    ·rfl
    ·rfl
    ·rfl
    ·omega
   go_wp2_with (first
    | (at_range;refine map_range mt rfl _ rfl rfl (ht.out.maps k hlt) ?_;intro w6 left cnt hgo hnil hgr hs6;have HGO:=Aside0.mk hgo;have HNIL:=Aside0.mk hnil;have HGR:=Aside0.mk hgr;clear hgo hnil hgr)
    | go_in)
   go_frame
   have hF6:Fr w w6 (fun i=>B≤i):=hf.out.trans (Fr.of_grown HGR.out (by simp));have hT6:Tab Tryz.prog 3 w6 B bs n V (midG G k left):=mid_start (ht.out.keep fun i hi=>HGR.out.block i (ht.out.in_lt hi).2.1 (by simp)) hlt HNIL.out;have hL6:=(HGR.out.block w.heap.size (z0s hl.out) (by simp)).trans hl.out;have HF6:=Aside0.mk hF6;have HT6:=Aside0.mk hT6;have HL6:=Aside0.mk hL6;have HR:=Aside0.mk hs6;have HBW:=Aside0.mk (Nat.le_trans hB hf.out.size);clear hF6 hT6 hL6 hc hs6
   go_loopw [5] (fun v5 wi=>∃ (left:Int→Bool) (cnt:Nat),Aside0 (z2e Tryz.prog 3 wi (bs k) wo.heap.size n (V k) left cnt)∧Aside0 (Tab Tryz.prog 3 wi B bs n V (midG G k left))∧Aside0 (wi.heap[w.heap.size]?=some (.cells #[.map (some (bs 0)),.map (some (bs 1)),.map (some (bs 2)),.map (some (bs 3))] 95 (0,0)))∧Aside0 (Fr w wi (fun i=>B≤i)))
    (fun _ wi=>wi.rangeLeft (bs k) wo.heap.size)
   case atStart=>exact ⟨left,cnt,HGO,HT6,HL6,HF6⟩
   case round =>
    clear HGO HT6 HL6 HF6 HNIL HGR;obtain ⟨left,cnt,hgo,hT,hL,hF⟩:=hrel
    go_wp2_with (first
     | (at_next;refine map_next mt rfl _ rfl rfl hgo.out ?_ ?_)
     | go_in)
    ·intro hdone;have HD:=Aside0.mk (mid_end hT.out hdone);clear hdone;go_wp2
     go_roundw
     case rel=>exact ⟨k+1,by go_num,⟨by omega⟩,hL,HD,hF⟩
     case measure=>simp [intOf];omega
    ·intro x w7 cnt7 hwx hlx hgo7 hlt7 hg7 hs7 hen;obtain ⟨since,seen,c0,hit⟩:=hgo.out.iter;have hno:¬ Tab.In bs V wo.heap.size:=fun hi=>by
      rcases (hT.out.in_lt hi).2.2 with ⟨es,c,e⟩|⟨c,e⟩ <;> (rw [hit] at e;cases e)
     have hT7:Tab Tryz.prog 3 w7 B bs n V (midG G k left):=hT.out.fr (Fr.of_grown hg7 (S:=fun i=>i=wo.heap.size) (fun j hj _=>by injection hj with hj;exact hj.symm)) (fun i hi=>by rw [hi];exact hno);have hL7:=(hg7.block w.heap.size (z0s hL.out) (fun e=>by injection e with e;rw [e,hit] at hL;exact absurd hL.out (by simp))).trans hL.out;have hF7:Fr w w7 (fun i=>B≤i):=hF.out.trans (Fr.of_grown hg7 (fun j hj _=>by injection hj with hj;rw [← hj];exact HBW.out));have hrow:=hT7.rows k x hlt hwx;rw [show midG G k left k x=G k x by unfold midG;rw [if_neg (by omega),if_pos rfl,hlx];rfl] at hrow;have hlen:=hT7.len k x hlt hwx;rw [show midG G k left k x=G k x by unfold midG;rw [if_neg (by omega),if_pos rfl,hlx];rfl] at hlen;obtain ⟨since7,seen7,c7,hit7⟩:=hgo7.iter;have hne1:some (bs k)≠(V k x).ownBlock:=fun e=>(hT7.row_apart hlt hwx e.symm).1 k hlt rfl
     have hne2:some wo.heap.size≠(V k x).ownBlock:=fun e=>by
      obtain ⟨_,c,hc⟩:=z2i hrow e.symm;rw [hit7] at hc;cases hc
     have hne3:some w.heap.size≠(V k x).ownBlock:=fun e=>by
      obtain ⟨_,c,hc⟩:=z2i hrow e.symm;rw [hL7] at hc;injection hc with hc
      injection hc with _ hc
      exact absurd hc (by decide)
     have hpost:∀ (e:Ending) (w8:World),(e=.returned (.tuple #[])∧w8.ownsInts B 3 .i64 (V k x) (srt (G k x))∧w7.grownBy w8 (V k x).ownBlock)→e=.returned (.tuple #[])∧Aside0 (z2e Tryz.prog 3 w8 (bs k) wo.heap.size n (V k) (fun z=>left z && !(z == x)) cnt7)∧Aside0 (Tab Tryz.prog 3 w8 B bs n V (midG G k (fun z=>left z && !(z == x)))) ∧
       Aside0 (w8.heap[w.heap.size]?=some (.cells #[.map (some (bs 0)),.map (some (bs 1)),.map (some (bs 2)),.map (some (bs 3))] 95 (0,0)))∧Aside0 (Fr w w8 (fun i=>B≤i)):=fun e w8 ⟨he,ho,hg⟩ =>
      ⟨he,⟨hgo7.kept hg hne1 hne2⟩,⟨mid_step hT7 hlt hwx hlx hg ho⟩,⟨(hg.block _ (z0s hL7) hne3).trans hL7⟩,⟨hF7.trans (Fr.of_grown hg fun j hj _=>(hrow.1.lt j hj).1)⟩⟩
     have HS:=Lib.hid ((sortInts_calls hrow (by omega)).mono hpost);have hleq:=Lib.hid hgo.out.left_eq;have HLT:=Lib.hid hlt7;clear hpost hne1 hne2 hne3 hlen hrow hF7 hL7 hT7 hno hit hit7 hgo7 hg7 hs7 hlx hlt7
     go_wp2_with (first
      | (go_at_call 148;refine HS.out.mono ?_;rintro e w8 ⟨rfl,h1,h2,h3,h4⟩)
      | go_in)
     go_roundw
     case rel=>exact ⟨_,cnt7,h1,h2,h3,h4⟩
     case measure=>rw [h1.out.left_eq,hleq.out];exact HLT.out
  ·have ek:k=4:=by omega
   subst ek;go_wp2;go_end0
   exact ⟨rfl,ht.out,hf.out⟩
end Go.Proofs.YtcbnhfnnjkkceaaGreat.X
end
section
namespace Go.Proofs.YtcbnhfnnjkkceaaGreat.X
open Go.Proofs.YtcbnhfnnjkkceaaGreatW.PrintWords Go.Proofs.YtcbnhfnnjkkceaaGreat.Gr
theorem asc_ext:∀ {l m:List Int},l.Pairwise (· < ·)→m.Pairwise (· < ·)→(∀ z,z ∈ l↔z ∈ m)→l=m
 | [],[],_,_,_=>rfl
 | [],b :: m,_,_,h=>absurd ((h b).2 (by simp)) (by simp)
 | a :: l,[],_,_,h=>absurd ((h a).1 (by simp)) (by simp)
 | a :: l,b :: m,hl,hm,h=>by
  rw [List.pairwise_cons] at hl hm;have h1:a=b:=by
   rcases List.mem_cons.1 ((h a).1 (by simp)) with e|e
   ·exact e
   ·rcases List.mem_cons.1 ((h b).2 (by simp)) with e'|e'
    ·exact e'.symm
    ·have:=hm.1 a e;have:=hl.1 b e';omega
  subst h1;rw [asc_ext hl.2 hm.2 fun z=>⟨fun hz=>?_,fun hz=>?_⟩]
  ·rcases List.mem_cons.1 ((h z).1 (List.mem_cons_of_mem _ hz)) with e|e
   ·have:=hl.1 z hz;omega
   ·exact e
  ·rcases List.mem_cons.1 ((h z).2 (List.mem_cons_of_mem _ hz)) with e|e
   ·have:=hm.1 z hz;omega
   ·exact e
theorem srt_asc {zs:List Int} (h:zs.Nodup):(srt zs).Pairwise (· < ·):=by
 have h1:(srt zs).Pairwise (fun x y=>decide (x≤y)=true):=List.pairwise_mergeSort (fun a b c h1 h2=>by simp at h1 h2 ⊢;omega) (fun a b=>by simp;omega) zs;have h2:(srt zs).Nodup:=(List.mergeSort_perm zs _).nodup_iff.2 h;exact (h1.and h2).imp fun {a b} ⟨x,y⟩=>by
  have:a≤b:=by simpa using x
  omega
theorem mem_srt {zs:List Int} (z:Int):z ∈ srt zs↔z ∈ zs:=List.mem_mergeSort
theorem places_asc (n:Nat):(z1i n).Pairwise (· < ·):=by
 unfold z1i;rw [List.pairwise_map];exact List.pairwise_lt_range.imp fun {a b} h=>by
  show (a:Int) < (b:Int);omega
theorem mem_places (n:Nat) (z:Int):z ∈ z1i n↔0≤z∧z < n:=z2b
theorem rows_asc (p:Im) (t:Nat) (x:Int):(rowsG p t x).Pairwise (· < ·):=by
 unfold rowsG nextL prevL sitesL backsL
 split
 ·exact uniq_asc _
 ·split
  ·exact (places_asc _).filter _
  ·split <;> exact (places_asc _).filter _
theorem rows_eq {p:Im} {G:Nat→Int→List Int} (h:TabOk G (E2 p p.f5.length [])) {t:Nat} {x:Int} (ht:t < 4) (hx:Gr.wfI x):srt (G t x)=rowsG p t x:=by
 refine asc_ext (srt_asc (h t x ht hx).1) (rows_asc p t x) fun y=>?_
 rw [mem_srt,(h t x ht hx).2 y];unfold E2 E1 rowsG nextL prevL sitesL backsL;simp only [List.not_mem_nil,and_false,or_false]
 rcases t with _|_|_|_|t
 ·simp only [if_true,mem_uniq];constructor
  ·rintro (⟨_,h0,h1,h2⟩|⟨h0,_⟩|⟨h0,_⟩|⟨h0,_⟩)
   ·exact z2s.1 h2
   ·omega
   ·omega
   ·omega
  ·exact fun h2=>.inl ⟨trivial,(isB_in (z2s.2 h2)).1,(isB_in (z2s.2 h2)).2,z2s.2 h2⟩
 ·simp only [if_true,if_neg (show ¬ (0+1=0) by omega),List.mem_filter,mem_places];constructor
  ·rintro (⟨h0,_⟩|⟨_,h0,h1,h2⟩|⟨h0,_⟩|⟨h0,_⟩)
   ·omega
   ·exact ⟨⟨h0,h1⟩,h2⟩
   ·omega
   ·omega
  ·exact fun ⟨h1,h2⟩=>.inr (.inl ⟨trivial,h1.1,h1.2,h2⟩)
 ·simp only [if_true,if_neg (show ¬ (0+1+1=0) by omega),if_neg (show ¬ (0+1+1=1) by omega),List.mem_filter,mem_places,Bool.and_eq_true,beq_iff_eq];constructor
  ·rintro (⟨h0,_⟩|⟨h0,_⟩|⟨_,h0,h1,h2,h3⟩|⟨h0,_⟩)
   ·omega
   ·omega
   ·exact ⟨⟨h0,h1⟩,h2,h3⟩
   ·omega
  ·exact fun ⟨h1,h2⟩=>.inr (.inr (.inl ⟨trivial,h1.1,h1.2,h2.1,h2.2⟩))
 ·simp only [if_true,if_neg (show ¬ (0+1+1+1=0) by omega),if_neg (show ¬ (0+1+1+1=1) by omega),if_neg (show ¬ (0+1+1+1=2) by omega),List.mem_filter,mem_places,Bool.and_eq_true,beq_iff_eq];constructor
  ·rintro (⟨h0,_⟩|⟨h0,_⟩|⟨h0,_⟩|⟨_,h0,h1,h2,h3⟩)
   ·omega
   ·omega
   ·omega
   ·exact ⟨⟨h0,h1⟩,h2,h3⟩
  ·exact fun ⟨h1,h2⟩=>.inr (.inr (.inr ⟨trivial,h1.1,h1.2,h2.1,h2.2⟩))
 ·omega
theorem srtG_eq {p:Im} {G:Nat→Int→List Int} (h:TabOk G (E2 p p.f5.length [])) {t:Nat} {x:Int} (ht:t < 4) (hx:Gr.wfI x):srtG G 4 t x=rowsG p t x:=by
 unfold srtG;rw [if_pos ht];exact rows_eq h ht hx
end Go.Proofs.YtcbnhfnnjkkceaaGreat.X
end
