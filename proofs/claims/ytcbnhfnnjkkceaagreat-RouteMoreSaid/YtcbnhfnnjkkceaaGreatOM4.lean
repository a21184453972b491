/- For the statement of the row : what its proof needs of the text M4. -/
import Derived.Deep.AppendSrc
import Derived.Deep.Upon
import Derived.OneCell
import Derived.Laws.Tables
import Derived.Laws.CopyOwn
import Derived.Test.YtcbnhfnnjkkceaaGreatOM1
import Derived.Test.YtcbnhfnnjkkceaaGreatOM2
import Derived.Test.YtcbnhfnnjkkceaaGreatOM3
set_option maxRecDepth 100000
set_option linter.unusedSimpArgs false
set_option linter.unusedVariables false

section
namespace Go.Proofs.YtcbnhfnnjkkceaaGreat.X
open Go.RowKit Go.Proofs.YtcbnhfnnjkkceaaGreatW.PrintWords Go.Proofs.YtcbnhfnnjkkceaaGreat.Gr
def Way (n:Nat) (nx:Int→List Int) (a:Int):Nat→Int→Prop
 | 0,v=>v=a
 | k+1,v=>∃ u,Way n nx a k u∧(0≤u∧u < n)∧v ∈ nx u
structure DistOf (n:Nat) (nx:Int→List Int) (a:Int) (d:List Int):Prop where
 len:d.length=n
 low:∀ v:Int,0≤v→v < n→-1≤rd d v
 way:∀ v:Int,0≤v→v < n→0≤rd d v→Way n nx a (rd d v).toNat v
 least:∀ (k:Nat) (v:Int),0≤v→v < n→Way n nx a k v→0≤rd d v∧rd d v≤k
structure Bfs (n:Nat) (nx:Int→List Int) (a:Int) (out work:List Int):Prop where
 rng:0≤a∧a < n
 nxr:∀ v:Int,0≤v→v < n→∀ u ∈ nx v,0≤u∧u < n
 len:out.length=n
 low:∀ v:Int,0≤v→v < n→-1≤rd out v
 fst:0≤rd out a
 way:∀ v:Int,0≤v→v < n→0≤rd out v→Way n nx a (rd out v).toNat v
 inw:∀ v ∈ work,(0≤v∧v < n)∧0≤rd out v
 nxt:∀ v:Int,0≤v→v < n→0≤rd out v→v ∉ work→∀ u ∈ nx v,0≤rd out u∧rd out u≤rd out v+1
 asc:work.Pairwise fun x y=>rd out x≤rd out y
 top:∀ x ∈ work,∀ w:Int,0≤w→w < n→rd out w≤rd out x+1
theorem Bfs.done {n:Nat} {nx:Int→List Int} {a:Int} {out:List Int} (h0:rd out a=0) (h:Bfs n nx a out []):DistOf n nx a out:=by
 refine ⟨h.len,h.low,h.way,?_⟩;intro k
 induction k with
 | zero =>
  intro v _ _ hv;have hv:v=a:=hv;subst hv;omega
 | succ k ih =>
  rintro v hv0 hv1 ⟨u,hu,hui,huv⟩;obtain ⟨h1,h2⟩:=ih u hui.1 hui.2 hu;have:=h.nxt u hui.1 hui.2 h1 (by simp) v huv;omega
theorem Bfs.drop {n:Nat} {nx:Int→List Int} {a c:Int} {out work:List Int} (h:Bfs n nx a out (c :: work)) (hp:∀ u ∈ nx c,0≤rd out u∧rd out u≤rd out c+1):Bfs n nx a out work :=
 ⟨h.rng,h.nxr,h.len,h.low,h.fst,h.way,fun v hv=>h.inw v (List.mem_cons_of_mem _ hv),fun v h0 h1 hv hw u hu=>by
  by_cases e:v=c
  ·rw [e] at hu ⊢;exact hp u hu
  ·exact h.nxt v h0 h1 hv (fun hm=>(List.mem_cons.1 hm).elim e hw) u hu,(List.pairwise_cons.1 h.asc).2,fun x hx=>h.top x (List.mem_cons_of_mem _ hx)⟩
def Que (w:World) (ok:Nat→Prop) (v:Value) (l:List Int):Prop :=
 ∃ (ao:Option Addr) (cap:Nat),v=.slice ao l.length cap∧l.length≤cap∧cap≤maxLen ∧
  (0 < cap→∃ b off,ao=some ⟨b,off,none⟩∧ok b∧b < w.heap.size∧(∀ j (h:j < l.length),w.cell? ⟨b,off+j,none⟩=some (.int .i64 l[j]))∧∀ j,j < cap→(w.cell? ⟨b,off+j,none⟩).isSome=true∧w.frozen? ⟨b,off+j,none⟩=false)
section
variable {w w':World} {ok:Nat→Prop} {v:Value} {l:List Int}
theorem Que.nil (w:World) (ok:Nat→Prop):Que w ok (.slice none 0 0) []:=⟨none,0,rfl,Nat.le_refl _,Nat.zero_le _,fun h=>absurd h (Nat.lt_irrefl _)⟩
theorem Que.slice (h:Que w ok v l):∃ ao cap,v=.slice ao l.length cap∧l.length≤cap:=by
 obtain ⟨ao,cap,rfl,hle,_⟩:=h;exact ⟨ao,cap,rfl,hle⟩
theorem Que.keep (h:Que w ok v l) (hsz:w.heap.size≤w'.heap.size) (hb:∀ i,i < w.heap.size→ok i→w'.heap[i]?=w.heap[i]?):Que w' ok v l:=by
 obtain ⟨ao,cap,rfl,hle,hmax,hl⟩:=h;refine ⟨ao,cap,rfl,hle,hmax,fun hc=>?_⟩;obtain ⟨b,off,e,hk,hlt,h1,h2⟩:=hl hc;have hbb:=hb b hlt hk;refine ⟨b,off,e,hk,Nat.lt_of_lt_of_le hlt hsz,fun j hj=>?_,fun j hj=>?_⟩
 ·exact (World.cell?_of_block (a:=⟨b,off+j,none⟩) hbb).trans (h1 j hj)
 ·rw [World.cell?_of_block (a:=⟨b,off+j,none⟩) hbb,World.frozen?_of_block (a:=⟨b,off+j,none⟩) hbb];exact h2 j hj
theorem Que.fr {S:Nat→Prop} (h:Que w ok v l) (hf:Fr w w' S) (hS:∀ i,ok i→¬ S i):Que w' ok v l:=h.keep hf.size fun i hi hk=>hf.block i hi (hS i hk)
theorem Que.below (h:Que w ok v l) (hb:Below w.heap.size w w'):Que w' ok v l:=h.keep hb.size fun i hi _=>hb.block i hi
theorem Que.mono {ok':Nat→Prop} (h:Que w ok v l) (hk:∀ i,i < w.heap.size→ok i→ok' i):Que w ok' v l:=by
 obtain ⟨ao,cap,e,hle,hmax,hl⟩:=h;refine ⟨ao,cap,e,hle,hmax,fun hc=>?_⟩;obtain ⟨b,off,e,hk',hlt,r⟩:=hl hc;exact ⟨b,off,e,hk b hlt hk',hlt,r⟩
theorem Que.append (h:Que w ok v l) (hok:∀ g,w.heap.size≤g→ok g) (ty:TypeId) {ad:Addr} {c:Nat} {x:Int} (hx:w.cell? ad=some (.int .i64 x)) (hl:l.length < 1000000) :
  ∃ v' w',(Builtin.append_ #[23,23] ty #[v,.slice (some ad) 1 c]).run Tryz.prog w=.ok v' w'∧Que w' ok v' (l ++ [x])∧Fr w w' (fun i=>ok i):=by
 obtain ⟨i0,hi,hz0,hz1,hz2⟩:=info_parts infoC_int;obtain ⟨ao,cap,rfl,hle,hmax,hq⟩:=h;have hs:Src Tryz.prog i0.size 23 (.slice (some ad) 1 c) 1 [.int .i64 x] w:=by
  rw [hz1];exact Src.ofSlice w Tryz.underlying23 ad 1 c _ rfl (fun j u hu=>by
   rcases j with _|j
   ·cases hu;have:ad.add 0=ad:=(by simp [Addr.add]);rw [this];exact hx
   ·simp at hu) (by simp [Value.oneCell'])
 by_cases hr:l.length+1≤cap
 ·obtain ⟨b,off,rfl,hk,hlt,h1,h2⟩:=hq (by omega);have hrun:=run_append_room_src (P:=Tryz.prog) w 23 23 ty 3 i0 Tryz.underlying23 hi b off l.length cap _ 1 [.int .i64 x] hs hr
   (fun j hj=>by
    rw [hz1];have:j=0:=(by simpa using hj);subst this;have:=(h2 l.length (by omega)).1
    simpa using this)
   (fun j hj=>by
    rw [hz1];have:j=0:=(by simpa using hj);subst this;have:=(h2 l.length (by omega)).2
    simpa using this)
  rw [hz1,Nat.mul_one] at hrun;have hsz:(w.setCells b (off+l.length) [.int .i64 x]).heap.size=w.heap.size:=by
   show (w.heap.modify b _).size=_;simp
  refine ⟨_,_,hrun,⟨_,cap,by simp,by simpa using hr,hmax,fun _=>⟨b,off,rfl,hk,by rw [hsz];exact hlt,fun j hj=>?_,fun j hj=>?_⟩⟩,⟨rfl,rfl,rfl,by rw [hsz];exact Nat.le_refl _,fun i hi hn=>?_⟩⟩
  ·by_cases hjl:j < l.length
   ·rw [World.cell?_setCells_out b _ _ _ _ (fun _ _=>Or.inl (by show off+j < off+l.length;omega)),h1 j hjl,List.getElem_append_left hjl]
   ·have hjl':j=l.length:=(by simp at hj;omega);subst hjl';have:=World.cell?_setCells_in b [.int .i64 x] (off+l.length) w (fun j hj=>by
     have:j=0:=(by simpa using hj);subst this;exact (h2 l.length (by omega)).1) 0 (by simp)
    rw [Nat.add_zero] at this;rw [this];simp
  ·refine ⟨?_,(World.frozen?_setCells b _ _ _ _).trans (h2 j hj).2⟩
   by_cases hjl:j=l.length
   ·subst hjl;have:=World.cell?_setCells_in b [.int .i64 x] (off+l.length) w (fun j hj=>by
     have:j=0:=(by simpa using hj);subst this;exact (h2 l.length (by omega)).1) 0 (by simp)
    rw [Nat.add_zero] at this;rw [this];rfl
   ·rw [World.cell?_setCells_out b _ _ _ _ (fun _ _=>by show off+j < off+l.length∨off+l.length+1≤off+j;omega)];exact (h2 j hj).1
  ·exact World.heap_setCells_other w b _ _ hi fun e=>hn (e ▸ hk)
 ·have hcl:cap=l.length:=by omega
  have hold:(Builtin.firstCells i0.size l.length (.slice ao l.length cap)).run Tryz.prog w.drew=.ok (l.map (Value.int .i64)).toArray w.drew:=by
   rcases Nat.eq_zero_or_pos cap with h0|hc
   ·have:l=[]:=List.eq_nil_of_length_eq_zero (by omega);subst this;cases ao with
    | none=>exact run_firstCells_none w.drew i0.size 0 0 cap
    | some a'=>exact run_firstCells_some w.drew i0.size 0 a' 0 cap [] (by simp) (by intro _ _ h';simp at h')
   ·obtain ⟨b,off,rfl,hk,hlt,h1,h2⟩:=hq hc;refine run_firstCells_some w.drew i0.size l.length ⟨b,off,none⟩ l.length cap (l.map (Value.int .i64)) (by rw [hz1];simp) (fun j u hu=>?_);rw [Addr.add_lit];rw [List.getElem?_map] at hu;obtain ⟨y,hy,rfl⟩:=Option.map_eq_some_iff.1 hu;obtain ⟨hj,rfl⟩:=List.getElem?_eq_some_iff.1 hy;exact h1 j hj
  have hrun:=run_append_grow_src (P:=Tryz.prog) w 23 23 ty 3 i0 (.int .i64 0) Tryz.underlying23 hi hz0 ao l.length cap (l.map (Value.int .i64)) hold _ 1 [.int .i64 x] hs (by omega) (by omega) (growslice_fits (by omega) (by rw [hz2];omega));have hge:=grownCap_ge w (l.length+1) cap 3;have hcm:=grownCap_le_maxLen w (l.length+1) cap 3 (by unfold maxLen;omega);generalize grownCap w (l.length+1) cap 3=gc at hrun hge hcm;have hnew:∀ j,(w.drew.alloc (.cells ((l.map (Value.int .i64) ++ [Value.int .i64 x]).toArray ++ Builtin.zeroCells (Value.int .i64 0).cells (gc - (l.length+1))) 3)).cell? ⟨w.heap.size,j,none⟩=_:=fun j=>World.cell?_alloc_new w.drew _ _ j
  have hfz:∀ j,(w.drew.alloc (.cells ((l.map (Value.int .i64) ++ [Value.int .i64 x]).toArray ++ Builtin.zeroCells (Value.int .i64 0).cells (gc - (l.length+1))) 3)).frozen? ⟨w.heap.size,j,none⟩=_:=fun j=>World.frozen?_alloc_new w.drew _ _ j
  have hasz:((l.map (Value.int .i64) ++ [Value.int .i64 x]).toArray ++ Builtin.zeroCells (Value.int .i64 0).cells (gc - (l.length+1))).size=gc:=by
   rw [Array.size_append,size_zeroCells];simp [Value.cells];omega
  refine ⟨_,_,hrun,⟨_,gc,by simp,by simpa using hge,hcm,fun _=>⟨w.heap.size,0,rfl,hok _ (Nat.le_refl _),?_,fun j hj=>?_,fun j hj=>⟨?_,?_⟩⟩⟩,⟨rfl,rfl,rfl,?_,fun i hi hn=>?_⟩⟩
  ·show _ < (w.heap.push _).size;simp
  ·rw [Nat.zero_add,hnew,Array.getElem?_append_left (by simpa using hj),List.getElem?_toArray,← List.map_singleton (f:=Value.int .i64),← List.map_append,List.getElem?_map,List.getElem?_eq_getElem hj];rfl
  ·rw [Nat.zero_add,hnew,Array.getElem?_eq_getElem (by rw [hasz];exact hj)];rfl
  ·rw [Nat.zero_add];exact hfz j
  ·show _≤(w.heap.push _).size;simp
  ·exact Below.heap_alloc w.drew _ i hi
end
theorem wpList_append_que {w:World} {ops:Array Oper} {rest:List Oper} {o:Oper} {a:Act} {Q:Exit→Act→World→Prop} (hgd:o.guard=none) (s x:Operand)
  (ho:o.op=.call { callee:=.builtin .append,args:=#[s,x],argTypes:=#[23,23] }) {ok:Nat→Prop} {v:Value} {l:List Int} (ad:Addr) (c:Nat) (xv:Int) (hv:a.eval s=v) (hxv:a.eval x=.slice (some ad) 1 c)
  (h:Que w ok v l) (hok:∀ g,w.heap.size≤g→ok g) (hx:w.cell? ad=some (.int .i64 xv)) (hl:l.length < 1000000)
  (hK:∀ v' w',Que w' ok v' (l ++ [xv])→Fr w w' (fun i=>ok i)→wpList Tryz.prog ops Q rest (a.put o.dst v') w'):wpList Tryz.prog ops Q (o :: rest) a w:=by
 refine wpList_plain hgd fun K hK'=>?_
 obtain ⟨v',w',hrun,h1,h2⟩:=h.append hok o.type hx hl;unfold Oper.wp;simp [execOp,ho,resolve,invoke,builtin,hv,hxv,Result.andThen];rw [hrun];exact hK' _ _ (hK v' w' h1 h2)
theorem z2l (w:World) (a:Addr) (u:Value):Fr w (w.setCell a u) (fun i=>i=a.block) :=
 ⟨rfl,rfl,rfl,by show _≤(w.heap.modify a.block _).size;simp,fun i hi hn=>Below.heap_setCell w a u i hn⟩
theorem z32 (w:World) (o:Obj) (S:Nat→Prop):Fr w (w.alloc o) S:=⟨rfl,rfl,rfl,by show _≤(w.heap.push _).size;simp,fun i hi _=>Below.heap_alloc w o i hi⟩
end Go.Proofs.YtcbnhfnnjkkceaaGreat.X
end
section
namespace Go.Proofs.YtcbnhfnnjkkceaaGreat.X
open Go.RowKit Go.Proofs.YtcbnhfnnjkkceaaGreatW.PrintWords Go.Proofs.YtcbnhfnnjkkceaaGreatW.PrintLast Go.Proofs.YtcbnhfnnjkkceaaGreatW.PrintMore Go.Proofs.YtcbnhfnnjkkceaaGreat.Gr
end Go.Proofs.YtcbnhfnnjkkceaaGreat.X
end
section
namespace Go.Proofs.YtcbnhfnnjkkceaaGreat.X
open Go.RowKit Go.Proofs.YtcbnhfnnjkkceaaGreatW.PrintWords Go.Proofs.YtcbnhfnnjkkceaaGreatW.PrintLast Go.Proofs.YtcbnhfnnjkkceaaGreatW.PrintMore Go.Proofs.YtcbnhfnnjkkceaaGreat.Gr
def RunCells (p:Im) (iv v3 v4 v5:Value) (x:Int) (rg:Nat→Int) (mb m:Nat) (ov:Value):Array Value :=
 #[.int .i64 p.f0,.int .i64 p.f1,.int .i64 p.f2,v3,v4,v5,iv,.int .i64 x,.int .u64 (rg 0),.int .u64 (rg 1),.int .u64 (rg 2),.int .u64 (rg 3),.int .u64 (rg 4),.int .u64 (rg 5),.int .u64 (rg 6),.int .u64 (rg 7),.slice (some ⟨mb,0,none⟩) m m,ov]
structure MSt (w0 w:World) (r mb m:Nat) (p:Im) (iv v3 v4 v5:Value) (Y:Nat→Prop) (x:Int) (rg:Nat→Int) (ov:Value) (os:List Int):Prop where
 bel:Below w0.heap.size w0 w
 blk:w.heap[r]?=some (.cells (RunCells p iv v3 v4 v5 x rg mb m ov) 110 (0,0))
 que:Que w Y ov os.reverse
 mem:∃ ms:List Int,ms.length=m∧w.heap[mb]?=some (.cells (ms.map (Value.int .u8)).toArray 5 (0,0))
 lo:w0.heap.size≤r∧w0.heap.size≤mb∧∀ i,Y i→w0.heap.size≤i
 ne:r≠mb∧¬ Y r∧¬ Y mb
 lt:∀ i,Y i→i < w.heap.size
theorem fr_drew {w w':World} {S:Nat→Prop} (h:Fr w w' S):Fr w w'.drew S:=⟨h.os,h.tape,h.output,h.size,h.block⟩
section
variable {w0 w w':World} {r mb m:Nat} {p:Im} {iv v3 v4 v5:Value} {Y:Nat→Prop} {x:Int} {rg:Nat→Int} {ov:Value} {os:List Int}
theorem MSt.rlt (h:MSt w0 w r mb m p iv v3 v4 v5 Y x rg ov os):r < w.heap.size:=z0s h.blk
theorem MSt.mlt (h:MSt w0 w r mb m p iv v3 v4 v5 Y x rg ov os):mb < w.heap.size:=by
 obtain ⟨ms,_,h1⟩:=h.mem;exact z0s h1
theorem MSt.keep (h:MSt w0 w r mb m p iv v3 v4 v5 Y x rg ov os) {S:Nat→Prop} (hf:Fr w w' S) (h1:∀ i,S i→w0.heap.size≤i∧i≠r∧i≠mb∧¬ Y i):MSt w0 w' r mb m p iv v3 v4 v5 Y x rg ov os:=by
 obtain ⟨ms,e1,e2⟩:=h.mem;refine ⟨hf.below h.bel h.bel.size fun i hi=>(h1 i hi).1,(hf.block r h.rlt fun hs=>(h1 r hs).2.1 rfl).trans h.blk,h.que.fr hf fun i hy hs=>(h1 i hs).2.2.2 hy,⟨ms,e1,(hf.block mb h.mlt fun hs=>(h1 mb hs).2.2.1 rfl).trans e2⟩,h.lo,h.ne,fun i hi=>Nat.lt_of_lt_of_le (h.lt i hi) hf.size⟩
theorem MSt.below (h:MSt w0 w r mb m p iv v3 v4 v5 Y x rg ov os) (hb:Below w.heap.size w w'):MSt w0 w' r mb m p iv v3 v4 v5 Y x rg ov os:=by
 refine h.keep (S:=fun _=>False) ⟨hb.os,hb.tape,hb.output,hb.size,fun i hi _=>hb.block i hi⟩ fun i hi=>hi.elim
theorem MSt.drew (h:MSt w0 w r mb m p iv v3 v4 v5 Y x rg ov os):MSt w0 w.drew r mb m p iv v3 v4 v5 Y x rg ov os:=h.below (z12 (Below.refl _ _))
theorem MSt.alloc (h:MSt w0 w r mb m p iv v3 v4 v5 Y x rg ov os) (o:Obj):MSt w0 (w.alloc o) r mb m p iv v3 v4 v5 Y x rg ov os:=h.below (z04 (Below.refl _ _) o)
theorem MSt.cell (h:MSt w0 w r mb m p iv v3 v4 v5 Y x rg ov os) (k:Nat):w.cell? ⟨r,k,none⟩=(RunCells p iv v3 v4 v5 x rg mb m ov)[k]?:=z01 h.blk k
end
def DeedPost (w0 w:World) (r mb m:Nat) (p:Im) (iv v3 v4 v5:Value) (Y:Nat→Prop) (x:Int) (os:List Int) (e:Ending) (w':World):Prop :=
 ∃ (k x':Int) (rg':Nat→Int) (ov':Value) (os':List Int) (Y':Nat→Prop),e=.returned (.int .i64 k)∧MSt w0 w' r mb m p iv v3 v4 v5 Y' x' rg' ov' os'∧(∀ i,Y' i→Y i∨w.heap.size≤i)∧Fr w w' (fun i=>i=r∨i=mb∨Y i)∧(k=0→Nxt p x os x' os'∧((os'.length:Int)≤p.f1∨os'.length≤os.length))
section
variable {K:Act→World→Prop} {Q:Exit→Act→World→Prop} {n j:Nat} {a:Act} {w:World}
end
section
variable {w0 w w1 w':World} {r mb m:Nat} {p:Im} {iv v3 v4 v5:Value} {Y:Nat→Prop} {x x':Int} {rg:Nat→Int} {ov:Value} {os:List Int}
end
end Go.Proofs.YtcbnhfnnjkkceaaGreat.X
end
section
namespace Go.Proofs.YtcbnhfnnjkkceaaGreat.X
open Go.RowKit Go.Proofs.YtcbnhfnnjkkceaaGreatW.PrintWords Go.Proofs.YtcbnhfnnjkkceaaGreatW.PrintLast Go.Proofs.YtcbnhfnnjkkceaaGreatW.PrintMore Go.Proofs.YtcbnhfnnjkkceaaGreat.Gr
section
variable {w0 w w1 w' w4:World} {r mb m:Nat} {p:Im} {iv v3 v4 v5:Value} {Y:Nat→Prop} {x x':Int} {rg:Nat→Int} {ov ov':Value} {os os':List Int}
theorem DeedPost.from {e:Ending} (hF:Fr w w1 (fun j=>j=r)) (h:DeedPost w0 w1 r mb m p iv v3 v4 v5 Y x os e w'):DeedPost w0 w r mb m p iv v3 v4 v5 Y x os e w':=by
 obtain ⟨k,x',rg',ov',os',Y',h1,h2,h3,h4,h5⟩:=h;exact ⟨k,x',rg',ov',os',Y',h1,h2,fun i hi=>(h3 i hi).imp id fun h=>Nat.le_trans hF.size h,(hF.mono fun i _ hi=>.inl hi).trans h4,h5⟩
theorem Que.last {ok:Nat→Prop} {ao:Option Addr} {n c:Nat} {l:List Int} {y:Int} (h:Que w ok (.slice ao n c) (l ++ [y])) :
  n=l.length+1∧l.length+1≤c∧c≤maxLen∧∃ b off,ao=some ⟨b,off,none⟩∧w.cell? ⟨b,off+l.length,none⟩=some (.int .i64 y)∧Que w ok (.slice (some ⟨b,off,none⟩) l.length c) l:=by
 obtain ⟨ao',cap,e,hle,hmax,hl⟩:=h;have en:n=l.length+1:=by injection e with _ e2 _;rw [e2];simp
 have ec:c=cap:=by injection e
 have ea:ao=ao':=by injection e
 subst en ec ea;have hle':l.length+1≤c:=by simpa using hle
 obtain ⟨b,off,e,hk,hlt,h1,h2⟩:=hl (by omega);refine ⟨rfl,hle',hmax,b,off,e,?_,⟨_,c,rfl,by omega,hmax,fun _=>⟨b,off,rfl,hk,hlt,fun j hj=>?_,h2⟩⟩⟩
 ·have:=h1 l.length (by simp)
  simpa using this
 ·have:=h1 j (by simp;omega)
  rwa [List.getElem_append_left hj] at this
theorem MSt.push (h:MSt w0 w r mb m p iv v3 v4 v5 Y x rg ov os) (hq:Que w4 (fun i=>Y i∨w.heap.size≤i) ov' os'.reverse) (hf:Fr w w4 (fun i=>Y i∨w.heap.size≤i)) :
  MSt w0 (w4.setCell ⟨r,17,none⟩ ov') r mb m p iv v3 v4 v5 (fun i=>(Y i∨w.heap.size≤i)∧i < w4.heap.size) x rg ov' os'∧Fr w (w4.setCell ⟨r,17,none⟩ ov') (fun i=>i=r∨i=mb∨Y i):=by
 have hr:=h.rlt;have hm:=h.mlt;have hnr:¬ (Y r∨w.heap.size≤r):=fun h1=>h1.elim h.ne.2.1 (by omega)
 have hnm:¬ (Y mb∨w.heap.size≤mb):=fun h1=>h1.elim h.ne.2.2 (by omega)
 obtain ⟨ms,e1,e2⟩:=h.mem;have hs:=z2l w4 ⟨r,17,none⟩ ov';have hb4:=(hf.block r hr hnr).trans h.blk;have hm4:=(hf.block mb hm hnm).trans e2;have hlo:=h.lo;have hB:w0.heap.size≤w.heap.size:=h.bel.size;refine ⟨⟨hs.below (hf.below h.bel hB fun i hi=>hi.elim (hlo.2.2 i) (by omega)) (Nat.le_trans hB hf.size) fun i (hi:i=r)=>by rw [hi];exact hlo.1,z1d hb4 17 ov',?_,⟨ms,e1,(hs.block mb (Nat.lt_of_lt_of_le hm hf.size) fun h1=>h.ne.1 h1.symm).trans hm4⟩,⟨hlo.1,hlo.2.1,fun i hi=>hi.1.elim (hlo.2.2 i) (by omega)⟩,⟨h.ne.1,fun h1=>hnr h1.1,fun h1=>hnm h1.1⟩,fun i hi=>Nat.lt_of_lt_of_le hi.2 hs.size⟩,?_⟩
 ·exact (hq.mono (fun i h1 h2=>⟨h2,h1⟩)).fr hs fun i hi (h1:i=r)=>hnr (h1 ▸ hi.1)
 ·exact (hf.mono fun i h1 h2=>h2.elim (fun h3=>.inr (.inr h3)) (by omega)).trans (hs.mono fun i _ h1=>.inl h1)
end
structure ESt (w0 we W:World) (r mb m:Nat) (p:Im) (iv v3 v4 v5:Value) (Y:Nat→Prop) (x:Int) (rg:Nat→Int) (ov:Value) (os:List Int) (bx:Nat):Prop where
 st:MSt w0 W r mb m p iv v3 v4 v5 Y x rg ov os
 wx:∃ z,W.heap[bx]?=some (.cells #[.int .u64 z] 43 (0,0))
 ne:w0.heap.size≤bx∧bx≠r∧bx≠mb∧¬ Y bx
 fr:Fr we W (fun j=>j=bx∨j=mb)
section
variable {w0 we w W:World} {r mb m bx:Nat} {p:Im} {iv v3 v4 v5:Value} {Y:Nat→Prop} {x x':Int} {rg:Nat→Int} {ov:Value} {os:List Int}
theorem ESt.alloc (h:ESt w0 we W r mb m p iv v3 v4 v5 Y x rg ov os bx) (o:Obj):ESt w0 we (W.alloc o) r mb m p iv v3 v4 v5 Y x rg ov os bx:=by
 obtain ⟨z,hz⟩:=h.wx;exact ⟨h.st.alloc o,⟨z,z06 hz o⟩,h.ne,h.fr.trans (z32 W o _)⟩
theorem ESt.drew (h:ESt w0 we W r mb m p iv v3 v4 v5 Y x rg ov os bx):ESt w0 we W.drew r mb m p iv v3 v4 v5 Y x rg ov os bx:=by
 obtain ⟨z,hz⟩:=h.wx;exact ⟨h.st.drew,⟨z,z09 hz⟩,h.ne,fr_drew h.fr⟩
end
end Go.Proofs.YtcbnhfnnjkkceaaGreat.X
end
section
namespace Go.Proofs.YtcbnhfnnjkkceaaGreat.X
open Go.RowKit Go.Proofs.YtcbnhfnnjkkceaaGreatW.PrintWords Go.Proofs.YtcbnhfnnjkkceaaGreatW.PrintLast Go.Proofs.YtcbnhfnnjkkceaaGreatW.PrintMore Go.Proofs.YtcbnhfnnjkkceaaGreat.Gr Go.ChangeMaps Go.MapKept Go.ChangeShapes
structure MkSt (w:World) (b1 g:Nat) (p:Im) (dv fv cv:Value) (m j:Nat) (b:Nat→Nat) (w':World):Prop where
 box:w'.heap[b1]?=some (.cells #[.pointer (some ⟨g,0,none⟩)] 29 (0,0))
 cells:w'.heap[g]?=some (.cells (z1m p dv fv cv 0 1 (fun t=>.map (if t < j then some (b t) else none))) 97 (0,0))
 maps:∀ t,t < 4→m.testBit t=true→w'.heap[b t]?=some (.map #[] 0)∧w.heap.size+1≤b t
 apart:∀ s t,s < 4→t < 4→m.testBit s=true→m.testBit t=true→b s=b t→s=t
 fr:Fr w w' (fun i=>i=g)
 size:w.heap.size+1≤w'.heap.size
 here:b1=w.heap.size
 old:g < w.heap.size
 hav:∀ t,t < j→m.testBit t=true
theorem MkSt.make {w w':World} {b1 g:Nat} {p:Im} {dv fv cv:Value} {m m' j:Nat} {b:Nat→Nat} (h:MkSt w b1 g p dv fv cv m j b w') (t:Nat) (ht:t < 4) (hm:m.testBit t=false) (hm':m'=m ||| (1 <<< t)) :
  MkSt w b1 g p dv fv cv m' j (fun s=>if s=t then w'.heap.size else b s) (w'.alloc (.map #[] 0)):=by
 have hbit:∀ s,m'.testBit s=(m.testBit s || decide (t=s)):=fun s=>by
  rw [hm',Nat.testBit_or,Nat.one_shiftLeft,Nat.testBit_two_pow]
 have hgrow:=Below.heap_alloc w' (.map #[] 0);refine ⟨z06 h.box _,?_,fun s hs hb=>?_,fun s r hs hr hb1 hb2 e=>?_,h.fr.trans (Fr.of_grown (World.grownBy_alloc w' (.map #[] 0) none) (by simp)),Nat.le_trans h.size (by show _≤(w'.heap.push _).size;simp),h.here,h.old,fun s hs=>by rw [hbit,h.hav s hs];rfl⟩
 ·have h0:=z06 h.cells (.map #[] 0);rw [h0]
  congr 3
  funext s
  by_cases hs:s < j
  ·rw [if_pos hs,if_pos hs,if_neg (fun e=>by have:=h.hav s hs;rw [e,hm] at this;cases this)]
  ·rw [if_neg hs,if_neg hs]
 ·by_cases e:s=t
  ·simp only [e,if_pos];exact ⟨z14 w' _,h.size⟩
  ·simp only [if_neg e];rw [hbit] at hb;have hb':m.testBit s=true:=by simpa [Ne.symm e] using hb
   obtain ⟨h1,h2⟩:=h.maps s hs hb';exact ⟨z06 h1 _,h2⟩
 ·rw [hbit] at hb1 hb2
  by_cases e1:s=t
  ·by_cases e2:r=t
   ·rw [e1,e2]
   ·simp only [e1,if_pos,if_neg e2] at e;have hb':m.testBit r=true:=(by simpa [Ne.symm e2] using hb2);have:=z0s (h.maps r hr hb').1;omega
  ·by_cases e2:r=t
   ·simp only [e2,if_pos,if_neg e1] at e;have hb':m.testBit s=true:=(by simpa [Ne.symm e1] using hb1);have:=z0s (h.maps s hs hb').1;omega
   ·simp only [if_neg e1,if_neg e2] at e;exact h.apart s r hs hr (by simpa [Ne.symm e1] using hb1) (by simpa [Ne.symm e2] using hb2) e
theorem MkSt.drew {w w':World} {b1 g:Nat} {p:Im} {dv fv cv:Value} {m j:Nat} {b:Nat→Nat} (h:MkSt w b1 g p dv fv cv m j b w'):MkSt w b1 g p dv fv cv m j b w'.drew :=
 ⟨h.box,h.cells,h.maps,h.apart,⟨h.fr.os,h.fr.tape,h.fr.output,h.fr.size,h.fr.block⟩,h.size,h.here,h.old,h.hav⟩
theorem grCells_set (p:Im) (dv fv cv:Value) (done st:Int) (m:Nat→Value) (t:Nat) (ht:t < 4) (v:Value):(z1m p dv fv cv done st m).setIfInBounds (9+t) v=z1m p dv fv cv done st (fun s=>if s=t then v else m s):=by
 rcases t with _|_|_|_|t
 ·rfl
 ·rfl
 ·rfl
 ·rfl
 ·omega
theorem MkSt.store {w w':World} {b1 g:Nat} {p:Im} {dv fv cv:Value} {m j:Nat} {b:Nat→Nat} (h:MkSt w b1 g p dv fv cv m j b w') (t:Nat) (ht:t < 4) (hj:j=t) (hm:m.testBit t=true) :
  MkSt w b1 g p dv fv cv m (t+1) b (w'.setCell ⟨g,9+t,none⟩ (.map (some (b t)))):=by
 subst hj;have hne:∀ i,i≠g→(w'.setCell ⟨g,9+j,none⟩ (.map (some (b j)))).heap[i]?=w'.heap[i]?:=fun i hi=>Below.heap_setCell w' ⟨g,9+j,none⟩ _ i hi
 have hb1:b1≠g:=by have:=h.here;have:=h.old;omega
 refine ⟨(hne b1 hb1).trans h.box,?_,fun s hs hb=>?_,h.apart,h.fr.trans ⟨rfl,rfl,rfl,by simp [World.setCell],fun i _ hi=>hne i hi⟩,by have:=h.size;simp [World.setCell];omega,h.here,h.old,fun s hs=>?_⟩
 ·have h0:=z1d h.cells (9+j) (.map (some (b j)));rw [h0,grCells_set _ _ _ _ _ _ _ _ ht]
  congr 3
  funext s
  by_cases e:s=j
  ·rw [if_pos e,e,if_pos (by omega)]
  ·by_cases hs:s < j
   ·rw [if_neg e,if_pos hs,if_pos (by omega)]
   ·rw [if_neg e,if_neg hs,if_neg (by omega)]
 ·obtain ⟨h1,h2⟩:=h.maps s hs hb;exact ⟨(hne (b s) (by have:=h.old;omega)).trans h1,h2⟩
 ·by_cases e:s=j
  ·rw [e];exact hm
  ·exact h.hav s (by omega)
theorem MkSt.tab {w w':World} {b1 g:Nat} {p:Im} {dv fv cv:Value} {b:Nat→Nat} (h:MkSt w b1 g p dv fv cv 15 4 b w'):Tab Tryz.prog 3 w' (w.heap.size+1) b 0 (fun _ _=>nilS) (fun _ _=>[]) ∧
  w'.heap[g]?=some (.cells (z1m p dv fv cv 0 1 (fun t=>.map (some (b t)))) 97 (0,0)):=by
 have hbit:∀ t,t < 4→(15:Nat).testBit t=true:=fun t ht=>by
  rcases t with _|_|_|_|t
  ·decide
  ·decide
  ·decide
  ·decide
  ·omega
 refine ⟨⟨fun t ht=>?_,fun s t hs ht e=>h.apart s t hs ht (hbit s hs) (hbit t ht) e,fun t ht=>(h.maps t ht (hbit t ht)).2,fun t x _ _=>World.ownsInts_nil _ _ _ _,fun _ _ _ _ _ _ _ _ _=>.inl rfl,fun _ _ _ _=>Nat.le_refl _⟩,?_⟩
 ·have hb:=(h.maps t ht (hbit t ht)).1;exact ⟨.map [],⟨#[],0,hb,⟨by simp,stamped_empty 0,by simp⟩,Nat.le_refl _,rfl⟩,fun _ _=>rfl⟩
 ·rw [h.cells];rfl
structure MkW (w:World) (g B0:Nat) (p:Im) (dv fv cv:Value) (bs:Nat→Nat) (wr:World):Prop where
 box:wr.heap[w.heap.size]?=some (.cells #[.pointer (some ⟨g,0,none⟩)] 29 (0,0))
 cells:wr.heap[g]?=some (.cells (z1m p dv fv cv 0 1 (fun t=>.map (some (bs t)))) 97 (0,0))
 grp:GrP wr B0 p dv fv cv
 old:∀ k,dv.ownBlock=some k∨fv.ownBlock=some k∨cv.ownBlock=some k→k < w.heap.size
 fr:Fr w wr (fun i=>i=g∨w.heap.size+1≤i)
 size:w.heap.size+1≤wr.heap.size
 lt:g < w.heap.size
theorem GrP.keep {w w1:World} {B:Nat} {p:Im} {dv fv cv:Value} (h:GrP w B p dv fv cv) (hk:∀ k,dv.ownBlock=some k∨fv.ownBlock=some k∨cv.ownBlock=some k→w1.heap[k]?=w.heap[k]?):GrP w1 B p dv fv cv :=
 ⟨z30 rfl h.d fun k e=>hk k (.inl e),z30 rfl h.f fun k e=>hk k (.inr (.inl e)),z30 rfl h.c fun k e=>hk k (.inr (.inr e))⟩
theorem GrP.ne {w:World} {B g:Nat} {p:Im} {dv fv cv:Value} (h:GrP w B p dv fv cv) {c:Array Value} (hg:w.heap[g]?=some (.cells c 97 (0,0))) {k:Nat} (hk:dv.ownBlock=some k∨fv.ownBlock=some k∨cv.ownBlock=some k):k < w.heap.size∧k≠g:=by
 have:∃ c t,w.heap[k]?=some (.cells c t (0,0))∧t≠97:=by
  rcases hk with hk|hk|hk
  ·obtain ⟨c,hc⟩:=Kd.R_typed h.d k hk;exact ⟨c,_,hc,by decide⟩
  ·obtain ⟨c,hc⟩:=Kd.R_typed h.f k hk;exact ⟨c,_,hc,by decide⟩
  ·obtain ⟨c,hc⟩:=Kd.R_typed h.c k hk;exact ⟨c,_,hc,by decide⟩
 obtain ⟨c',t,hc,ht⟩:=this;refine ⟨z0s hc,fun e=>?_⟩;rw [e,hg] at hc;cases hc;exact ht rfl
theorem MkW.step {w wr w1:World} {g B0:Nat} {p:Im} {dv fv cv:Value} {bs:Nat→Nat} (h:MkW w g B0 p dv fv cv bs wr) (hf:Fr wr w1 (fun i=>w.heap.size+1≤i)):MkW w g B0 p dv fv cv bs w1 :=
 ⟨(hf.block _ (z0s h.box) (by omega)).trans h.box,(hf.block _ (z0s h.cells) (by have:=h.lt;omega)).trans h.cells,h.grp.keep fun k hk=>hf.block k (h.grp.ne h.cells hk).1 (by have:=h.old k hk;omega),
  h.old,h.fr.trans (hf.mono fun i _ hi=>.inr hi),Nat.le_trans h.size hf.size,h.lt⟩
theorem MkW.below {w wr w1:World} {g B0:Nat} {p:Im} {dv fv cv:Value} {bs:Nat→Nat} (h:MkW w g B0 p dv fv cv bs wr) (hb:Below wr.heap.size wr w1):MkW w g B0 p dv fv cv bs w1 :=
 h.step ((Fr.of_below hb).mono fun i hi hi2=>by omega)
theorem MkSt.mkw {w w':World} {g B0:Nat} {p:Im} {dv fv cv:Value} {b:Nat→Nat} (h:MkSt w w.heap.size g p dv fv cv 15 4 b w') (hg:w.heap[g]?=some (.cells (z1m p dv fv cv 0 1 (fun _=>.map none)) 97 (0,0))) (hp:GrP w B0 p dv fv cv):MkW w g B0 p dv fv cv b w' :=
 ⟨h.box,h.tab.2,hp.keep fun k hk=>h.fr.block k (hp.ne hg hk).1 (hp.ne hg hk).2,fun k hk=>(hp.ne hg hk).1,h.fr.mono fun i _ hi=>.inl hi,h.size,h.old⟩
theorem z2a {B:Nat} {a w:World} (h:Below B a w) (n:Nat):Below B a (w.drewN n):=h.trans ⟨rfl,rfl,rfl,Nat.le_refl _,fun _ _=>rfl⟩
theorem ints_R {w:World} {base:Nat} {v:Value} {zs:List Int} (h:w.ownsInts base 3 .i64 v zs):Kd.R (Kd.int .i64) 3 w base (fun _=>True) v zs:=by
 refine ⟨fun _ _=>trivial,zs.map (Value.int .i64),h.1,by simp [Kd.int,Kd.scalar],fun j p hj=>?_⟩;have hl:=(List.getElem?_eq_some_iff.1 hj).1;show (List.take 1 (List.drop (j * 1) (zs.map (Value.int .i64))))=[Value.int .i64 p];rw [Nat.mul_one,List.drop_eq_getElem_cons (by simpa using hl),List.take_succ_cons,List.take_zero,List.getElem_map,(List.getElem?_eq_some_iff.1 hj).2]
def endPost (P:Program) (fn:Func) (R:Ending→World→Prop):Exit→Act→World→Prop
 | .normal,a,w|.ret,a,w=>Leaves P fn a.tmps R a.defers .returning w
 | _,_,_=>False
theorem calls_of_wp_ends {P:Program} {f:FuncId} {fn:Func} {c:Code} {args:Array Value} {w:World} {R:Ending→World→Prop} (hf:P.funcs[f]?=some fn) (hb:fn.body=some c)
  (h:c.wp P (endPost P fn R) { tmps:=args ++ Array.replicate (fn.ntmps - args.size) undef,defers:=[] } w):Calls P f args w R :=
 calls_of_wp_defers hf hb (wp_mono h fun e a w he=>by cases e <;> first|exact he|exact he.elim)
end Go.Proofs.YtcbnhfnnjkkceaaGreat.X
end
section
namespace Go.Proofs.YtcbnhfnnjkkceaaGreat.X
open Go.RowKit Go.Proofs.YtcbnhfnnjkkceaaGreatW.PrintWords Go.Proofs.YtcbnhfnnjkkceaaGreatW.PrintLast Go.Proofs.YtcbnhfnnjkkceaaGreatW.PrintMore Go.Proofs.YtcbnhfnnjkkceaaGreat.Gr
theorem goesC_ {P : Program} {ops : Array Oper} {Q : Exit → Act → World → Prop} {oi : Oper} {N : Option Tmp} {a : Act} {w : World} {K : Act → World → Prop} {f : FuncId} {fn : Func} {tt : Operand} {cap : Array Value} {aas : Array Operand} {ts : Array TypeId} (hf : P.funcs[f]? = some fn) (hname : (fn.name == "runtime.NumGoroutine") = false) (hb : fn.body.isSome = true) (args : Array Value)
  (hw:Region.wanted oi (yielded ops a.tmps)=true) (hN:oi.dst=N) (hop:oi.op=.call { callee:=.value tt,args:=aas,argTypes:=ts }) (ht:a.eval tt=.func (.func f) #[] cap) (hargs:aas.map a.eval ++ cap=args)
  (h:Calls P f args w fun e w'=>∃ v,e=.returned v∧K (a.put N v) w'):if Region.wanted oi (yielded ops a.tmps)=true then Oper.wp P oi a w K Q else K (a.put N undef) w:=by
 refine call_ f args hw hN ?_ h;have he:=enters_ hf hname hb args w;unfold execOp;simp [hop,resolve,Deferred.ofValue,invoke,ht,hargs,he]
end Go.Proofs.YtcbnhfnnjkkceaaGreat.X
end
