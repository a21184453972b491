/- For the statement of the row : what its proof needs of the text S4. -/
import Derived.Deep.AppendSrc
import Derived.Deep.Upon
import Derived.OneCell
import Derived.Laws.Tables
import Derived.Laws.CopyOwn
import Derived.Test.YtcbnhfnnjkkceaaGreatQS1
import Derived.Test.YtcbnhfnnjkkceaaGreatQS2
import Derived.Test.YtcbnhfnnjkkceaaGreatQS3
set_option maxHeartbeats 8000000
set_option maxRecDepth 100000
set_option linter.unusedSimpArgs false
set_option linter.unusedVariables false

section
namespace Go.Proofs.YtcbnhfnnjkkceaaGreat.X
open Go.RowKit Go.Proofs.YtcbnhfnnjkkceaaGreatW.PrintWords Go.Proofs.YtcbnhfnnjkkceaaGreat.Gr
def Way (n:Nat) (nx:Int→List Int) (a:Int):Nat→Int→Prop
 | 0,v=>v=a
 | k+1,v=>∃ u,Way n nx a k u∧(0≤u∧u < n)∧v ∈ nx u
structure DistOf (n:Nat) (nx:Int→List Int) (a:Int) (d:List Int):Prop where
 len:d.length=n
 low:∀ v:Int,0≤v→v < n→-1≤rd d v
 way:∀ v:Int,0≤v→v < n→0≤rd d v→Way n nx a (rd d v).toNat v
 least:∀ (k:Nat) (v:Int),0≤v→v < n→Way n nx a k v→0≤rd d v∧rd d v≤k
structure Bfs (n:Nat) (nx:Int→List Int) (a:Int) (out work:List Int):Prop where
 rng:0≤a∧a < n
 nxr:∀ v:Int,0≤v→v < n→∀ u ∈ nx v,0≤u∧u < n
 len:out.length=n
 low:∀ v:Int,0≤v→v < n→-1≤rd out v
 fst:0≤rd out a
 way:∀ v:Int,0≤v→v < n→0≤rd out v→Way n nx a (rd out v).toNat v
 inw:∀ v ∈ work,(0≤v∧v < n)∧0≤rd out v
 nxt:∀ v:Int,0≤v→v < n→0≤rd out v→v ∉ work→∀ u ∈ nx v,0≤rd out u∧rd out u≤rd out v+1
 asc:work.Pairwise fun x y=>rd out x≤rd out y
 top:∀ x ∈ work,∀ w:Int,0≤w→w < n→rd out w≤rd out x+1
theorem Bfs.done {n:Nat} {nx:Int→List Int} {a:Int} {out:List Int} (h0:rd out a=0) (h:Bfs n nx a out []):DistOf n nx a out:=by
 refine ⟨h.len,h.low,h.way,?_⟩;intro k
 induction k with
 | zero =>
  intro v _ _ hv;have hv:v=a:=hv;subst hv;omega
 | succ k ih =>
  rintro v hv0 hv1 ⟨u,hu,hui,huv⟩;obtain ⟨h1,h2⟩:=ih u hui.1 hui.2 hu;have:=h.nxt u hui.1 hui.2 h1 (by simp) v huv;omega
theorem rd_set {l:List Int} {u v x:Int} (hu:0≤u∧u < l.length) (hv:0≤v):rd (l.set u.toNat x) v=if v=u then x else rd l v:=by
 unfold rd;rw [List.getD_eq_getElem?_getD,List.getD_eq_getElem?_getD,List.getElem?_set]
 by_cases h:v=u
 ·subst h;rw [if_pos rfl,if_pos rfl,if_pos (by omega)];rfl
 ·rw [if_neg h,if_neg (by omega)]
theorem rd_rep (n:Nat) {v:Int} (h0:0≤v) (h1:v < n):rd (List.replicate n (-1:Int)) v=-1:=by
 unfold rd;rw [List.getD_eq_getElem?_getD,List.getElem?_replicate,if_pos (by omega)];rfl
theorem Bfs.start {n:Nat} {nx:Int→List Int} {a:Int} (ha:0≤a∧a < n) (hnx:∀ v:Int,0≤v→v < n→∀ u ∈ nx v,0≤u∧u < n):Bfs n nx a ((List.replicate n (-1:Int)).set a.toNat 0) [a]∧rd ((List.replicate n (-1:Int)).set a.toNat 0) a=0:=by
 have hs:∀ v:Int,0≤v→v < n→rd ((List.replicate n (-1:Int)).set a.toNat 0) v=if v=a then 0 else -1:=fun v h0 h1=>by
  rw [rd_set (by rw [List.length_replicate];exact ha) h0,rd_rep n h0 h1]
 have ha0:rd ((List.replicate n (-1:Int)).set a.toNat 0) a=0:=by rw [hs a ha.1 ha.2,if_pos rfl]
 refine ⟨⟨ha,hnx,by simp,fun v h0 h1=>?_,by omega,fun v h0 h1 hv=>?_,fun v hv=>?_,fun v h0 h1 hv hw=>?_,by simp,fun x hx w h0 h1=>?_⟩,ha0⟩
 ·rw [hs v h0 h1]
  split <;> omega
 ·rw [hs v h0 h1] at hv ⊢
  by_cases e:v=a
  ·rw [if_pos e];exact e
  ·rw [if_neg e] at hv;omega
 ·obtain rfl:v=a:=by simpa using hv
  exact ⟨ha,by omega⟩
 ·rw [hs v h0 h1] at hv
  by_cases e:v=a
  ·exact absurd (by simp [e]) hw
  ·rw [if_neg e] at hv;omega
 ·obtain rfl:x=a:=by simpa using hx
  rw [hs w h0 h1,ha0]
  split <;> omega
theorem Bfs.reach {n:Nat} {nx:Int→List Int} {a c u:Int} {out work:List Int} (h:Bfs n nx a out (c :: work)) (hu:0≤u∧u < n) (hm:u ∈ nx c) (hn:rd out u < 0) :
  Bfs n nx a (out.set u.toNat (rd out c+1)) (c :: (work ++ [u]))∧rd (out.set u.toNat (rd out c+1)) c=rd out c∧∀ v:Int,0≤v→v < n→0≤rd out v→rd (out.set u.toNat (rd out c+1)) v=rd out v:=by
 have hul:0≤u∧u < out.length:=by rw [h.len];exact hu
 have hs:∀ v:Int,0≤v→rd (out.set u.toNat (rd out c+1)) v=if v=u then rd out c+1 else rd out v:=fun v h0=>rd_set hul h0
 have hc:=h.inw c (by simp);have hk:∀ v:Int,0≤v→v < n→0≤rd out v→rd (out.set u.toNat (rd out c+1)) v=rd out v:=fun v h0 h1 h2=>by
  rw [hs v h0,if_neg];intro e;rw [e] at h2;omega
 have hcc:=hk c hc.1.1 hc.1.2 hc.2;have hin:∀ x ∈ c :: work,rd (out.set u.toNat (rd out c+1)) x=rd out x:=fun x hx=>hk x (h.inw x hx).1.1 (h.inw x hx).1.2 (h.inw x hx).2
 have huu:rd (out.set u.toNat (rd out c+1)) u=rd out c+1:=by rw [hs u hu.1,if_pos rfl]
 have htc:=h.top c (by simp);have hasc:=List.pairwise_cons.1 h.asc;have hcx:∀ x ∈ c :: work,rd out c≤rd out x:=fun x hx=>by
  rcases List.mem_cons.1 hx with e|e
  ·rw [e];exact Int.le_refl _
  ·exact hasc.1 x e
 have hmem:∀ x,x ∈ c :: (work ++ [u])→x ∈ c :: work∨x=u:=fun x hx=>by
  simp only [List.mem_cons,List.mem_append,List.not_mem_nil,or_false] at hx ⊢
  rcases hx with e|e|e
  ·exact .inl (.inl e)
  ·exact .inl (.inr e)
  ·exact .inr e
 refine ⟨⟨h.rng,h.nxr,by rw [List.length_set];exact h.len,fun v h0 h1=>?_,by rw [hk a h.rng.1 h.rng.2 h.fst];exact h.fst,fun v h0 h1 hv=>?_,fun v hv=>?_,fun v h0 h1 hv hw t ht=>?_,?_,fun x hx w h0 h1=>?_⟩,hcc,hk⟩
 ·rw [hs v h0];have:=h.low v h0 h1
  split <;> omega
 ·rw [hs v h0] at hv ⊢
  by_cases e:v=u
  ·rw [if_pos e,e];have:(rd out c+1).toNat=(rd out c).toNat+1:=by omega
   rw [this];exact ⟨c,h.way c hc.1.1 hc.1.2 hc.2,hc.1,hm⟩
  ·rw [if_neg e] at hv ⊢;exact h.way v h0 h1 hv
 ·rcases hmem v hv with e|e
  ·rw [hin v e];exact h.inw v e
  ·rw [e,huu];exact ⟨hu,by omega⟩
 ·have hvu:v≠u:=fun e=>hw (by rw [e];simp)
  have hvw:v ∉ c :: work:=fun e=>hw (by
   simp only [List.mem_cons,List.mem_append] at e ⊢;exact e.elim .inl fun e=>.inr (.inl e))
  rw [hs v h0,if_neg hvu] at hv ⊢;have h3:=h.nxt v h0 h1 hv hvw t ht;have h4:=h.nxr v h0 h1 t ht;rw [hk t h4.1 h4.2 h3.1];exact h3
 ·rw [← List.cons_append,List.pairwise_append];refine ⟨?_,by simp,fun x hx y hy=>?_⟩
  ·refine List.Pairwise.imp_of_mem ?_ h.asc;intro x y hx hy hxy;rw [hin x hx,hin y hy];exact hxy
  ·obtain rfl:y=u:=by simpa using hy
   rw [hin x hx,huu];have h1':=h.inw x hx;exact htc x h1'.1.1 h1'.1.2
 ·rcases hmem x hx with e|e
  ·rw [hin x e,hs w h0];have h1':=h.top x e w h0 h1;have h2':=hcx x e
   split <;> omega
  ·rw [e,huu,hs w h0];have h1':=htc w h0 h1
   split <;> omega
theorem Bfs.drop {n:Nat} {nx:Int→List Int} {a c:Int} {out work:List Int} (h:Bfs n nx a out (c :: work)) (hp:∀ u ∈ nx c,0≤rd out u∧rd out u≤rd out c+1):Bfs n nx a out work :=
 ⟨h.rng,h.nxr,h.len,h.low,h.fst,h.way,fun v hv=>h.inw v (List.mem_cons_of_mem _ hv),fun v h0 h1 hv hw u hu=>by
  by_cases e:v=c
  ·rw [e] at hu ⊢;exact hp u hu
  ·exact h.nxt v h0 h1 hv (fun hm=>(List.mem_cons.1 hm).elim e hw) u hu,(List.pairwise_cons.1 h.asc).2,fun x hx=>h.top x (List.mem_cons_of_mem _ hx)⟩
def negs:List Int→Nat
 | []=>0
 | x :: r=>(if x < 0 then 1 else 0)+negs r
theorem negs_set:∀ (l:List Int) (i:Nat) (x:Int),i < l.length→rd l (i:Int) < 0→0≤x→negs (l.set i x)+1=negs l
 | [],i,x,hi,_,_=>by simp at hi
 | y :: r,0,x,_,hy,hx=>by
  have hy:y < 0:=hy;show negs (x :: r)+1=negs (y :: r);unfold negs;rw [if_neg (by omega),if_pos hy];omega
 | y :: r,i+1,x,hi,hy,hx=>by
  have hy':rd r (i:Int) < 0:=by
   unfold rd at hy ⊢;rw [Int.toNat_natCast] at hy ⊢;exact hy
  have:=negs_set r i x (by simpa using hi) hy' hx;show negs (y :: r.set i x)+1=negs (y :: r);unfold negs;omega
theorem negs_rep (n:Nat):negs (List.replicate n (-1:Int))=n:=by
 induction n with
 | zero=>rfl
 | succ n ih =>
  show negs (-1 :: List.replicate n (-1:Int))=n+1;unfold negs;rw [ih,if_pos (by omega)];omega
def Que (w:World) (ok:Nat→Prop) (v:Value) (l:List Int):Prop :=
 ∃ (ao:Option Addr) (cap:Nat),v=.slice ao l.length cap∧l.length≤cap∧cap≤maxLen ∧
  (0 < cap→∃ b off,ao=some ⟨b,off,none⟩∧ok b∧b < w.heap.size∧(∀ j (h:j < l.length),w.cell? ⟨b,off+j,none⟩=some (.int .i64 l[j]))∧∀ j,j < cap→(w.cell? ⟨b,off+j,none⟩).isSome=true∧w.frozen? ⟨b,off+j,none⟩=false)
section
variable {w w':World} {ok:Nat→Prop} {v:Value} {l:List Int}
theorem Que.nil (w:World) (ok:Nat→Prop):Que w ok (.slice none 0 0) []:=⟨none,0,rfl,Nat.le_refl _,Nat.zero_le _,fun h=>absurd h (Nat.lt_irrefl _)⟩
theorem Que.slice (h:Que w ok v l):∃ ao cap,v=.slice ao l.length cap∧l.length≤cap:=by
 obtain ⟨ao,cap,rfl,hle,_⟩:=h;exact ⟨ao,cap,rfl,hle⟩
theorem Que.keep (h:Que w ok v l) (hsz:w.heap.size≤w'.heap.size) (hb:∀ i,i < w.heap.size→ok i→w'.heap[i]?=w.heap[i]?):Que w' ok v l:=by
 obtain ⟨ao,cap,rfl,hle,hmax,hl⟩:=h;refine ⟨ao,cap,rfl,hle,hmax,fun hc=>?_⟩;obtain ⟨b,off,e,hk,hlt,h1,h2⟩:=hl hc;have hbb:=hb b hlt hk;refine ⟨b,off,e,hk,Nat.lt_of_lt_of_le hlt hsz,fun j hj=>?_,fun j hj=>?_⟩
 ·exact (World.cell?_of_block (a:=⟨b,off+j,none⟩) hbb).trans (h1 j hj)
 ·rw [World.cell?_of_block (a:=⟨b,off+j,none⟩) hbb,World.frozen?_of_block (a:=⟨b,off+j,none⟩) hbb];exact h2 j hj
theorem Que.fr {S:Nat→Prop} (h:Que w ok v l) (hf:Fr w w' S) (hS:∀ i,ok i→¬ S i):Que w' ok v l:=h.keep hf.size fun i hi hk=>hf.block i hi (hS i hk)
theorem Que.below (h:Que w ok v l) (hb:Below w.heap.size w w'):Que w' ok v l:=h.keep hb.size fun i hi _=>hb.block i hi
theorem Que.mono {ok':Nat→Prop} (h:Que w ok v l) (hk:∀ i,i < w.heap.size→ok i→ok' i):Que w ok' v l:=by
 obtain ⟨ao,cap,e,hle,hmax,hl⟩:=h;refine ⟨ao,cap,e,hle,hmax,fun hc=>?_⟩;obtain ⟨b,off,e,hk',hlt,r⟩:=hl hc;exact ⟨b,off,e,hk b hlt hk',hlt,r⟩
theorem Que.head {ao:Option Addr} {n c:Nat} {x:Int} {r:List Int} (h:Que w ok (.slice ao n c) (x :: r)):∃ b off,ao=some ⟨b,off,none⟩∧ok b∧w.cell? ⟨b,off,none⟩=some (.int .i64 x):=by
 obtain ⟨ao',cap,e,hle,hmax,hl⟩:=h;cases e;obtain ⟨b,off,e,hk,hlt,h1,h2⟩:=hl (by simp at hle;omega);exact ⟨b,off,e,hk,h1 0 (by simp)⟩
theorem Que.cut {ao:Option Addr} {n c:Nat} {x:Int} {r:List Int} (h:Que w ok (.slice ao n c) (x :: r)):Que w ok (.slice (if c=1 then ao else ao.map (·.add (1 * 1))) (n - 1) (c - 1)) r:=by
 obtain ⟨ao',cap,e,hle,hmax,hl⟩:=h;cases e;have hle':r.length+1≤c:=by simpa using hle
 refine ⟨_,_,rfl,by omega,by omega,fun hc=>?_⟩;obtain ⟨b,off,e,hk,hlt,h1,h2⟩:=hl (by omega);refine ⟨b,off+1,?_,hk,hlt,fun j hj=>?_,fun j hj=>?_⟩
 ·rw [if_neg (by omega),e];simp [Addr.add]
 ·have:=h1 (j+1) (by simp;omega);rw [show off+1+j=off+(j+1) by omega];exact this
 ·rw [show off+1+j=off+(j+1) by omega];exact h2 (j+1) (by omega)
theorem Que.append (h:Que w ok v l) (hok:∀ g,w.heap.size≤g→ok g) (ty:TypeId) {ad:Addr} {c:Nat} {x:Int} (hx:w.cell? ad=some (.int .i64 x)) (hl:l.length < 1000000) :
  ∃ v' w',(Builtin.append_ #[23,23] ty #[v,.slice (some ad) 1 c]).run Tryz.prog w=.ok v' w'∧Que w' ok v' (l ++ [x])∧Fr w w' (fun i=>ok i):=by
 obtain ⟨i0,hi,hz0,hz1,hz2⟩:=info_parts infoC_int;obtain ⟨ao,cap,rfl,hle,hmax,hq⟩:=h;have hs:Src Tryz.prog i0.size 23 (.slice (some ad) 1 c) 1 [.int .i64 x] w:=by
  rw [hz1];exact Src.ofSlice w Tryz.underlying23 ad 1 c _ rfl (fun j u hu=>by
   rcases j with _|j
   ·cases hu;have:ad.add 0=ad:=(by simp [Addr.add]);rw [this];exact hx
   ·simp at hu) (by simp [Value.oneCell'])
 by_cases hr:l.length+1≤cap
 ·obtain ⟨b,off,rfl,hk,hlt,h1,h2⟩:=hq (by omega);have hrun:=run_append_room_src (P:=Tryz.prog) w 23 23 ty 3 i0 Tryz.underlying23 hi b off l.length cap _ 1 [.int .i64 x] hs hr
   (fun j hj=>by
    rw [hz1];have:j=0:=(by simpa using hj);subst this;have:=(h2 l.length (by omega)).1
    simpa using this)
   (fun j hj=>by
    rw [hz1];have:j=0:=(by simpa using hj);subst this;have:=(h2 l.length (by omega)).2
    simpa using this)
  rw [hz1,Nat.mul_one] at hrun;have hsz:(w.setCells b (off+l.length) [.int .i64 x]).heap.size=w.heap.size:=by
   show (w.heap.modify b _).size=_;simp
  refine ⟨_,_,hrun,⟨_,cap,by simp,by simpa using hr,hmax,fun _=>⟨b,off,rfl,hk,by rw [hsz];exact hlt,fun j hj=>?_,fun j hj=>?_⟩⟩,⟨rfl,rfl,rfl,by rw [hsz];exact Nat.le_refl _,fun i hi hn=>?_⟩⟩
  ·by_cases hjl:j < l.length
   ·rw [World.cell?_setCells_out b _ _ _ _ (fun _ _=>Or.inl (by show off+j < off+l.length;omega)),h1 j hjl,List.getElem_append_left hjl]
   ·have hjl':j=l.length:=(by simp at hj;omega);subst hjl';have:=World.cell?_setCells_in b [.int .i64 x] (off+l.length) w (fun j hj=>by
     have:j=0:=(by simpa using hj);subst this;exact (h2 l.length (by omega)).1) 0 (by simp)
    rw [Nat.add_zero] at this;rw [this];simp
  ·refine ⟨?_,(World.frozen?_setCells b _ _ _ _).trans (h2 j hj).2⟩
   by_cases hjl:j=l.length
   ·subst hjl;have:=World.cell?_setCells_in b [.int .i64 x] (off+l.length) w (fun j hj=>by
     have:j=0:=(by simpa using hj);subst this;exact (h2 l.length (by omega)).1) 0 (by simp)
    rw [Nat.add_zero] at this;rw [this];rfl
   ·rw [World.cell?_setCells_out b _ _ _ _ (fun _ _=>by show off+j < off+l.length∨off+l.length+1≤off+j;omega)];exact (h2 j hj).1
  ·exact World.heap_setCells_other w b _ _ hi fun e=>hn (e ▸ hk)
 ·have hcl:cap=l.length:=by omega
  have hold:(Builtin.firstCells i0.size l.length (.slice ao l.length cap)).run Tryz.prog w.drew=.ok (l.map (Value.int .i64)).toArray w.drew:=by
   rcases Nat.eq_zero_or_pos cap with h0|hc
   ·have:l=[]:=List.eq_nil_of_length_eq_zero (by omega);subst this;cases ao with
    | none=>exact run_firstCells_none w.drew i0.size 0 0 cap
    | some a'=>exact run_firstCells_some w.drew i0.size 0 a' 0 cap [] (by simp) (by intro _ _ h';simp at h')
   ·obtain ⟨b,off,rfl,hk,hlt,h1,h2⟩:=hq hc;refine run_firstCells_some w.drew i0.size l.length ⟨b,off,none⟩ l.length cap (l.map (Value.int .i64)) (by rw [hz1];simp) (fun j u hu=>?_);rw [Addr.add_lit];rw [List.getElem?_map] at hu;obtain ⟨y,hy,rfl⟩:=Option.map_eq_some_iff.1 hu;obtain ⟨hj,rfl⟩:=List.getElem?_eq_some_iff.1 hy;exact h1 j hj
  have hrun:=run_append_grow_src (P:=Tryz.prog) w 23 23 ty 3 i0 (.int .i64 0) Tryz.underlying23 hi hz0 ao l.length cap (l.map (Value.int .i64)) hold _ 1 [.int .i64 x] hs (by omega) (by omega) (growslice_fits (by omega) (by rw [hz2];omega));have hge:=grownCap_ge w (l.length+1) cap 3;have hcm:=grownCap_le_maxLen w (l.length+1) cap 3 (by unfold maxLen;omega);generalize grownCap w (l.length+1) cap 3=gc at hrun hge hcm;have hnew:∀ j,(w.drew.alloc (.cells ((l.map (Value.int .i64) ++ [Value.int .i64 x]).toArray ++ Builtin.zeroCells (Value.int .i64 0).cells (gc - (l.length+1))) 3)).cell? ⟨w.heap.size,j,none⟩=_:=fun j=>World.cell?_alloc_new w.drew _ _ j
  have hfz:∀ j,(w.drew.alloc (.cells ((l.map (Value.int .i64) ++ [Value.int .i64 x]).toArray ++ Builtin.zeroCells (Value.int .i64 0).cells (gc - (l.length+1))) 3)).frozen? ⟨w.heap.size,j,none⟩=_:=fun j=>World.frozen?_alloc_new w.drew _ _ j
  have hasz:((l.map (Value.int .i64) ++ [Value.int .i64 x]).toArray ++ Builtin.zeroCells (Value.int .i64 0).cells (gc - (l.length+1))).size=gc:=by
   rw [Array.size_append,size_zeroCells];simp [Value.cells];omega
  refine ⟨_,_,hrun,⟨_,gc,by simp,by simpa using hge,hcm,fun _=>⟨w.heap.size,0,rfl,hok _ (Nat.le_refl _),?_,fun j hj=>?_,fun j hj=>⟨?_,?_⟩⟩⟩,⟨rfl,rfl,rfl,?_,fun i hi hn=>?_⟩⟩
  ·show _ < (w.heap.push _).size;simp
  ·rw [Nat.zero_add,hnew,Array.getElem?_append_left (by simpa using hj),List.getElem?_toArray,← List.map_singleton (f:=Value.int .i64),← List.map_append,List.getElem?_map,List.getElem?_eq_getElem hj];rfl
  ·rw [Nat.zero_add,hnew,Array.getElem?_eq_getElem (by rw [hasz];exact hj)];rfl
  ·rw [Nat.zero_add];exact hfz j
  ·show _≤(w.heap.push _).size;simp
  ·exact Below.heap_alloc w.drew _ i hi
end
theorem wpList_append_que {w:World} {ops:Array Oper} {rest:List Oper} {o:Oper} {a:Act} {Q:Exit→Act→World→Prop} (hgd:o.guard=none) (s x:Operand)
  (ho:o.op=.call { callee:=.builtin .append,args:=#[s,x],argTypes:=#[23,23] }) {ok:Nat→Prop} {v:Value} {l:List Int} (ad:Addr) (c:Nat) (xv:Int) (hv:a.eval s=v) (hxv:a.eval x=.slice (some ad) 1 c)
  (h:Que w ok v l) (hok:∀ g,w.heap.size≤g→ok g) (hx:w.cell? ad=some (.int .i64 xv)) (hl:l.length < 1000000)
  (hK:∀ v' w',Que w' ok v' (l ++ [xv])→Fr w w' (fun i=>ok i)→wpList Tryz.prog ops Q rest (a.put o.dst v') w'):wpList Tryz.prog ops Q (o :: rest) a w:=by
 refine wpList_plain hgd fun K hK'=>?_
 obtain ⟨v',w',hrun,h1,h2⟩:=h.append hok o.type hx hl;unfold Oper.wp;simp [execOp,ho,resolve,invoke,builtin,hv,hxv,Result.andThen];rw [hrun];exact hK' _ _ (hK v' w' h1 h2)
theorem z1k (w:World) (a:Addr) (u:Value):Fr w (w.setCell a u) (fun i=>i=a.block) :=
 ⟨rfl,rfl,rfl,by show _≤(w.heap.modify a.block _).size;simp,fun i hi hn=>Below.heap_setCell w a u i hn⟩
theorem z1f (w:World) (o:Obj) (S:Nat→Prop):Fr w (w.alloc o) S:=⟨rfl,rfl,rfl,by show _≤(w.heap.push _).size;simp,fun i hi _=>Below.heap_alloc w o i hi⟩
end Go.Proofs.YtcbnhfnnjkkceaaGreat.X
end
section
namespace Go.Proofs.YtcbnhfnnjkkceaaGreat.X
open Go.RowKit Go.Proofs.YtcbnhfnnjkkceaaGreatW.PrintWords Go.Proofs.YtcbnhfnnjkkceaaGreatW.PrintLast Go.Proofs.YtcbnhfnnjkkceaaGreatW.PrintMore Go.Proofs.YtcbnhfnnjkkceaaGreat.Gr
theorem z2i (w:World):Calls Tryz.prog 166 #[.int .i64 64] w fun e w'=>e=.returned (.int .i64 64)∧w'=w:=by
 go_enter Tryz.func166,Tryz.ntmps166
 go_wp2_with fail
 go_ret
 exact ⟨rfl,rfl⟩
theorem mask64 (w:World):Calls Tryz.prog 193 #[.int .i64 64] w fun e w'=>e=.returned (.int .u64 18446744073709551615)∧w'=w:=by
 go_enter Tryz.func193,Tryz.ntmps193
 go_wp2_with (go_at_call 166;refine (z2i _).mono ?_;rintro e w' ⟨rfl,rfl⟩)
 go_ret
 exact ⟨rfl,rfl⟩
theorem cut64 (x:Int) (w:World):Calls Tryz.prog 167 #[.int .i64 64,.int .u64 x] w fun e w'=>(∃ z,0≤z∧z < 18446744073709551616∧e=.returned (.int .u64 z))∧w'=w:=by
 go_enter Tryz.func167,Tryz.ntmps167
 go_wp2_with (go_at_call 193;refine (mask64 _).mono ?_;rintro e w' ⟨rfl,rfl⟩)
 go_ret
 refine ⟨⟨_,?_,?_,rfl⟩,rfl⟩
 all_goals
  unfold bits;rw [IntKind.wrap_u64];omega
theorem z2n (x y:Int) (w:World) (hy0:0≤y) (hy1:y < 18446744073709551616):Calls Tryz.prog 168 #[.int .i64 64,.int .u64 x,.int .u64 y] w fun e w'=>(∃ z1 z2,e=.returned (.tuple #[.int .u64 z1,.int .u64 z2]))∧Below w.heap.size w w':=by
 by_cases h:y=0
 ·subst h
  go_enter Tryz.func168,Tryz.ntmps168
  go_wp2_with (go_at_call 193;refine (mask64 _).mono ?_;rintro e w' ⟨rfl,rfl⟩)
  go_ret2
  exact ⟨⟨_,_,rfl⟩,Below.refl _ _⟩
 ·have hb:(y == 0)=false:=by simpa using h
  go_enter Tryz.func168,Tryz.ntmps168
  go_upto_region 3 with (fail)
  refine z1i (n:=8) (S:=fun w'=>True) (ds:=[]) #[zf,zf,zf,zf,zf,zf,zf,zf] (by kernel_rfl) rfl rfl trivial (fun hHeld=>?_);refine pure_ (i:=0) (N:=some 13) (v:=?_) (a':=?_) #[zt,zf,zf,zf,zf,zf,zf,zf] rfl rfl (by kernel_rfl) (fun _ _ _ h=>h) (Or.inl ⟨by rfl,?_⟩) ?_ ?_;rotate_left
  ·intro w';go_simp;with_reducible rfl
  rotate_left
  ·simp only [Act.put,zq1,zq2,zq3,i64_w,i32_w];rfl
  refine pure_ (i:=1) (N:=some 14) (v:=?_) (a':=?_) #[zt,zt,zf,zf,zf,zf,zf,zf] rfl rfl (by kernel_rfl) (fun _ _ _ h=>h) (Or.inl ⟨by rfl,?_⟩) ?_ ?_;rotate_left
  ·intro w';go_simp;with_reducible rfl
  rotate_left
  ·simp only [Act.put,zq1,zq2,zq3,i64_w,i32_w];rfl
  refine pure_ (i:=2) (N:=some 15) (v:=?_) (a':=?_) #[zt,zt,zt,zf,zf,zf,zf,zf] rfl rfl (by kernel_rfl) (fun _ _ _ h=>h) (Or.inl ⟨by rfl,?_⟩) ?_ ?_;rotate_left
  ·intro w';go_simp;with_reducible rfl
  rotate_left
  ·simp only [Act.put,zq1,zq2,zq3,i64_w,i32_w];rfl
  refine pure_ (i:=3) (N:=some 16) (v:=?_) (a':=?_) #[zt,zt,zt,zt,zf,zf,zf,zf] rfl rfl (by kernel_rfl) (fun _ _ _ h=>h) (Or.inl ⟨by rfl,?_⟩) ?_ ?_;rotate_left
  ·intro w';go_simp;with_reducible rfl
  rotate_left
  ·simp only [Act.put,zq1,zq2,zq3,i64_w,i32_w];rfl
  refine pure_ (i:=4) (N:=some 17) (v:=?_) (a':=?_) #[zt,zt,zt,zt,zt,zf,zf,zf] rfl rfl (by kernel_rfl) (fun _ _ _ h=>h) (Or.inl ⟨by rfl,?_⟩) ?_ ?_;rotate_left
  ·intro w';go_simp;with_reducible rfl
  rotate_left
  ·simp only [Act.put,zq1,zq2,zq3,i64_w,i32_w];rfl
  refine pure_ (i:=5) (N:=some 18) (v:=?_) (a':=?_) #[zt,zt,zt,zt,zt,zt,zf,zf] rfl rfl (by kernel_rfl) (fun _ _ _ h=>h) (Or.inl ⟨by rfl,?_⟩) ?_ ?_;rotate_left
  ·intro w';go_simp;with_reducible rfl
  rotate_left
  ·simp only [Act.put,zq1,zq2,zq3,i64_w,i32_w];rfl
  refine pure_ (i:=6) (N:=some 6) (v:=?_) (a':=?_) #[zt,zt,zt,zt,zt,zt,zt,zf] rfl rfl (by kernel_rfl) (fun _ _ _ h=>h) (Or.inl ⟨by rfl,?_⟩) ?_ ?_;rotate_left
  ·intro w';go_simp;with_reducible rfl
  rotate_left
  ·simp only [Act.put,zq1,zq2,zq3,i64_w,i32_w];rfl
  refine pure_ (i:=7) (N:=some 7) (v:=?_) (a':=?_) #[zt,zt,zt,zt,zt,zt,zt,zt] rfl rfl (by kernel_rfl) (fun _ _ _ h=>h) (Or.inl ⟨by rfl,?_⟩) ?_ ?_;rotate_left
  ·intro w';go_simp;with_reducible rfl
  rotate_left
  ·simp only [Act.put,zq1,zq2,zq3,i64_w,i32_w];rfl
  refine done_ (by kernel_rfl) ?_
  go_wp2_with fail
  go_ret2
  exact ⟨⟨_,_,rfl⟩,z1e (Below.refl _ _)⟩
theorem flag_calls (b:Bool) (w:World):Calls Tryz.prog 174 #[.bool b] w fun e w'=>(∃ z,e=.returned (.int .u64 z))∧w'=w:=by
 cases b
 all_goals
  go_enter Tryz.func174,Tryz.ntmps174
  go_wp2_with fail
  go_ret
  exact ⟨⟨_,rfl⟩,rfl⟩
theorem sign64 (x:Int) (w:World):Calls Tryz.prog 172 #[.int .i64 64,.int .u64 x] w fun e w'=>(∃ z,e=.returned (.int .i64 z))∧w'=w:=by
 go_enter Tryz.func172,Tryz.ntmps172
 go_wp2_with (go_at_call 166;refine (z2i _).mono ?_;rintro e w' ⟨rfl,rfl⟩)
 go_ret
 exact ⟨⟨_,rfl⟩,rfl⟩
theorem move1 (b:Nat) (x y:Int) (w:World) (hc:w.cell? ⟨b,0,none⟩=some (.int .u64 x)) (hy0:0≤y) (hy1:y < 64):Calls Tryz.prog 170 #[.int .u64 y,.pointer (some ⟨b,0,none⟩)] w fun e w'=>(∃ z,e=.returned (.int .u64 z))∧w'=w:=by
 go_enter Tryz.func170,Tryz.ntmps170
 go_wp2_with fail
 go_ret
 exact ⟨⟨_,rfl⟩,rfl⟩
theorem shift1 (b:Nat) (x y i:Int) (w:World) (hc:w.cell? ⟨b,0,none⟩=some (.int .u64 x)) (hy0:0≤y):Calls Tryz.prog 169 #[.int .i64 64,.int .u64 y,.int .u64 i,.func (.func 170) #[] #[.pointer (some ⟨b,0,none⟩)]] w fun e w'=>(∃ z,e=.returned (.int .u64 z))∧w'=w:=by
 by_cases h:64≤y
 ·have hd:decide (y ≥ 64)=true:=decide_eq_true h
  go_enter Tryz.func169,Tryz.ntmps169
  go_wp2_with fail
  go_ret
  exact ⟨⟨_,rfl⟩,rfl⟩
 ·have hd:decide (y ≥ 64)=false:=decide_eq_false h;have HM:=Aside0.mk (move1 b x y w hc hy0 (by omega));clear hc
  go_enter Tryz.func169,Tryz.ntmps169
  go_wp2_with (go_at_call 170;refine HM.out.mono ?_;rintro e w' ⟨⟨z,rfl⟩,rfl⟩)
  go_ret
  exact ⟨⟨_,rfl⟩,rfl⟩
theorem move2 (b:Nat) (x y:Int) (w:World) (hc:w.cell? ⟨b,0,none⟩=some (.int .u64 x)) (hy0:0≤y) (hy1:y < 64):Calls Tryz.prog 171 #[.int .u64 y,.pointer (some ⟨b,0,none⟩)] w fun e w'=>(∃ z,e=.returned (.int .u64 z))∧w'=w:=by
 go_enter Tryz.func171,Tryz.ntmps171
 go_wp2_with fail
 go_ret
 exact ⟨⟨_,rfl⟩,rfl⟩
theorem shift2 (b:Nat) (x y i:Int) (w:World) (hc:w.cell? ⟨b,0,none⟩=some (.int .u64 x)) (hy0:0≤y):Calls Tryz.prog 169 #[.int .i64 64,.int .u64 y,.int .u64 i,.func (.func 171) #[] #[.pointer (some ⟨b,0,none⟩)]] w fun e w'=>(∃ z,e=.returned (.int .u64 z))∧w'=w:=by
 by_cases h:64≤y
 ·have hd:decide (y ≥ 64)=true:=decide_eq_true h
  go_enter Tryz.func169,Tryz.ntmps169
  go_wp2_with fail
  go_ret
  exact ⟨⟨_,rfl⟩,rfl⟩
 ·have hd:decide (y ≥ 64)=false:=decide_eq_false h;have HM:=Aside0.mk (move2 b x y w hc hy0 (by omega));clear hc
  go_enter Tryz.func169,Tryz.ntmps169
  go_wp2_with (go_at_call 171;refine HM.out.mono ?_;rintro e w' ⟨⟨z,rfl⟩,rfl⟩)
  go_ret
  exact ⟨⟨_,rfl⟩,rfl⟩
theorem move3 (b:Nat) (x y:Int) (w:World) (hc:w.cell? ⟨b,0,none⟩=some (.int .i64 x)) (hy0:0≤y) (hy1:y < 64):Calls Tryz.prog 173 #[.int .u64 y,.pointer (some ⟨b,0,none⟩)] w fun e w'=>(∃ z,e=.returned (.int .u64 z))∧w'=w:=by
 go_enter Tryz.func173,Tryz.ntmps173
 go_wp2_with fail
 go_ret
 exact ⟨⟨_,rfl⟩,rfl⟩
theorem shift3 (b:Nat) (x y i:Int) (w:World) (hc:w.cell? ⟨b,0,none⟩=some (.int .i64 x)) (hy0:0≤y):Calls Tryz.prog 169 #[.int .i64 64,.int .u64 y,.int .u64 i,.func (.func 173) #[] #[.pointer (some ⟨b,0,none⟩)]] w fun e w'=>(∃ z,e=.returned (.int .u64 z))∧w'=w:=by
 by_cases h:64≤y
 ·have hd:decide (y ≥ 64)=true:=decide_eq_true h
  go_enter Tryz.func169,Tryz.ntmps169
  go_wp2_with fail
  go_ret
  exact ⟨⟨_,rfl⟩,rfl⟩
 ·have hd:decide (y ≥ 64)=false:=decide_eq_false h;have HM:=Aside0.mk (move3 b x y w hc hy0 (by omega));clear hc
  go_enter Tryz.func169,Tryz.ntmps169
  go_wp2_with (go_at_call 173;refine HM.out.mono ?_;rintro e w' ⟨⟨z,rfl⟩,rfl⟩)
  go_ret
  exact ⟨⟨_,rfl⟩,rfl⟩
def RunCells (p:Im) (iv v3 v4 v5:Value) (x:Int) (rg:Nat→Int) (mb m:Nat) (ov:Value):Array Value :=
 #[.int .i64 p.f0,.int .i64 p.f1,.int .i64 p.f2,v3,v4,v5,iv,.int .i64 x,.int .u64 (rg 0),.int .u64 (rg 1),.int .u64 (rg 2),.int .u64 (rg 3),.int .u64 (rg 4),.int .u64 (rg 5),.int .u64 (rg 6),.int .u64 (rg 7),.slice (some ⟨mb,0,none⟩) m m,ov]
structure MSt (w0 w:World) (r mb m:Nat) (p:Im) (iv v3 v4 v5:Value) (Y:Nat→Prop) (x:Int) (rg:Nat→Int) (ov:Value) (os:List Int):Prop where
 bel:Below w0.heap.size w0 w
 blk:w.heap[r]?=some (.cells (RunCells p iv v3 v4 v5 x rg mb m ov) 110 (0,0))
 que:Que w Y ov os.reverse
 mem:∃ ms:List Int,ms.length=m∧w.heap[mb]?=some (.cells (ms.map (Value.int .u8)).toArray 5 (0,0))
 lo:w0.heap.size≤r∧w0.heap.size≤mb∧∀ i,Y i→w0.heap.size≤i
 ne:r≠mb∧¬ Y r∧¬ Y mb
 lt:∀ i,Y i→i < w.heap.size
theorem z2e {w w':World} {S:Nat→Prop} (h:Fr w w' S):Fr w w'.drew S:=⟨h.os,h.tape,h.output,h.size,h.block⟩
section
variable {w0 w w':World} {r mb m:Nat} {p:Im} {iv v3 v4 v5:Value} {Y:Nat→Prop} {x:Int} {rg:Nat→Int} {ov:Value} {os:List Int}
theorem MSt.rlt (h:MSt w0 w r mb m p iv v3 v4 v5 Y x rg ov os):r < w.heap.size:=z0v h.blk
theorem MSt.mlt (h:MSt w0 w r mb m p iv v3 v4 v5 Y x rg ov os):mb < w.heap.size:=by
 obtain ⟨ms,_,h1⟩:=h.mem;exact z0v h1
theorem MSt.keep (h:MSt w0 w r mb m p iv v3 v4 v5 Y x rg ov os) {S:Nat→Prop} (hf:Fr w w' S) (h1:∀ i,S i→w0.heap.size≤i∧i≠r∧i≠mb∧¬ Y i):MSt w0 w' r mb m p iv v3 v4 v5 Y x rg ov os:=by
 obtain ⟨ms,e1,e2⟩:=h.mem;refine ⟨hf.below h.bel h.bel.size fun i hi=>(h1 i hi).1,(hf.block r h.rlt fun hs=>(h1 r hs).2.1 rfl).trans h.blk,h.que.fr hf fun i hy hs=>(h1 i hs).2.2.2 hy,⟨ms,e1,(hf.block mb h.mlt fun hs=>(h1 mb hs).2.2.1 rfl).trans e2⟩,h.lo,h.ne,fun i hi=>Nat.lt_of_lt_of_le (h.lt i hi) hf.size⟩
theorem MSt.below (h:MSt w0 w r mb m p iv v3 v4 v5 Y x rg ov os) (hb:Below w.heap.size w w'):MSt w0 w' r mb m p iv v3 v4 v5 Y x rg ov os:=by
 refine h.keep (S:=fun _=>False) ⟨hb.os,hb.tape,hb.output,hb.size,fun i hi _=>hb.block i hi⟩ fun i hi=>hi.elim
theorem MSt.drew (h:MSt w0 w r mb m p iv v3 v4 v5 Y x rg ov os):MSt w0 w.drew r mb m p iv v3 v4 v5 Y x rg ov os:=h.below (z1e (Below.refl _ _))
theorem MSt.alloc (h:MSt w0 w r mb m p iv v3 v4 v5 Y x rg ov os) (o:Obj):MSt w0 (w.alloc o) r mb m p iv v3 v4 v5 Y x rg ov os:=h.below (z04 (Below.refl _ _) o)
theorem MSt.cell (h:MSt w0 w r mb m p iv v3 v4 v5 Y x rg ov os) (k:Nat):w.cell? ⟨r,k,none⟩=(RunCells p iv v3 v4 v5 x rg mb m ov)[k]?:=z01 h.blk k
theorem MSt.frozen (h:MSt w0 w r mb m p iv v3 v4 v5 Y x rg ov os) (k:Nat):w.frozen? ⟨r,k,none⟩=false:=z02 h.blk k
theorem MSt.reg (h:MSt w0 w r mb m p iv v3 v4 v5 Y x rg ov os) {a:Int} (h0:0≤a) (h7:a≤7):w.cell? ⟨r,8+a.toNat,none⟩=some (.int .u64 (rg a.toNat)):=by
 rw [h.cell];have:a=0∨a=1∨a=2∨a=3∨a=4∨a=5∨a=6∨a=7:=by omega
 rcases this with rfl|rfl|rfl|rfl|rfl|rfl|rfl|rfl <;> rfl
theorem run_set_reg (p:Im) (iv v3 v4 v5:Value) (x:Int) (rg:Nat→Int) (mb m:Nat) (ov:Value) {a:Int} (h0:0≤a) (h7:a≤7) (z:Int) :
  (RunCells p iv v3 v4 v5 x rg mb m ov).setIfInBounds (8+a.toNat) (.int .u64 z)=RunCells p iv v3 v4 v5 x (fun j=>if j=a.toNat then z else rg j) mb m ov:=by
 have:a=0∨a=1∨a=2∨a=3∨a=4∨a=5∨a=6∨a=7:=by omega
 rcases this with rfl|rfl|rfl|rfl|rfl|rfl|rfl|rfl <;> rfl
theorem MSt.write (h:MSt w0 w r mb m p iv v3 v4 v5 Y x rg ov os) {k:Nat} {v:Value} {x':Int} {rg':Nat→Int} (e:(RunCells p iv v3 v4 v5 x rg mb m ov).setIfInBounds k v=RunCells p iv v3 v4 v5 x' rg' mb m ov) :
  MSt w0 (w.setCell ⟨r,k,none⟩ v) r mb m p iv v3 v4 v5 Y x' rg' ov os∧Fr w (w.setCell ⟨r,k,none⟩ v) (fun i=>i=r):=by
 have hf:=z1k w ⟨r,k,none⟩ v;obtain ⟨ms,e1,e2⟩:=h.mem;refine ⟨⟨hf.below h.bel h.bel.size fun i hi=>by rw [hi];exact h.lo.1,?_,h.que.fr hf fun i hy (hs:i=r)=>h.ne.2.1 (hs ▸ hy),⟨ms,e1,(hf.block mb h.mlt fun hs=>h.ne.1 hs.symm).trans e2⟩,h.lo,h.ne,fun i hi=>Nat.lt_of_lt_of_le (h.lt i hi) hf.size⟩,hf⟩;rw [← e];exact z1v h.blk k v
theorem MSt.setReg (h:MSt w0 w r mb m p iv v3 v4 v5 Y x rg ov os) {a:Int} (h0:0≤a) (h7:a≤7) (z:Int):MSt w0 (w.setCell ⟨r,8+a.toNat,none⟩ (.int .u64 z)) r mb m p iv v3 v4 v5 Y x (fun j=>if j=a.toNat then z else rg j) ov os :=
 (h.write (run_set_reg p iv v3 v4 v5 x rg mb m ov h0 h7 z)).1
theorem MSt.setPlace (h:MSt w0 w r mb m p iv v3 v4 v5 Y x rg ov os) (y:Int):MSt w0 (w.setCell ⟨r,7,none⟩ (.int .i64 y)) r mb m p iv v3 v4 v5 Y y rg ov os:=(h.write rfl).1
theorem MSt.setOpen (h:MSt w0 w r mb m p iv v3 v4 v5 Y x rg ov os) {ov':Value} {os':List Int} (hq:Que w Y ov' os'.reverse):MSt w0 (w.setCell ⟨r,17,none⟩ ov') r mb m p iv v3 v4 v5 Y x rg ov' os':=by
 have hf:=z1k w ⟨r,17,none⟩ ov';obtain ⟨ms,e1,e2⟩:=h.mem;refine ⟨hf.below h.bel h.bel.size fun i hi=>by rw [hi];exact h.lo.1,?_,hq.fr hf fun i hy (hs:i=r)=>h.ne.2.1 (hs ▸ hy),⟨ms,e1,(hf.block mb h.mlt fun hs=>h.ne.1 hs.symm).trans e2⟩,h.lo,h.ne,fun i hi=>Nat.lt_of_lt_of_le (h.lt i hi) hf.size⟩;exact z1v h.blk 17 ov'
end
def z1m (w0 w:World) (r mb m:Nat) (p:Im) (iv v3 v4 v5:Value) (Y:Nat→Prop) (x:Int) (os:List Int) (e:Ending) (w':World):Prop :=
 ∃ (k x':Int) (rg':Nat→Int) (ov':Value) (os':List Int) (Y':Nat→Prop),e=.returned (.int .i64 k)∧MSt w0 w' r mb m p iv v3 v4 v5 Y' x' rg' ov' os'∧(∀ i,Y' i→Y i∨w.heap.size≤i)∧Fr w w' (fun i=>i=r∨i=mb∨Y i)∧(k=0→Nxt p x os x' os'∧((os'.length:Int)≤p.f1∨os'.length≤os.length))
theorem put_reg {w0 w:World} {r mb m:Nat} {p:Im} {iv v3 v4 v5:Value} {Y:Nat→Prop} {x:Int} {rg:Nat→Int} {ov:Value} {os:List Int} (h:MSt w0 w r mb m p iv v3 v4 v5 Y x rg ov os) (hx0:0≤x) (hx1:x < 256) (i:In) (a0:0≤i.f1) (a7:i.f1≤7) (z:Int) :
  Calls Tryz.prog 150 #[.pointer (some ⟨r,0,none⟩),.agg #[.int .i64 i.f0,.int .i64 i.f1,.int .i64 i.f2,.int .i64 i.f3,.int .u64 i.f4],.int .u64 z] w fun e w'=>e=.returned (.int .i64 0)∧(∃ rg',MSt w0 w' r mb m p iv v3 v4 v5 Y (x+1) rg' ov os)∧Fr w w' (fun j=>j=r):=by
 have hb:=z04 (Below.refl w.heap.size w) (.cells #[.int .i64 i.f0,.int .i64 i.f1,.int .i64 i.f2,.int .i64 i.f3,.int .u64 i.f4] 79);have HS:=Aside0.mk (h.below hb);have HF:Aside0 (Fr w (w.alloc (.cells #[.int .i64 i.f0,.int .i64 i.f1,.int .i64 i.f2,.int .i64 i.f3,.int .u64 i.f4] 79)) (fun j=>j=r)):=⟨(Fr.of_below hb).mono fun j hj hs=>by omega⟩;have BI:=Aside0.mk (z0z w (.cells #[.int .i64 i.f0,.int .i64 i.f1,.int .i64 i.f2,.int .i64 i.f3,.int .u64 i.f4] 79));have hlt:=Aside0.mk h.rlt;have hX:=Aside0.mk (And.intro hx0 hx1);have hA:=Aside0.mk (And.intro a0 a7);clear h hb hx0 hx1
 go_enter Tryz.func150,Tryz.ntmps150
 go_upto_region 1 with (fail)
 generalize w.alloc (.cells #[.int .i64 i.f0,.int .i64 i.f1,.int .i64 i.f2,.int .i64 i.f3,.int .u64 i.f4] 79)=w1 at HS HF BI ⊢;generalize w.heap.size=bi at BI ⊢;have hp0:(0≤i.f1)=True:=eq_true a0;have hp1:(i.f1 < 8)=True:=eq_true (by omega);have d1:=HS.out.reg a0 a7;have d2:=HS.out.frozen (8+i.f1.toNat);clear a0 a7;refine z1i (n:=9) (S:=fun w'=>w'.cell? ⟨bi,1,none⟩=some (.int .i64 i.f1)) (ds:=[8]) #[zf,zf,zf,zf,zf,zf,zf,zf,zf] (by kernel_rfl) rfl rfl ((z01 BI.out 1).trans rfl) (fun hHeld=>?_);refine pure_ (i:=0) (N:=some 7) (v:=?_) (a':=?_) #[zt,zf,zf,zf,zf,zf,zf,zf,zf] rfl rfl (by kernel_rfl) (fun _ _ _ h=>h) (Or.inl ⟨by rfl,?_⟩) ?_ ?_;rotate_left
 ·intro w';go_simp;with_reducible rfl
 rotate_left
 ·simp only [Act.put,zq1,zq2,zq3,i64_w,i32_w];rfl
 refine pure_ (i:=1) (N:=some 8) (v:=?_) (a':=?_) #[zt,zt,zf,zf,zf,zf,zf,zf,zf] rfl rfl (by kernel_rfl) (fun _ _ _ h=>h) (Or.inl ⟨by rfl,?_⟩) ?_ ?_;rotate_left
 ·intro w';go_simp;with_reducible rfl
 rotate_left
 ·simp only [Act.put,zq1,zq2,zq3,i64_w,i32_w];rfl
 refine pure_ (i:=3) (N:=some 10) (v:=?_) (a':=?_) #[zt,zt,zf,zt,zf,zf,zf,zf,zf] rfl rfl (by kernel_rfl) (fun _ _ _ h=>h) (Or.inl ⟨by rfl,?_⟩) ?_ ?_;rotate_left
 ·intro w';go_simp;with_reducible rfl
 rotate_left
 ·simp only [Act.put,zq1,zq2,zq3,i64_w,i32_w];rfl
 refine pure_ (i:=4) (N:=some 11) (v:=?_) (a':=?_) #[zt,zt,zf,zt,zt,zf,zf,zf,zf] rfl rfl (by kernel_rfl) (fun _ _ _ h=>h) (Or.inl ⟨by rfl,?_⟩) ?_ ?_;rotate_left
 ·intro w';go_simp;with_reducible rfl
 rotate_left
 ·simp only [Act.put,zq1,zq2,zq3,i64_w,i32_w];rfl
 refine pure_ (i:=5) (N:=some 12) (v:=?_) (a':=?_) #[zt,zt,zf,zt,zt,zt,zf,zf,zf] rfl rfl (by kernel_rfl) (fun _ _ _ h=>h) (Or.inl ⟨by rfl,?_⟩) ?_ ?_;rotate_left
 ·intro w';go_simp;with_reducible rfl
 rotate_left
 ·simp only [Act.put,zq1,zq2,zq3,i64_w,i32_w];rfl
 refine pure_ (i:=6) (N:=some 13) (v:=?_) (a':=?_) #[zt,zt,zf,zt,zt,zt,zt,zf,zf] rfl rfl (by kernel_rfl) (fun _ _ _ h=>h) (Or.inl ⟨by rfl,?_⟩) ?_ ?_;rotate_left
 ·intro w';go_simp;with_reducible rfl
 rotate_left
 ·simp only [Act.put,zq1,zq2,zq3,i64_w,i32_w];rfl
 refine take_ (i:=2) (N:=some 9) (v:=?_) (a':=?_) #[zt,zt,zt,zt,zt,zt,zt,zf,zf] rfl rfl (by kernel_rfl) (fun _ _ _ h=>h) (Or.inl ⟨by rfl,?_⟩) hHeld ?_ ?_;rotate_left
 ·intro w' s0;go_simp;with_reducible rfl
 rotate_left
 ·simp only [Act.put,zq1,zq2,zq3,i64_w,i32_w];rfl
 refine pure_ (i:=7) (N:=some 14) (v:=?_) (a':=?_) #[zt,zt,zt,zt,zt,zt,zt,zt,zf] rfl rfl (by kernel_rfl) (fun _ _ _ h=>h) (Or.inl ⟨by rfl,?_⟩) ?_ ?_;rotate_left
 ·intro w';go_simp;with_reducible rfl
 rotate_left
 ·simp only [Act.put,zq1,zq2,zq3,i64_w,i32_w];rfl
 refine last_ (i:=8) (N:=none) #[zt,zt,zt,zt,zt,zt,zt,zt,zt] rfl rfl (by kernel_rfl) (by decide) (fun K hK=>?_);refine skip_ (w1:=?_) (by rfl) rfl ?_ ?_;rotate_left
 ·go_simp;rfl
 refine hK.out _ _ ?_;clear hK K;refine done_ (by kernel_rfl) ?_;have HS2:=Aside0.mk (HS.out.setReg hA.out.1 hA.out.2 z).drew;have HF2:=Aside0.mk (z2e (HF.out.trans (z1k w1 ⟨r,8+i.f1.toNat,none⟩ (.int .u64 z))));generalize (w1.setCell ⟨r,8+i.f1.toNat,none⟩ (.int .u64 z)).drew=w2 at HS2 HF2 ⊢;clear HS HF d1 d2 hp0 hp1 hHeld BI;have c7:w2.cell? ⟨r,7,none⟩=some (.int .i64 x):=(HS2.out.cell 7).trans rfl;have f7:=HS2.out.frozen 7;have hwr:IntKind.i64.wrap (x+1)=x+1:=IntWalk.i64_in _ (by have:=hX.out;omega);go_wp2

 go_ret
 exact ⟨rfl,⟨_,HS2.out.setPlace (x+1)⟩,HF2.out.trans (z1k w2 ⟨r,7,none⟩ (.int .i64 (x+1)))⟩
section
variable {K:Act→World→Prop} {Q:Exit→Act→World→Prop} {n j:Nat} {a:Act} {w:World}
theorem z25 (h:Q (.exit n) a w):Exit.then K Q (.exit n) a w:=h
theorem z22 (hn:n≠j) (h:Q (.exit n) a w):Exit.inBlock j Q (.exit n) a w:=by
 show (if n=j then Q .normal a w else Q (.exit n) a w);rw [if_neg hn];exact h
theorem z2b (h:Q .normal a w):Exit.inBlock n Q (.exit n) a w:=by
 show (if n=n then Q .normal a w else Q (.exit n) a w);rw [if_pos rfl];exact h
theorem z24 (h:K a w):Exit.then K Q .normal a w:=h
theorem z1w (h:Q .normal a w):Exit.inBlock n Q .normal a w:=h
end
theorem apply8 (x y:Int) (w:World):Calls Tryz.prog 154 #[.int .i64 8,.int .i64 64,.int .u64 x,.int .u64 y] w fun e w'=>(∃ z,e=.returned (.int .u64 z))∧Below w.heap.size w w':=by
 go_enter Tryz.func154,Tryz.ntmps154
 go_upto_region 8 with (first
  | (go_at_call 166;refine (z2i _).mono ?_;rintro e w' ⟨rfl,rfl⟩)
  | (go_at_call 167;refine (cut64 _ _).mono ?_;rintro e w' ⟨⟨z,hz0,hz1,rfl⟩,rfl⟩)
  | (go_at_call 168;refine (z2n _ _ _ hz0 hz1).mono ?_;rintro e W2 ⟨⟨z1,z2,rfl⟩,hB⟩;have BK:=Aside0.mk (z0t (z0z w _) hB);have HB:=Aside0.mk (z0y (z04 (Below.refl w.heap.size w) _) (by show _≤(w.heap.push _).size;simp) hB);have c2:=z01 BK.out 0;have f2:=z02 BK.out 0;clear hB))
 iterate 140 (first|(go_at_call 167;skip)|(with_reducible first|refine z25 ?_|refine z2b ?_|refine z22 (by decide) ?_|refine z1w ?_|refine z24 ?_)|go_step|go_simp)
 go_wp2_with (go_at_call 167;refine (cut64 _ _).mono ?_;rintro e w' ⟨⟨z,hz0,hz1,rfl⟩,rfl⟩)
 go_ret
 refine ⟨⟨_,rfl⟩,?_⟩;first|exact HB.out|exact z04 HB.out _|exact z07 HB.out (Nat.le_refl _)
theorem apply9 (x y:Int) (w:World):Calls Tryz.prog 154 #[.int .i64 9,.int .i64 64,.int .u64 x,.int .u64 y] w fun e w'=>(∃ z,e=.returned (.int .u64 z))∧Below w.heap.size w w':=by
 go_enter Tryz.func154,Tryz.ntmps154
 go_upto_region 7 with (first
  | (go_at_call 166;refine (z2i _).mono ?_;rintro e w' ⟨rfl,rfl⟩)
  | (go_at_call 167;refine (cut64 _ _).mono ?_;rintro e w' ⟨⟨z,hz0,hz1,rfl⟩,rfl⟩)
  | (go_at_call 168;refine (z2n _ _ _ hz0 hz1).mono ?_;rintro e W2 ⟨⟨z1,z2,rfl⟩,hB⟩;have BK:=Aside0.mk (z0t (z0z w _) hB);have HB:=Aside0.mk (z0y (z04 (Below.refl w.heap.size w) _) (by show _≤(w.heap.push _).size;simp) hB);have c2:=z01 BK.out 0;have f2:=z02 BK.out 0;clear hB))
 iterate 140 (first|(go_at_call 167;skip)|(with_reducible first|refine z25 ?_|refine z2b ?_|refine z22 (by decide) ?_|refine z1w ?_|refine z24 ?_)|go_step|go_simp)
 go_wp2_with (go_at_call 167;refine (cut64 _ _).mono ?_;rintro e w' ⟨⟨z,hz0,hz1,rfl⟩,rfl⟩)
 go_ret
 refine ⟨⟨_,rfl⟩,?_⟩;first|exact HB.out|exact z04 HB.out _|exact z07 HB.out (Nat.le_refl _)
theorem apply10 (x y:Int) (w:World):Calls Tryz.prog 154 #[.int .i64 10,.int .i64 64,.int .u64 x,.int .u64 y] w fun e w'=>(∃ z,e=.returned (.int .u64 z))∧Below w.heap.size w w':=by
 go_enter Tryz.func154,Tryz.ntmps154
 go_upto_region 9 with (first
  | (go_at_call 166;refine (z2i _).mono ?_;rintro e w' ⟨rfl,rfl⟩)
  | (go_at_call 167;refine (cut64 _ _).mono ?_;rintro e w' ⟨⟨z,hz0,hz1,rfl⟩,rfl⟩)
  | (go_at_call 168;refine (z2n _ _ _ hz0 hz1).mono ?_;rintro e W2 ⟨⟨z1,z2,rfl⟩,hB⟩;have BK:=Aside0.mk (z0t (z0z w _) hB);have HB:=Aside0.mk (z0y (z04 (Below.refl w.heap.size w) _) (by show _≤(w.heap.push _).size;simp) hB);have c2:=z01 BK.out 0;have f2:=z02 BK.out 0;clear hB))
 iterate 140 (first|(go_at_call 167;skip)|(with_reducible first|refine z25 ?_|refine z2b ?_|refine z22 (by decide) ?_|refine z1w ?_|refine z24 ?_)|go_step|go_simp)
 go_wp2_with (go_at_call 167;refine (cut64 _ _).mono ?_;rintro e w' ⟨⟨z,hz0,hz1,rfl⟩,rfl⟩)
 go_ret
 refine ⟨⟨_,rfl⟩,?_⟩;first|exact HB.out|exact z04 HB.out _|exact z07 HB.out (Nat.le_refl _)
theorem apply11 (x y:Int) (w:World):Calls Tryz.prog 154 #[.int .i64 11,.int .i64 64,.int .u64 x,.int .u64 y] w fun e w'=>(∃ z,e=.returned (.int .u64 z))∧Below w.heap.size w w':=by
 go_enter Tryz.func154,Tryz.ntmps154
 go_upto_region 10 with (first
  | (go_at_call 166;refine (z2i _).mono ?_;rintro e w' ⟨rfl,rfl⟩)
  | (go_at_call 167;refine (cut64 _ _).mono ?_;rintro e w' ⟨⟨z,hz0,hz1,rfl⟩,rfl⟩)
  | (go_at_call 168;refine (z2n _ _ _ hz0 hz1).mono ?_;rintro e W2 ⟨⟨z1,z2,rfl⟩,hB⟩;have BK:=Aside0.mk (z0t (z0z w _) hB);have HB:=Aside0.mk (z0y (z04 (Below.refl w.heap.size w) _) (by show _≤(w.heap.push _).size;simp) hB);have c2:=z01 BK.out 0;have f2:=z02 BK.out 0;clear hB))
 iterate 140 (first|(go_at_call 167;skip)|(with_reducible first|refine z25 ?_|refine z2b ?_|refine z22 (by decide) ?_|refine z1w ?_|refine z24 ?_)|go_step|go_simp)
 go_wp2_with (go_at_call 167;refine (cut64 _ _).mono ?_;rintro e w' ⟨⟨z,hz0,hz1,rfl⟩,rfl⟩)
 go_ret
 refine ⟨⟨_,rfl⟩,?_⟩;first|exact HB.out|exact z04 HB.out _|exact z07 HB.out (Nat.le_refl _)
theorem apply12 (x y:Int) (w:World):Calls Tryz.prog 154 #[.int .i64 12,.int .i64 64,.int .u64 x,.int .u64 y] w fun e w'=>(∃ z,e=.returned (.int .u64 z))∧Below w.heap.size w w':=by
 go_enter Tryz.func154,Tryz.ntmps154
 go_upto_region 11 with (first
  | (go_at_call 166;refine (z2i _).mono ?_;rintro e w' ⟨rfl,rfl⟩)
  | (go_at_call 167;refine (cut64 _ _).mono ?_;rintro e w' ⟨⟨z,hz0,hz1,rfl⟩,rfl⟩)
  | (go_at_call 168;refine (z2n _ _ _ hz0 hz1).mono ?_;rintro e W2 ⟨⟨z1,z2,rfl⟩,hB⟩;have BK:=Aside0.mk (z0t (z0z w _) hB);have HB:=Aside0.mk (z0y (z04 (Below.refl w.heap.size w) _) (by show _≤(w.heap.push _).size;simp) hB);have c2:=z01 BK.out 0;have f2:=z02 BK.out 0;clear hB))
 iterate 140 (first|(go_at_call 167;skip)|(with_reducible first|refine z25 ?_|refine z2b ?_|refine z22 (by decide) ?_|refine z1w ?_|refine z24 ?_)|go_step|go_simp)
 go_wp2_with (go_at_call 167;refine (cut64 _ _).mono ?_;rintro e w' ⟨⟨z,hz0,hz1,rfl⟩,rfl⟩)
 go_ret
 refine ⟨⟨_,rfl⟩,?_⟩;first|exact HB.out|exact z04 HB.out _|exact z07 HB.out (Nat.le_refl _)
theorem apply13 (x y:Int) (w:World):Calls Tryz.prog 154 #[.int .i64 13,.int .i64 64,.int .u64 x,.int .u64 y] w fun e w'=>(∃ z,e=.returned (.int .u64 z))∧Below w.heap.size w w':=by
 go_enter Tryz.func154,Tryz.ntmps154
 go_upto_region 12 with (first
  | (go_at_call 166;refine (z2i _).mono ?_;rintro e w' ⟨rfl,rfl⟩)
  | (go_at_call 167;refine (cut64 _ _).mono ?_;rintro e w' ⟨⟨z,hz0,hz1,rfl⟩,rfl⟩)
  | (go_at_call 168;refine (z2n _ _ _ hz0 hz1).mono ?_;rintro e W2 ⟨⟨z1,z2,rfl⟩,hB⟩;have BK:=Aside0.mk (z0t (z0z w _) hB);have HB:=Aside0.mk (z0y (z04 (Below.refl w.heap.size w) _) (by show _≤(w.heap.push _).size;simp) hB);have c2:=z01 BK.out 0;have f2:=z02 BK.out 0;clear hB))
 iterate 140 (first|(go_at_call 167;skip)|(with_reducible first|refine z25 ?_|refine z2b ?_|refine z22 (by decide) ?_|refine z1w ?_|refine z24 ?_)|go_step|go_simp)
 go_wp2_with (go_at_call 167;refine (cut64 _ _).mono ?_;rintro e w' ⟨⟨z,hz0,hz1,rfl⟩,rfl⟩)
 go_ret
 refine ⟨⟨_,rfl⟩,?_⟩;first|exact HB.out|exact z04 HB.out _|exact z07 HB.out (Nat.le_refl _)
theorem apply14 (x y:Int) (w:World):Calls Tryz.prog 154 #[.int .i64 14,.int .i64 64,.int .u64 x,.int .u64 y] w fun e w'=>(∃ z,e=.returned (.int .u64 z))∧Below w.heap.size w w':=by
 go_enter Tryz.func154,Tryz.ntmps154
 go_upto_region 13 with (first
  | (go_at_call 166;refine (z2i _).mono ?_;rintro e w' ⟨rfl,rfl⟩)
  | (go_at_call 167;refine (cut64 _ _).mono ?_;rintro e w' ⟨⟨z,hz0,hz1,rfl⟩,rfl⟩)
  | (go_at_call 168;refine (z2n _ _ _ hz0 hz1).mono ?_;rintro e W2 ⟨⟨z1,z2,rfl⟩,hB⟩;have BK:=Aside0.mk (z0t (z0z w _) hB);have HB:=Aside0.mk (z0y (z04 (Below.refl w.heap.size w) _) (by show _≤(w.heap.push _).size;simp) hB);have c2:=z01 BK.out 0;have f2:=z02 BK.out 0;clear hB))
 iterate 140 (first|(go_at_call 167;skip)|(with_reducible first|refine z25 ?_|refine z2b ?_|refine z22 (by decide) ?_|refine z1w ?_|refine z24 ?_)|go_step|go_simp)
 go_wp2_with (go_at_call 167;refine (cut64 _ _).mono ?_;rintro e w' ⟨⟨z,hz0,hz1,rfl⟩,rfl⟩)
 go_ret
 refine ⟨⟨_,rfl⟩,?_⟩;first|exact HB.out|exact z04 HB.out _|exact z07 HB.out (Nat.le_refl _)
theorem apply15 (x y:Int) (w:World):Calls Tryz.prog 154 #[.int .i64 15,.int .i64 64,.int .u64 x,.int .u64 y] w fun e w'=>(∃ z,e=.returned (.int .u64 z))∧Below w.heap.size w w':=by
 go_enter Tryz.func154,Tryz.ntmps154
 go_upto_region 14 with (first
  | (go_at_call 166;refine (z2i _).mono ?_;rintro e w' ⟨rfl,rfl⟩)
  | (go_at_call 167;refine (cut64 _ _).mono ?_;rintro e w' ⟨⟨z,hz0,hz1,rfl⟩,rfl⟩)
  | (go_at_call 168;refine (z2n _ _ _ hz0 hz1).mono ?_;rintro e W2 ⟨⟨z1,z2,rfl⟩,hB⟩;have BK:=Aside0.mk (z0t (z0z w _) hB);have HB:=Aside0.mk (z0y (z04 (Below.refl w.heap.size w) _) (by show _≤(w.heap.push _).size;simp) hB);have c2:=z01 BK.out 0;have f2:=z02 BK.out 0;clear hB))
 iterate 140 (first|(go_at_call 167;skip)|(with_reducible first|refine z25 ?_|refine z2b ?_|refine z22 (by decide) ?_|refine z1w ?_|refine z24 ?_)|go_step|go_simp)
 go_wp2_with (go_at_call 167;refine (cut64 _ _).mono ?_;rintro e w' ⟨⟨z,hz0,hz1,rfl⟩,rfl⟩)
 go_ret
 refine ⟨⟨_,rfl⟩,?_⟩;first|exact HB.out|exact z04 HB.out _|exact z07 HB.out (Nat.le_refl _)
theorem apply16 (x y:Int) (w:World):Calls Tryz.prog 154 #[.int .i64 16,.int .i64 64,.int .u64 x,.int .u64 y] w fun e w'=>(∃ z,e=.returned (.int .u64 z))∧Below w.heap.size w w':=by
 go_enter Tryz.func154,Tryz.ntmps154
 go_upto_region 15 with (first
  | (go_at_call 166;refine (z2i _).mono ?_;rintro e w' ⟨rfl,rfl⟩)
  | (go_at_call 167;refine (cut64 _ _).mono ?_;rintro e w' ⟨⟨z,hz0,hz1,rfl⟩,rfl⟩)
  | (go_at_call 168;refine (z2n _ _ _ hz0 hz1).mono ?_;rintro e W2 ⟨⟨z1,z2,rfl⟩,hB⟩;have BK:=Aside0.mk (z0t (z0z w _) hB);have HB:=Aside0.mk (z0y (z04 (Below.refl w.heap.size w) _) (by show _≤(w.heap.push _).size;simp) hB);have c2:=z01 BK.out 0;have f2:=z02 BK.out 0;clear hB))
 iterate 140 (first|(go_at_call 167;skip)|(with_reducible first|refine z25 ?_|refine z2b ?_|refine z22 (by decide) ?_|refine z1w ?_|refine z24 ?_)|(go_at_call 169;refine (shift1 _ _ _ _ _ c2 hz0).mono ?_;rintro e w' ⟨⟨z,rfl⟩,rfl⟩)|go_step|go_simp)
 go_wp2_with (go_at_call 167;refine (cut64 _ _).mono ?_;rintro e w' ⟨⟨z,hz0,hz1,rfl⟩,rfl⟩)
 go_ret
 refine ⟨⟨_,rfl⟩,?_⟩;first|exact HB.out|exact z04 HB.out _|exact z07 HB.out (Nat.le_refl _)
theorem apply17 (x y:Int) (w:World):Calls Tryz.prog 154 #[.int .i64 17,.int .i64 64,.int .u64 x,.int .u64 y] w fun e w'=>(∃ z,e=.returned (.int .u64 z))∧Below w.heap.size w w':=by
 go_enter Tryz.func154,Tryz.ntmps154
 go_upto_region 16 with (first
  | (go_at_call 166;refine (z2i _).mono ?_;rintro e w' ⟨rfl,rfl⟩)
  | (go_at_call 167;refine (cut64 _ _).mono ?_;rintro e w' ⟨⟨z,hz0,hz1,rfl⟩,rfl⟩)
  | (go_at_call 168;refine (z2n _ _ _ hz0 hz1).mono ?_;rintro e W2 ⟨⟨z1,z2,rfl⟩,hB⟩;have BK:=Aside0.mk (z0t (z0z w _) hB);have HB:=Aside0.mk (z0y (z04 (Below.refl w.heap.size w) _) (by show _≤(w.heap.push _).size;simp) hB);have c2:=z01 BK.out 0;have f2:=z02 BK.out 0;clear hB))
 iterate 140 (first|(go_at_call 167;skip)|(with_reducible first|refine z25 ?_|refine z2b ?_|refine z22 (by decide) ?_|refine z1w ?_|refine z24 ?_)|(go_at_call 169;refine (shift2 _ _ _ _ _ c2 hz0).mono ?_;rintro e w' ⟨⟨z,rfl⟩,rfl⟩)|go_step|go_simp)
 go_wp2_with (go_at_call 167;refine (cut64 _ _).mono ?_;rintro e w' ⟨⟨z,hz0,hz1,rfl⟩,rfl⟩)
 go_ret
 refine ⟨⟨_,rfl⟩,?_⟩;first|exact HB.out|exact z04 HB.out _|exact z07 HB.out (Nat.le_refl _)
theorem apply18 (x y:Int) (w:World):Calls Tryz.prog 154 #[.int .i64 18,.int .i64 64,.int .u64 x,.int .u64 y] w fun e w'=>(∃ z,e=.returned (.int .u64 z))∧Below w.heap.size w w':=by
 go_enter Tryz.func154,Tryz.ntmps154
 go_upto_region 17 with (first
  | (go_at_call 166;refine (z2i _).mono ?_;rintro e w' ⟨rfl,rfl⟩)
  | (go_at_call 167;refine (cut64 _ _).mono ?_;rintro e w' ⟨⟨z,hz0,hz1,rfl⟩,rfl⟩)
  | (go_at_call 168;refine (z2n _ _ _ hz0 hz1).mono ?_;rintro e W2 ⟨⟨z1,z2,rfl⟩,hB⟩;have BK:=Aside0.mk (z0t (z0z w _) hB);have HB:=Aside0.mk (z0y (z04 (Below.refl w.heap.size w) _) (by show _≤(w.heap.push _).size;simp) hB);have c2:=z01 BK.out 0;have f2:=z02 BK.out 0;clear hB))
 iterate 140 (first|(go_at_call 167;skip)|(with_reducible first|refine z25 ?_|refine z2b ?_|refine z22 (by decide) ?_|refine z1w ?_|refine z24 ?_)|(go_at_call 172;refine (sign64 _ _).mono ?_;rintro e w' ⟨⟨z,rfl⟩,rfl⟩)|(go_at_call 169;refine (shift3 _ _ _ _ _ ((World.cell?_alloc_new _ _ _ 0).trans rfl) hz0).mono ?_;rintro e w' ⟨⟨z,rfl⟩,rfl⟩)|go_step|go_simp)
 go_wp2_with (go_at_call 167;refine (cut64 _ _).mono ?_;rintro e w' ⟨⟨z,hz0,hz1,rfl⟩,rfl⟩)
 go_ret
 refine ⟨⟨_,rfl⟩,?_⟩;first|exact HB.out|exact z04 HB.out _|exact z07 HB.out (Nat.le_refl _)
theorem apply19 (x y:Int) (w:World):Calls Tryz.prog 154 #[.int .i64 19,.int .i64 64,.int .u64 x,.int .u64 y] w fun e w'=>(∃ z,e=.returned (.int .u64 z))∧Below w.heap.size w w':=by
 go_enter Tryz.func154,Tryz.ntmps154
 go_upto_region 18 with (first
  | (go_at_call 166;refine (z2i _).mono ?_;rintro e w' ⟨rfl,rfl⟩)
  | (go_at_call 167;refine (cut64 _ _).mono ?_;rintro e w' ⟨⟨z,hz0,hz1,rfl⟩,rfl⟩)
  | (go_at_call 168;refine (z2n _ _ _ hz0 hz1).mono ?_;rintro e W2 ⟨⟨z1,z2,rfl⟩,hB⟩;have BK:=Aside0.mk (z0t (z0z w _) hB);have HB:=Aside0.mk (z0y (z04 (Below.refl w.heap.size w) _) (by show _≤(w.heap.push _).size;simp) hB);have c2:=z01 BK.out 0;have f2:=z02 BK.out 0;clear hB))
 iterate 140 (first|(go_at_call 167;skip)|(with_reducible first|refine z25 ?_|refine z2b ?_|refine z22 (by decide) ?_|refine z1w ?_|refine z24 ?_)|(go_at_call 174;refine (flag_calls _ _).mono ?_;rintro e w' ⟨⟨z,rfl⟩,rfl⟩)|go_step|go_simp)
 go_wp2_with (go_at_call 167;refine (cut64 _ _).mono ?_;rintro e w' ⟨⟨z,hz0,hz1,rfl⟩,rfl⟩)
 go_ret
 refine ⟨⟨_,rfl⟩,?_⟩;first|exact HB.out|exact z04 HB.out _|exact z07 HB.out (Nat.le_refl _)
theorem apply20 (x y:Int) (w:World):Calls Tryz.prog 154 #[.int .i64 20,.int .i64 64,.int .u64 x,.int .u64 y] w fun e w'=>(∃ z,e=.returned (.int .u64 z))∧Below w.heap.size w w':=by
 go_enter Tryz.func154,Tryz.ntmps154
 go_upto_region 20 with (first
  | (go_at_call 166;refine (z2i _).mono ?_;rintro e w' ⟨rfl,rfl⟩)
  | (go_at_call 167;refine (cut64 _ _).mono ?_;rintro e w' ⟨⟨z,hz0,hz1,rfl⟩,rfl⟩)
  | (go_at_call 168;refine (z2n _ _ _ hz0 hz1).mono ?_;rintro e W2 ⟨⟨z1,z2,rfl⟩,hB⟩;have BK:=Aside0.mk (z0t (z0z w _) hB);have HB:=Aside0.mk (z0y (z04 (Below.refl w.heap.size w) _) (by show _≤(w.heap.push _).size;simp) hB);have c2:=z01 BK.out 0;have f2:=z02 BK.out 0;clear hB))
 iterate 140 (first|(go_at_call 167;skip)|(with_reducible first|refine z25 ?_|refine z2b ?_|refine z22 (by decide) ?_|refine z1w ?_|refine z24 ?_)|(go_at_call 174;refine (flag_calls _ _).mono ?_;rintro e w' ⟨⟨z,rfl⟩,rfl⟩)|go_step|go_simp)
 go_wp2_with (go_at_call 167;refine (cut64 _ _).mono ?_;rintro e w' ⟨⟨z,hz0,hz1,rfl⟩,rfl⟩)
 go_ret
 refine ⟨⟨_,rfl⟩,?_⟩;first|exact HB.out|exact z04 HB.out _|exact z07 HB.out (Nat.le_refl _)
theorem apply21 (x y:Int) (w:World):Calls Tryz.prog 154 #[.int .i64 21,.int .i64 64,.int .u64 x,.int .u64 y] w fun e w'=>(∃ z,e=.returned (.int .u64 z))∧Below w.heap.size w w':=by
 go_enter Tryz.func154,Tryz.ntmps154
 go_upto_region 19 with (first
  | (go_at_call 166;refine (z2i _).mono ?_;rintro e w' ⟨rfl,rfl⟩)
  | (go_at_call 167;refine (cut64 _ _).mono ?_;rintro e w' ⟨⟨z,hz0,hz1,rfl⟩,rfl⟩)
  | (go_at_call 168;refine (z2n _ _ _ hz0 hz1).mono ?_;rintro e W2 ⟨⟨z1,z2,rfl⟩,hB⟩;have BK:=Aside0.mk (z0t (z0z w _) hB);have HB:=Aside0.mk (z0y (z04 (Below.refl w.heap.size w) _) (by show _≤(w.heap.push _).size;simp) hB);have c2:=z01 BK.out 0;have f2:=z02 BK.out 0;clear hB))
 iterate 140 (first|(go_at_call 167;skip)|(with_reducible first|refine z25 ?_|refine z2b ?_|refine z22 (by decide) ?_|refine z1w ?_|refine z24 ?_)|(go_at_call 174;refine (flag_calls _ _).mono ?_;rintro e w' ⟨⟨z,rfl⟩,rfl⟩)|go_step|go_simp)
 go_wp2_with (go_at_call 167;refine (cut64 _ _).mono ?_;rintro e w' ⟨⟨z,hz0,hz1,rfl⟩,rfl⟩)
 go_ret
 refine ⟨⟨_,rfl⟩,?_⟩;first|exact HB.out|exact z04 HB.out _|exact z07 HB.out (Nat.le_refl _)
theorem apply_calls (op x y:Int) (w:World) (h0:8≤op) (h1:op≤21):Calls Tryz.prog 154 #[.int .i64 op,.int .i64 64,.int .u64 x,.int .u64 y] w fun e w'=>(∃ z,e=.returned (.int .u64 z))∧Below w.heap.size w w':=by
 have h:op=8∨op=9∨op=10∨op=11∨op=12∨op=13∨op=14∨op=15∨op=16∨op=17∨op=18∨op=19∨op=20∨op=21:=by omega
 rcases h with rfl|rfl|rfl|rfl|rfl|rfl|rfl|rfl|rfl|rfl|rfl|rfl|rfl|rfl
 ·exact apply8 x y w
 ·exact apply9 x y w
 ·exact apply10 x y w
 ·exact apply11 x y w
 ·exact apply12 x y w
 ·exact apply13 x y w
 ·exact apply14 x y w
 ·exact apply15 x y w
 ·exact apply16 x y w
 ·exact apply17 x y w
 ·exact apply18 x y w
 ·exact apply19 x y w
 ·exact apply20 x y w
 ·exact apply21 x y w
section
variable {w0 w w1 w':World} {r mb m:Nat} {p:Im} {iv v3 v4 v5:Value} {Y:Nat→Prop} {x x':Int} {rg:Nat→Int} {ov:Value} {os:List Int}
theorem z35 (hF:Fr w w1 (fun j=>j=r)) (hM:∃ rg',MSt w0 w' r mb m p iv v3 v4 v5 Y x' rg' ov os) (hf:Fr w1 w' (fun j=>j=r)) (hn:Nxt p x os x' os):z1m w0 w r mb m p iv v3 v4 v5 Y x os (.returned (.int .i64 0)) w':=by
 obtain ⟨rg',hM⟩:=hM;exact ⟨0,x',rg',ov,os,Y,rfl,hM,fun i hi=>.inl hi,(hF.trans hf).mono (fun i _ hi=>.inl hi),fun _=>⟨hn,.inr (Nat.le_refl _)⟩⟩
theorem z31 {k:Int} (hk:k≠0) (hF:Fr w w' (fun j=>j=r)) (hM:MSt w0 w' r mb m p iv v3 v4 v5 Y x' rg ov os):z1m w0 w r mb m p iv v3 v4 v5 Y x os (.returned (.int .i64 k)) w' :=
 ⟨k,x',rg,ov,os,Y,rfl,hM,fun i hi=>.inl hi,hF.mono (fun i _ hi=>.inl hi),fun h=>absurd h hk⟩
theorem fr_of_bel {S:Nat→Prop} (hb:Below w.heap.size w w'):Fr w w' S:=⟨hb.os,hb.tape,hb.output,hb.size,fun i hi _=>hb.block i hi⟩
end
theorem deed_halt {w0 w:World} {r mb m:Nat} {p:Im} {Ai A3 A4 A5:Option Addr} {il ci n3 c3 n4 c4 n5 c5:Nat} {Y:Nat→Prop} {x:Int} {rg:Nat→Int} {ov:Value} {os:List Int} (h:MSt w0 w r mb m p (.slice Ai il ci) (.slice A3 n3 c3) (.slice A4 n4 c4) (.slice A5 n5 c5) Y x rg ov os) (hx0:0≤x) (hx1:x < 256) (i:In)  :
  Calls Tryz.prog 116 #[.pointer (some ⟨r,0,none⟩),.agg #[.int .i64 i.f0,.int .i64 i.f1,.int .i64 i.f2,.int .i64 i.f3,.int .u64 i.f4]] w (z1m w0 w r mb m p (.slice Ai il ci) (.slice A3 n3 c3) (.slice A4 n4 c4) (.slice A5 n5 c5) Y x os):=by
 have HS:=Aside0.mk (h.alloc (.cells #[.int .i64 i.f0,.int .i64 i.f1,.int .i64 i.f2,.int .i64 i.f3,.int .u64 i.f4] 79));have HF:Aside0 (Fr w (w.alloc (.cells #[.int .i64 i.f0,.int .i64 i.f1,.int .i64 i.f2,.int .i64 i.f3,.int .u64 i.f4] 79)) (fun j=>j=r)):=⟨z1f w _ _⟩;have BI:=Aside0.mk (z0z w (.cells #[.int .i64 i.f0,.int .i64 i.f1,.int .i64 i.f2,.int .i64 i.f3,.int .u64 i.f4] 79));have hX:=Aside0.mk (And.intro hx0 hx1);have hR:=Aside0.mk h.rlt;clear h hx0 hx1
 go_enter Tryz.func116,Tryz.ntmps116
 go_wp2;go_ret
 exact z31 (by decide) HF.out HS.out
theorem deed_fail {w0 w:World} {r mb m:Nat} {p:Im} {Ai A3 A4 A5:Option Addr} {il ci n3 c3 n4 c4 n5 c5:Nat} {Y:Nat→Prop} {x:Int} {rg:Nat→Int} {ov:Value} {os:List Int} (h:MSt w0 w r mb m p (.slice Ai il ci) (.slice A3 n3 c3) (.slice A4 n4 c4) (.slice A5 n5 c5) Y x rg ov os) (hx0:0≤x) (hx1:x < 256) (i:In)  :
  Calls Tryz.prog 127 #[.pointer (some ⟨r,0,none⟩),.agg #[.int .i64 i.f0,.int .i64 i.f1,.int .i64 i.f2,.int .i64 i.f3,.int .u64 i.f4]] w (z1m w0 w r mb m p (.slice Ai il ci) (.slice A3 n3 c3) (.slice A4 n4 c4) (.slice A5 n5 c5) Y x os):=by
 have HS:=Aside0.mk (h.alloc (.cells #[.int .i64 i.f0,.int .i64 i.f1,.int .i64 i.f2,.int .i64 i.f3,.int .u64 i.f4] 79));have HF:Aside0 (Fr w (w.alloc (.cells #[.int .i64 i.f0,.int .i64 i.f1,.int .i64 i.f2,.int .i64 i.f3,.int .u64 i.f4] 79)) (fun j=>j=r)):=⟨z1f w _ _⟩;have BI:=Aside0.mk (z0z w (.cells #[.int .i64 i.f0,.int .i64 i.f1,.int .i64 i.f2,.int .i64 i.f3,.int .u64 i.f4] 79));have hX:=Aside0.mk (And.intro hx0 hx1);have hR:=Aside0.mk h.rlt;clear h hx0 hx1
 go_enter Tryz.func127,Tryz.ntmps127
 go_wp2;go_ret
 exact z31 (by decide) HF.out HS.out
theorem deed_set {w0 w:World} {r mb m:Nat} {p:Im} {Ai A3 A4 A5:Option Addr} {il ci n3 c3 n4 c4 n5 c5:Nat} {Y:Nat→Prop} {x:Int} {rg:Nat→Int} {ov:Value} {os:List Int} (h:MSt w0 w r mb m p (.slice Ai il ci) (.slice A3 n3 c3) (.slice A4 n4 c4) (.slice A5 n5 c5) Y x rg ov os) (hx0:0≤x) (hx1:x < 256) (i:In) (a0:0≤i.f1) (a7:i.f1≤7) (hn:Nxt p x os (x+1) os) :
  Calls Tryz.prog 117 #[.pointer (some ⟨r,0,none⟩),.agg #[.int .i64 i.f0,.int .i64 i.f1,.int .i64 i.f2,.int .i64 i.f3,.int .u64 i.f4]] w (z1m w0 w r mb m p (.slice Ai il ci) (.slice A3 n3 c3) (.slice A4 n4 c4) (.slice A5 n5 c5) Y x os):=by
 have HS:=Aside0.mk (h.alloc (.cells #[.int .i64 i.f0,.int .i64 i.f1,.int .i64 i.f2,.int .i64 i.f3,.int .u64 i.f4] 79));have HF:Aside0 (Fr w (w.alloc (.cells #[.int .i64 i.f0,.int .i64 i.f1,.int .i64 i.f2,.int .i64 i.f3,.int .u64 i.f4] 79)) (fun j=>j=r)):=⟨z1f w _ _⟩;have BI:=Aside0.mk (z0z w (.cells #[.int .i64 i.f0,.int .i64 i.f1,.int .i64 i.f2,.int .i64 i.f3,.int .u64 i.f4] 79));have hX:=Aside0.mk (And.intro hx0 hx1);have hR:=Aside0.mk h.rlt;have hA:=Aside0.mk (And.intro a0 a7);clear a0 a7;have HN:=Aside0.mk hn;clear hn;clear h hx0 hx1
 go_enter Tryz.func117,Tryz.ntmps117
 go_wp2_with (go_at_call 150;refine (put_reg HS.out hX.out.1 hX.out.2 i hA.out.1 hA.out.2 _).mono ?_;rintro e w2 ⟨rfl,hm,hf⟩;have HM:=Aside0.mk (z35 HF.out hm hf HN.out);clear hm hf)
 go_ret
 exact HM.out
theorem deed_move {w0 w:World} {r mb m:Nat} {p:Im} {Ai A3 A4 A5:Option Addr} {il ci n3 c3 n4 c4 n5 c5:Nat} {Y:Nat→Prop} {x:Int} {rg:Nat→Int} {ov:Value} {os:List Int} (h:MSt w0 w r mb m p (.slice Ai il ci) (.slice A3 n3 c3) (.slice A4 n4 c4) (.slice A5 n5 c5) Y x rg ov os) (hx0:0≤x) (hx1:x < 256) (i:In) (a0:0≤i.f1) (a7:i.f1≤7) (b0:0≤i.f2) (b7:i.f2≤7) (hn:Nxt p x os (x+1) os) :
  Calls Tryz.prog 118 #[.pointer (some ⟨r,0,none⟩),.agg #[.int .i64 i.f0,.int .i64 i.f1,.int .i64 i.f2,.int .i64 i.f3,.int .u64 i.f4]] w (z1m w0 w r mb m p (.slice Ai il ci) (.slice A3 n3 c3) (.slice A4 n4 c4) (.slice A5 n5 c5) Y x os):=by
 have HS:=Aside0.mk (h.alloc (.cells #[.int .i64 i.f0,.int .i64 i.f1,.int .i64 i.f2,.int .i64 i.f3,.int .u64 i.f4] 79));have HF:Aside0 (Fr w (w.alloc (.cells #[.int .i64 i.f0,.int .i64 i.f1,.int .i64 i.f2,.int .i64 i.f3,.int .u64 i.f4] 79)) (fun j=>j=r)):=⟨z1f w _ _⟩;have BI:=Aside0.mk (z0z w (.cells #[.int .i64 i.f0,.int .i64 i.f1,.int .i64 i.f2,.int .i64 i.f3,.int .u64 i.f4] 79));have hX:=Aside0.mk (And.intro hx0 hx1);have hR:=Aside0.mk h.rlt;have hA:=Aside0.mk (And.intro a0 a7);clear a0 a7;have HN:=Aside0.mk hn;clear hn;have hB:=Aside0.mk (And.intro b0 b7);clear b0 b7;clear h hx0 hx1
 go_enter Tryz.func118,Tryz.ntmps118
 go_upto_region 1 with (fail)
 generalize w.alloc (.cells #[.int .i64 i.f0,.int .i64 i.f1,.int .i64 i.f2,.int .i64 i.f3,.int .u64 i.f4] 79)=w1 at HS HF BI ⊢;generalize w.heap.size=bi at BI ⊢;have hp0:(0≤i.f2)=True:=eq_true hB.out.1;have hp1:(i.f2 < 8)=True:=eq_true (by have:=hB.out;omega);refine z1i (n:=12) (S:=fun w'=>w'.cell? ⟨bi,0,none⟩=some (.int .i64 i.f0)∧w'.cell? ⟨bi,1,none⟩=some (.int .i64 i.f1)∧w'.cell? ⟨bi,2,none⟩=some (.int .i64 i.f2)∧w'.cell? ⟨bi,3,none⟩=some (.int .i64 i.f3)∧w'.cell? ⟨bi,4,none⟩=some (.int .u64 i.f4)∧w'.cell? ⟨r,8+i.f2.toNat,none⟩=some (.int .u64 (rg i.f2.toNat))) (ds:=[10]) #[zf,zf,zf,zf,zf,zf,zf,zf,zf,zf,zf,zf] (by kernel_rfl) rfl rfl ⟨(z01 BI.out 0).trans rfl,(z01 BI.out 1).trans rfl,(z01 BI.out 2).trans rfl,(z01 BI.out 3).trans rfl,(z01 BI.out 4).trans rfl,HS.out.reg hB.out.1 hB.out.2⟩ (fun hHeld=>?_);refine pure_ (i:=0) (N:=some 5) (v:=?_) (a':=?_) #[zt,zf,zf,zf,zf,zf,zf,zf,zf,zf,zf,zf] rfl rfl (by kernel_rfl) (fun _ _ _ h=>h) (Or.inl ⟨by rfl,?_⟩) ?_ ?_;rotate_left
 ·intro w';go_simp;with_reducible rfl
 rotate_left
 ·simp only [Act.put,zq1,zq2,zq3,i64_w,i32_w];rfl
 refine pure_ (i:=2) (N:=some 7) (v:=?_) (a':=?_) #[zt,zf,zt,zf,zf,zf,zf,zf,zf,zf,zf,zf] rfl rfl (by kernel_rfl) (fun _ _ _ h=>h) (Or.inl ⟨by rfl,?_⟩) ?_ ?_;rotate_left
 ·intro w';go_simp;with_reducible rfl
 rotate_left
 ·simp only [Act.put,zq1,zq2,zq3,i64_w,i32_w];rfl
 refine pure_ (i:=3) (N:=some 8) (v:=?_) (a':=?_) #[zt,zf,zt,zt,zf,zf,zf,zf,zf,zf,zf,zf] rfl rfl (by kernel_rfl) (fun _ _ _ h=>h) (Or.inl ⟨by rfl,?_⟩) ?_ ?_;rotate_left
 ·intro w';go_simp;with_reducible rfl
 rotate_left
 ·simp only [Act.put,zq1,zq2,zq3,i64_w,i32_w];rfl
 refine pure_ (i:=5) (N:=some 10) (v:=?_) (a':=?_) #[zt,zf,zt,zt,zf,zt,zf,zf,zf,zf,zf,zf] rfl rfl (by kernel_rfl) (fun _ _ _ h=>h) (Or.inl ⟨by rfl,?_⟩) ?_ ?_;rotate_left
 ·intro w';go_simp;with_reducible rfl
 rotate_left
 ·simp only [Act.put,zq1,zq2,zq3,i64_w,i32_w];rfl
 refine pure_ (i:=6) (N:=some 11) (v:=?_) (a':=?_) #[zt,zf,zt,zt,zf,zt,zt,zf,zf,zf,zf,zf] rfl rfl (by kernel_rfl) (fun _ _ _ h=>h) (Or.inl ⟨by rfl,?_⟩) ?_ ?_;rotate_left
 ·intro w';go_simp;with_reducible rfl
 rotate_left
 ·simp only [Act.put,zq1,zq2,zq3,i64_w,i32_w];rfl
 refine pure_ (i:=7) (N:=some 12) (v:=?_) (a':=?_) #[zt,zf,zt,zt,zf,zt,zt,zt,zf,zf,zf,zf] rfl rfl (by kernel_rfl) (fun _ _ _ h=>h) (Or.inl ⟨by rfl,?_⟩) ?_ ?_;rotate_left
 ·intro w';go_simp;with_reducible rfl
 rotate_left
 ·simp only [Act.put,zq1,zq2,zq3,i64_w,i32_w];rfl
 refine take_ (i:=1) (N:=some 6) (v:=?_) (a':=?_) #[zt,zt,zt,zt,zf,zt,zt,zt,zf,zf,zf,zf] rfl rfl (by kernel_rfl) (fun _ _ _ h=>h) (Or.inl ⟨by rfl,?_⟩) hHeld ?_ ?_;rotate_left
 ·rintro w' ⟨s0,s1,s2,s3,s4,s5⟩;go_simp;with_reducible rfl
 rotate_left
 ·simp only [Act.put,zq1,zq2,zq3,i64_w,i32_w];rfl
 refine take_ (i:=4) (N:=some 9) (v:=?_) (a':=?_) #[zt,zt,zt,zt,zt,zt,zt,zt,zf,zf,zf,zf] rfl rfl (by kernel_rfl) (fun _ _ _ h=>h) (Or.inl ⟨by rfl,?_⟩) hHeld ?_ ?_;rotate_left
 ·rintro w' ⟨s0,s1,s2,s3,s4,s5⟩;go_simp;with_reducible rfl
 rotate_left
 ·simp only [Act.put,zq1,zq2,zq3,i64_w,i32_w];rfl
 refine pure_ (i:=8) (N:=some 13) (v:=?_) (a':=?_) #[zt,zt,zt,zt,zt,zt,zt,zt,zt,zf,zf,zf] rfl rfl (by kernel_rfl) (fun _ _ _ h=>h) (Or.inl ⟨by rfl,?_⟩) ?_ ?_;rotate_left
 ·intro w';go_simp;with_reducible rfl
 rotate_left
 ·simp only [Act.put,zq1,zq2,zq3,i64_w,i32_w];rfl
 refine take_ (i:=9) (N:=some 14) (v:=?_) (a':=?_) #[zt,zt,zt,zt,zt,zt,zt,zt,zt,zt,zf,zf] rfl rfl (by kernel_rfl) (fun _ _ _ h=>h) (Or.inl ⟨by rfl,?_⟩) hHeld ?_ ?_;rotate_left
 ·rintro w' ⟨s0,s1,s2,s3,s4,s5⟩;go_simp;with_reducible rfl
 rotate_left
 ·simp only [Act.put,zq1,zq2,zq3,i64_w,i32_w];rfl
 refine last_ (i:=10) (N:=some 15) #[zt,zt,zt,zt,zt,zt,zt,zt,zt,zt,zt,zf] rfl rfl (by kernel_rfl) (by decide) (fun K hK=>?_);refine goes_ Tryz.func150 (by kernel_rfl) rfl #[.pointer (some ⟨r,0,none⟩),.agg #[.int .i64 i.f0,.int .i64 i.f1,.int .i64 i.f2,.int .i64 i.f3,.int .u64 i.f4],.int .u64 (rg i.f2.toNat)] (by rfl) rfl rfl (by simp only [List.map_toArray,List.map_cons,List.map_nil];rfl) ?_;refine (put_reg HS.out.drew hX.out.1 hX.out.2 i hA.out.1 hA.out.2 _).mono ?_;rintro e w2 ⟨rfl,hm,hf⟩;refine ⟨_,rfl,?_⟩;have HM:=Aside0.mk (z35 (z2e HF.out) hm hf HN.out);clear hm hf;refine hK.out _ _ ?_;clear hK K;refine norm_ (a':=?_) ?_ ?_;rotate_left
 ·show Act.put _ (some 15) _=_;simp only [Act.put,zq1,zq2,zq3,i64_w,i32_w];rfl
 refine pure_ (i:=11) (N:=some 4) (v:=?_) (a':=?_) #[zt,zt,zt,zt,zt,zt,zt,zt,zt,zt,zt,zt] rfl rfl (by kernel_rfl) (fun _ _ _ h=>h) (Or.inl ⟨by rfl,?_⟩) ?_ ?_;rotate_left
 ·intro w';go_simp;with_reducible rfl
 rotate_left
 ·simp only [Act.put,zq1,zq2,zq3,i64_w,i32_w];rfl
 refine done_ (by kernel_rfl) ?_;go_wp2;go_ret
 exact HM.out
theorem deed_length {w0 w:World} {r mb m:Nat} {p:Im} {Ai A3 A4 A5:Option Addr} {il ci n3 c3 n4 c4 n5 c5:Nat} {Y:Nat→Prop} {x:Int} {rg:Nat→Int} {ov:Value} {os:List Int} (h:MSt w0 w r mb m p (.slice Ai il ci) (.slice A3 n3 c3) (.slice A4 n4 c4) (.slice A5 n5 c5) Y x rg ov os) (hx0:0≤x) (hx1:x < 256) (i:In) (a0:0≤i.f1) (a7:i.f1≤7) (hn:Nxt p x os (x+1) os) :
  Calls Tryz.prog 122 #[.pointer (some ⟨r,0,none⟩),.agg #[.int .i64 i.f0,.int .i64 i.f1,.int .i64 i.f2,.int .i64 i.f3,.int .u64 i.f4]] w (z1m w0 w r mb m p (.slice Ai il ci) (.slice A3 n3 c3) (.slice A4 n4 c4) (.slice A5 n5 c5) Y x os):=by
 have HS:=Aside0.mk (h.alloc (.cells #[.int .i64 i.f0,.int .i64 i.f1,.int .i64 i.f2,.int .i64 i.f3,.int .u64 i.f4] 79));have HF:Aside0 (Fr w (w.alloc (.cells #[.int .i64 i.f0,.int .i64 i.f1,.int .i64 i.f2,.int .i64 i.f3,.int .u64 i.f4] 79)) (fun j=>j=r)):=⟨z1f w _ _⟩;have BI:=Aside0.mk (z0z w (.cells #[.int .i64 i.f0,.int .i64 i.f1,.int .i64 i.f2,.int .i64 i.f3,.int .u64 i.f4] 79));have hX:=Aside0.mk (And.intro hx0 hx1);have hR:=Aside0.mk h.rlt;have hA:=Aside0.mk (And.intro a0 a7);clear a0 a7;have HN:=Aside0.mk hn;clear hn;clear h hx0 hx1
 go_enter Tryz.func122,Tryz.ntmps122
 go_upto_region 1 with (fail)
 generalize w.alloc (.cells #[.int .i64 i.f0,.int .i64 i.f1,.int .i64 i.f2,.int .i64 i.f3,.int .u64 i.f4] 79)=w1 at HS HF BI ⊢;generalize w.heap.size=bi at BI ⊢;refine z1i (n:=10) (S:=fun w'=>w'.cell? ⟨bi,0,none⟩=some (.int .i64 i.f0)∧w'.cell? ⟨bi,1,none⟩=some (.int .i64 i.f1)∧w'.cell? ⟨bi,2,none⟩=some (.int .i64 i.f2)∧w'.cell? ⟨bi,3,none⟩=some (.int .i64 i.f3)∧w'.cell? ⟨bi,4,none⟩=some (.int .u64 i.f4)∧w'.cell? ⟨r,6,none⟩=some (.slice Ai il ci)) (ds:=[8]) #[zf,zf,zf,zf,zf,zf,zf,zf,zf,zf] (by kernel_rfl) rfl rfl ⟨(z01 BI.out 0).trans rfl,(z01 BI.out 1).trans rfl,(z01 BI.out 2).trans rfl,(z01 BI.out 3).trans rfl,(z01 BI.out 4).trans rfl,(HS.out.cell 6).trans rfl⟩ (fun hHeld=>?_);refine pure_ (i:=0) (N:=some 5) (v:=?_) (a':=?_) #[zt,zf,zf,zf,zf,zf,zf,zf,zf,zf] rfl rfl (by kernel_rfl) (fun _ _ _ h=>h) (Or.inl ⟨by rfl,?_⟩) ?_ ?_;rotate_left
 ·intro w';go_simp;with_reducible rfl
 rotate_left
 ·simp only [Act.put,zq1,zq2,zq3,i64_w,i32_w];rfl
 refine pure_ (i:=2) (N:=some 7) (v:=?_) (a':=?_) #[zt,zf,zt,zf,zf,zf,zf,zf,zf,zf] rfl rfl (by kernel_rfl) (fun _ _ _ h=>h) (Or.inl ⟨by rfl,?_⟩) ?_ ?_;rotate_left
 ·intro w';go_simp;with_reducible rfl
 rotate_left
 ·simp only [Act.put,zq1,zq2,zq3,i64_w,i32_w];rfl
 refine pure_ (i:=3) (N:=some 8) (v:=?_) (a':=?_) #[zt,zf,zt,zt,zf,zf,zf,zf,zf,zf] rfl rfl (by kernel_rfl) (fun _ _ _ h=>h) (Or.inl ⟨by rfl,?_⟩) ?_ ?_;rotate_left
 ·intro w';go_simp;with_reducible rfl
 rotate_left
 ·simp only [Act.put,zq1,zq2,zq3,i64_w,i32_w];rfl
 refine pure_ (i:=4) (N:=some 9) (v:=?_) (a':=?_) #[zt,zf,zt,zt,zt,zf,zf,zf,zf,zf] rfl rfl (by kernel_rfl) (fun _ _ _ h=>h) (Or.inl ⟨by rfl,?_⟩) ?_ ?_;rotate_left
 ·intro w';go_simp;with_reducible rfl
 rotate_left
 ·simp only [Act.put,zq1,zq2,zq3,i64_w,i32_w];rfl
 refine take_ (i:=1) (N:=some 6) (v:=?_) (a':=?_) #[zt,zt,zt,zt,zt,zf,zf,zf,zf,zf] rfl rfl (by kernel_rfl) (fun _ _ _ h=>h) (Or.inl ⟨by rfl,?_⟩) hHeld ?_ ?_;rotate_left
 ·rintro w' ⟨s0,s1,s2,s3,s4,s5⟩;go_simp;with_reducible rfl
 rotate_left
 ·simp only [Act.put,zq1,zq2,zq3,i64_w,i32_w];rfl
 refine take_ (i:=5) (N:=some 10) (v:=?_) (a':=?_) #[zt,zt,zt,zt,zt,zt,zf,zf,zf,zf] rfl rfl (by kernel_rfl) (fun _ _ _ h=>h) (Or.inl ⟨by rfl,?_⟩) hHeld ?_ ?_;rotate_left
 ·rintro w' ⟨s0,s1,s2,s3,s4,s5⟩;go_simp;with_reducible rfl
 rotate_left
 ·simp only [Act.put,zq1,zq2,zq3,i64_w,i32_w];rfl
 refine pure_ (i:=6) (N:=some 11) (v:=?_) (a':=?_) #[zt,zt,zt,zt,zt,zt,zt,zf,zf,zf] rfl rfl (by kernel_rfl) (fun _ _ _ h=>h) (Or.inl ⟨by rfl,?_⟩) ?_ ?_;rotate_left
 ·intro w';go_simp;with_reducible rfl
 rotate_left
 ·simp only [Act.put,zq1,zq2,zq3,i64_w,i32_w];rfl
 refine pure_ (i:=7) (N:=some 12) (v:=?_) (a':=?_) #[zt,zt,zt,zt,zt,zt,zt,zt,zf,zf] rfl rfl (by kernel_rfl) (fun _ _ _ h=>h) (Or.inl ⟨by rfl,?_⟩) ?_ ?_;rotate_left
 ·intro w';go_simp;with_reducible rfl
 rotate_left
 ·simp only [Act.put,zq1,zq2,zq3,i64_w,i32_w];rfl
 refine last_ (i:=8) (N:=some 13) #[zt,zt,zt,zt,zt,zt,zt,zt,zt,zf] rfl rfl (by kernel_rfl) (by decide) (fun K hK=>?_);refine goes_ Tryz.func150 (by kernel_rfl) rfl #[.pointer (some ⟨r,0,none⟩),.agg #[.int .i64 i.f0,.int .i64 i.f1,.int .i64 i.f2,.int .i64 i.f3,.int .u64 i.f4],.int .u64 (IntKind.u64.wrap (il:Int))] (by rfl) rfl rfl (by simp only [List.map_toArray,List.map_cons,List.map_nil];rfl) ?_;refine (put_reg HS.out.drew hX.out.1 hX.out.2 i hA.out.1 hA.out.2 _).mono ?_;rintro e w2 ⟨rfl,hm,hf⟩;refine ⟨_,rfl,?_⟩;have HM:=Aside0.mk (z35 (z2e HF.out) hm hf HN.out);clear hm hf;refine hK.out _ _ ?_;clear hK K;refine norm_ (a':=?_) ?_ ?_;rotate_left
 ·show Act.put _ (some 13) _=_;simp only [Act.put,zq1,zq2,zq3,i64_w,i32_w];rfl
 refine pure_ (i:=9) (N:=some 4) (v:=?_) (a':=?_) #[zt,zt,zt,zt,zt,zt,zt,zt,zt,zt] rfl rfl (by kernel_rfl) (fun _ _ _ h=>h) (Or.inl ⟨by rfl,?_⟩) ?_ ?_;rotate_left
 ·intro w';go_simp;with_reducible rfl
 rotate_left
 ·simp only [Act.put,zq1,zq2,zq3,i64_w,i32_w];rfl
 refine done_ (by kernel_rfl) ?_;go_wp2;go_ret
 exact HM.out
theorem deed_jump {w0 w:World} {r mb m:Nat} {p:Im} {Ai A3 A4 A5:Option Addr} {il ci n3 c3 n4 c4 n5 c5:Nat} {Y:Nat→Prop} {x:Int} {rg:Nat→Int} {ov:Value} {os:List Int} (h:MSt w0 w r mb m p (.slice Ai il ci) (.slice A3 n3 c3) (.slice A4 n4 c4) (.slice A5 n5 c5) Y x rg ov os) (hx0:0≤x) (hx1:x < 256) (i:In) (h40:0≤i.f4) (h41:i.f4 < 9223372036854775808) (hn:Nxt p x os i.f4 os) :
  Calls Tryz.prog 123 #[.pointer (some ⟨r,0,none⟩),.agg #[.int .i64 i.f0,.int .i64 i.f1,.int .i64 i.f2,.int .i64 i.f3,.int .u64 i.f4]] w (z1m w0 w r mb m p (.slice Ai il ci) (.slice A3 n3 c3) (.slice A4 n4 c4) (.slice A5 n5 c5) Y x os):=by
 have HS:=Aside0.mk (h.alloc (.cells #[.int .i64 i.f0,.int .i64 i.f1,.int .i64 i.f2,.int .i64 i.f3,.int .u64 i.f4] 79));have HF:Aside0 (Fr w (w.alloc (.cells #[.int .i64 i.f0,.int .i64 i.f1,.int .i64 i.f2,.int .i64 i.f3,.int .u64 i.f4] 79)) (fun j=>j=r)):=⟨z1f w _ _⟩;have BI:=Aside0.mk (z0z w (.cells #[.int .i64 i.f0,.int .i64 i.f1,.int .i64 i.f2,.int .i64 i.f3,.int .u64 i.f4] 79));have hX:=Aside0.mk (And.intro hx0 hx1);have hR:=Aside0.mk h.rlt;have HN:=Aside0.mk hn;clear hn;clear h hx0 hx1
 go_enter Tryz.func123,Tryz.ntmps123
 have hwr:IntKind.i64.wrap i.f4=i.f4:=IntWalk.i64_in _ (by omega)
 go_upto_region 1 with (fail)
 generalize w.alloc (.cells #[.int .i64 i.f0,.int .i64 i.f1,.int .i64 i.f2,.int .i64 i.f3,.int .u64 i.f4] 79)=w1 at HS HF BI ⊢;generalize w.heap.size=bi at BI ⊢;have d4:w1.cell? ⟨bi,4,none⟩=some (.int .u64 i.f4):=(z01 BI.out 4).trans rfl;have c7:w1.cell? ⟨r,7,none⟩=some (.int .i64 x):=(HS.out.cell 7).trans rfl;have f7:=HS.out.frozen 7;go_wp2;go_ret
 exact z35 HF.out ⟨_,HS.out.setPlace _⟩ (z1k w1 _ _) HN.out
theorem deed_take {w0 w:World} {r mb m:Nat} {p:Im} {Ai A3 A4 A5:Option Addr} {il ci n3 c3 n4 c4 n5 c5:Nat} {Y:Nat→Prop} {x:Int} {rg:Nat→Int} {ov:Value} {os:List Int} (h:MSt w0 w r mb m p (.slice Ai il ci) (.slice A3 n3 c3) (.slice A4 n4 c4) (.slice A5 n5 c5) Y x rg ov os) (hx0:0≤x) (hx1:x < 256) (i:In) (a0:0≤i.f1) (a7:i.f1≤7) (b0:0≤i.f2) (b7:i.f2≤7) (hn:Nxt p x os (x+1) os) {inp:List Int} (hil0:(il:Int) < 18446744073709551616) (hin:∀ W,Below w0.heap.size w0 W→(Kd.int .u8).C W Ai il inp) :
  Calls Tryz.prog 121 #[.pointer (some ⟨r,0,none⟩),.agg #[.int .i64 i.f0,.int .i64 i.f1,.int .i64 i.f2,.int .i64 i.f3,.int .u64 i.f4]] w (z1m w0 w r mb m p (.slice Ai il ci) (.slice A3 n3 c3) (.slice A4 n4 c4) (.slice A5 n5 c5) Y x os):=by
 have HS:=Aside0.mk (h.alloc (.cells #[.int .i64 i.f0,.int .i64 i.f1,.int .i64 i.f2,.int .i64 i.f3,.int .u64 i.f4] 79));have HF:Aside0 (Fr w (w.alloc (.cells #[.int .i64 i.f0,.int .i64 i.f1,.int .i64 i.f2,.int .i64 i.f3,.int .u64 i.f4] 79)) (fun j=>j=r)):=⟨z1f w _ _⟩;have BI:=Aside0.mk (z0z w (.cells #[.int .i64 i.f0,.int .i64 i.f1,.int .i64 i.f2,.int .i64 i.f3,.int .u64 i.f4] 79));have hX:=Aside0.mk (And.intro hx0 hx1);have hR:=Aside0.mk h.rlt;have hA:=Aside0.mk (And.intro a0 a7);clear a0 a7;have HN:=Aside0.mk hn;clear hn;have hB:=Aside0.mk (And.intro b0 b7);clear b0 b7;have HIN:=Aside0.mk hin;have hI:Aside0 ((il:Int) < 18446744073709551616):=⟨hil0⟩;clear hin hil0;clear h hx0 hx1
 go_enter Tryz.func121,Tryz.ntmps121
 have hil:(il:Int) < 18446744073709551616:=hI.out
 go_upto_region 1 with (fail)
 generalize w.alloc (.cells #[.int .i64 i.f0,.int .i64 i.f1,.int .i64 i.f2,.int .i64 i.f3,.int .u64 i.f4] 79)=w1 at HS HF BI ⊢;generalize w.heap.size=bi at BI ⊢;have hp0:(0≤i.f2)=True:=eq_true hB.out.1;have hp1:(i.f2 < 8)=True:=eq_true (by have:=hB.out;omega);refine z1i (n:=12) (S:=fun w'=>w'.cell? ⟨bi,2,none⟩=some (.int .i64 i.f2)∧w'.cell? ⟨bi,4,none⟩=some (.int .u64 i.f4)∧w'.cell? ⟨r,8+i.f2.toNat,none⟩=some (.int .u64 (rg i.f2.toNat))) (ds:=[]) #[zf,zf,zf,zf,zf,zf,zf,zf,zf,zf,zf,zf] (by kernel_rfl) rfl rfl ⟨(z01 BI.out 2).trans rfl,(z01 BI.out 4).trans rfl,HS.out.reg hB.out.1 hB.out.2⟩ (fun hHeld=>?_);refine pure_ (i:=0) (N:=some 6) (v:=?_) (a':=?_) #[zt,zf,zf,zf,zf,zf,zf,zf,zf,zf,zf,zf] rfl rfl (by kernel_rfl) (fun _ _ _ h=>h) (Or.inl ⟨by rfl,?_⟩) ?_ ?_;rotate_left
 ·intro w';go_simp;with_reducible rfl
 rotate_left
 ·simp only [Act.put,zq1,zq2,zq3,i64_w,i32_w];rfl
 refine pure_ (i:=1) (N:=some 7) (v:=?_) (a':=?_) #[zt,zt,zf,zf,zf,zf,zf,zf,zf,zf,zf,zf] rfl rfl (by kernel_rfl) (fun _ _ _ h=>h) (Or.inl ⟨by rfl,?_⟩) ?_ ?_;rotate_left
 ·intro w';go_simp;with_reducible rfl
 rotate_left
 ·simp only [Act.put,zq1,zq2,zq3,i64_w,i32_w];rfl
 refine pure_ (i:=3) (N:=some 9) (v:=?_) (a':=?_) #[zt,zt,zf,zt,zf,zf,zf,zf,zf,zf,zf,zf] rfl rfl (by kernel_rfl) (fun _ _ _ h=>h) (Or.inl ⟨by rfl,?_⟩) ?_ ?_;rotate_left
 ·intro w';go_simp;with_reducible rfl
 rotate_left
 ·simp only [Act.put,zq1,zq2,zq3,i64_w,i32_w];rfl
 refine pure_ (i:=4) (N:=some 10) (v:=?_) (a':=?_) #[zt,zt,zf,zt,zt,zf,zf,zf,zf,zf,zf,zf] rfl rfl (by kernel_rfl) (fun _ _ _ h=>h) (Or.inl ⟨by rfl,?_⟩) ?_ ?_;rotate_left
 ·intro w';go_simp;with_reducible rfl
 rotate_left
 ·simp only [Act.put,zq1,zq2,zq3,i64_w,i32_w];rfl
 refine pure_ (i:=5) (N:=some 11) (v:=?_) (a':=?_) #[zt,zt,zf,zt,zt,zt,zf,zf,zf,zf,zf,zf] rfl rfl (by kernel_rfl) (fun _ _ _ h=>h) (Or.inl ⟨by rfl,?_⟩) ?_ ?_;rotate_left
 ·intro w';go_simp;with_reducible rfl
 rotate_left
 ·simp only [Act.put,zq1,zq2,zq3,i64_w,i32_w];rfl
 refine pure_ (i:=8) (N:=some 14) (v:=?_) (a':=?_) #[zt,zt,zf,zt,zt,zt,zf,zf,zt,zf,zf,zf] rfl rfl (by kernel_rfl) (fun _ _ _ h=>h) (Or.inl ⟨by rfl,?_⟩) ?_ ?_;rotate_left
 ·intro w';go_simp;with_reducible rfl
 rotate_left
 ·simp only [Act.put,zq1,zq2,zq3,i64_w,i32_w];rfl
 refine take_ (i:=2) (N:=some 8) (v:=?_) (a':=?_) #[zt,zt,zt,zt,zt,zt,zf,zf,zt,zf,zf,zf] rfl rfl (by kernel_rfl) (fun _ _ _ h=>h) (Or.inl ⟨by rfl,?_⟩) hHeld ?_ ?_;rotate_left
 ·rintro w' ⟨s0,s1,s2⟩;go_simp;with_reducible rfl
 rotate_left
 ·simp only [Act.put,zq1,zq2,zq3,i64_w,i32_w];rfl
 refine pure_ (i:=6) (N:=some 12) (v:=?_) (a':=?_) #[zt,zt,zt,zt,zt,zt,zt,zf,zt,zf,zf,zf] rfl rfl (by kernel_rfl) (fun _ _ _ h=>h) (Or.inl ⟨by rfl,?_⟩) ?_ ?_;rotate_left
 ·intro w';go_simp;with_reducible rfl
 rotate_left
 ·simp only [Act.put,zq1,zq2,zq3,i64_w,i32_w];rfl
 refine take_ (i:=7) (N:=some 13) (v:=?_) (a':=?_) #[zt,zt,zt,zt,zt,zt,zt,zt,zt,zf,zf,zf] rfl rfl (by kernel_rfl) (fun _ _ _ h=>h) (Or.inl ⟨by rfl,?_⟩) hHeld ?_ ?_;rotate_left
 ·rintro w' ⟨s0,s1,s2⟩;go_simp;with_reducible rfl
 rotate_left
 ·simp only [Act.put,zq1,zq2,zq3,i64_w,i32_w];rfl
 refine take_ (i:=9) (N:=some 15) (v:=?_) (a':=?_) #[zt,zt,zt,zt,zt,zt,zt,zt,zt,zt,zf,zf] rfl rfl (by kernel_rfl) (fun _ _ _ h=>h) (Or.inl ⟨by rfl,?_⟩) hHeld ?_ ?_;rotate_left
 ·rintro w' ⟨s0,s1,s2⟩;go_simp;with_reducible rfl
 rotate_left
 ·simp only [Act.put,zq1,zq2,zq3,i64_w,i32_w];rfl
 refine pure_ (i:=10) (N:=some 16) (v:=?_) (a':=?_) #[zt,zt,zt,zt,zt,zt,zt,zt,zt,zt,zt,zf] rfl rfl (by kernel_rfl) (fun _ _ _ h=>h) (Or.inl ⟨by rfl,?_⟩) ?_ ?_;rotate_left
 ·intro w';go_simp;with_reducible rfl
 rotate_left
 ·simp only [Act.put,zq1,zq2,zq3,i64_w,i32_w];rfl
 refine pure_ (i:=11) (N:=some 5) (v:=?_) (a':=?_) #[zt,zt,zt,zt,zt,zt,zt,zt,zt,zt,zt,zt] rfl rfl (by kernel_rfl) (fun _ _ _ h=>h) (Or.inl ⟨by rfl,?_⟩) ?_ ?_;rotate_left
 ·intro w';go_simp;with_reducible rfl
 rotate_left
 ·simp only [Act.put,zq1,zq2,zq3,i64_w,i32_w];rfl
 refine done_ (by kernel_rfl) ?_;have HS2:=Aside0.mk HS.out.drew;have HF2:=Aside0.mk (z2e HF.out);have BI2:=Aside0.mk (z09 BI.out);generalize w1.drew=w2 at HS2 HF2 BI2 ⊢;clear HS HF BI hp0 hp1 hHeld;have HS:=HS2;have HF:=HF2;have BI:=BI2;clear HS2 HF2 BI2;have c6:w2.cell? ⟨r,6,none⟩=some (.slice Ai il ci):=(HS.out.cell 6).trans rfl;have hwl:IntKind.u64.wrap (il:Int)=(il:Int):=by rw [IntKind.wrap_u64];omega
 have hz0:0≤IntKind.u64.wrap (rg i.f2.toNat+i.f4):=by rw [IntKind.wrap_u64];omega
 generalize IntKind.u64.wrap (rg i.f2.toNat+i.f4)=z at hz0 ⊢
 by_cases hz:(il:Int)≤z
 ·have hd:decide (z ≥ (il:Int))=true:=decide_eq_true hz;go_wp2;go_ret
  exact z31 (by decide) HF.out HS.out
 ·have hd:decide (z ≥ (il:Int))=false:=decide_eq_false hz;obtain ⟨ad,eA,hc⟩:=Kd.at_int (HIN.out w2 HS.out.bel) z hz0 (by omega);subst eA;have hcell:=Aside0.mk hc;clear hc
  go_upto_region 4 with (fail)
  have hq0:(0≤z)=True:=eq_true hz0;have hq1:(z < (il:Int))=True:=eq_true (by omega);refine z1i (n:=12) (S:=fun w'=>w'.cell? ⟨bi,0,none⟩=some (.int .i64 i.f0)∧w'.cell? ⟨bi,1,none⟩=some (.int .i64 i.f1)∧w'.cell? ⟨bi,2,none⟩=some (.int .i64 i.f2)∧w'.cell? ⟨bi,3,none⟩=some (.int .i64 i.f3)∧w'.cell? ⟨bi,4,none⟩=some (.int .u64 i.f4)∧w'.cell? ⟨r,6,none⟩=some (.slice (some ad) il ci)∧w'.cell? (ad.add z.toNat)=some (.int .u8 (rd inp z))) (ds:=[10]) #[zf,zf,zf,zf,zf,zf,zf,zf,zf,zf,zf,zf] (by kernel_rfl) rfl rfl ⟨(z01 BI.out 0).trans rfl,(z01 BI.out 1).trans rfl,(z01 BI.out 2).trans rfl,(z01 BI.out 3).trans rfl,(z01 BI.out 4).trans rfl,(HS.out.cell 6).trans rfl,hcell.out⟩ (fun hHeld=>?_);refine pure_ (i:=0) (N:=some 25) (v:=?_) (a':=?_) #[zt,zf,zf,zf,zf,zf,zf,zf,zf,zf,zf,zf] rfl rfl (by kernel_rfl) (fun _ _ _ h=>h) (Or.inl ⟨by rfl,?_⟩) ?_ ?_;rotate_left
  ·intro w';go_simp;with_reducible rfl
  rotate_left
  ·simp only [Act.put,zq1,zq2,zq3,i64_w,i32_w];rfl
  refine pure_ (i:=2) (N:=some 27) (v:=?_) (a':=?_) #[zt,zf,zt,zf,zf,zf,zf,zf,zf,zf,zf,zf] rfl rfl (by kernel_rfl) (fun _ _ _ h=>h) (Or.inl ⟨by rfl,?_⟩) ?_ ?_;rotate_left
  ·intro w';go_simp;with_reducible rfl
  rotate_left
  ·simp only [Act.put,zq1,zq2,zq3,i64_w,i32_w];rfl
  refine pure_ (i:=3) (N:=some 28) (v:=?_) (a':=?_) #[zt,zf,zt,zt,zf,zf,zf,zf,zf,zf,zf,zf] rfl rfl (by kernel_rfl) (fun _ _ _ h=>h) (Or.inl ⟨by rfl,?_⟩) ?_ ?_;rotate_left
  ·intro w';go_simp;with_reducible rfl
  rotate_left
  ·simp only [Act.put,zq1,zq2,zq3,i64_w,i32_w];rfl
  refine pure_ (i:=4) (N:=some 29) (v:=?_) (a':=?_) #[zt,zf,zt,zt,zt,zf,zf,zf,zf,zf,zf,zf] rfl rfl (by kernel_rfl) (fun _ _ _ h=>h) (Or.inl ⟨by rfl,?_⟩) ?_ ?_;rotate_left
  ·intro w';go_simp;with_reducible rfl
  rotate_left
  ·simp only [Act.put,zq1,zq2,zq3,i64_w,i32_w];rfl
  refine pure_ (i:=6) (N:=some 31) (v:=?_) (a':=?_) #[zt,zf,zt,zt,zt,zf,zt,zf,zf,zf,zf,zf] rfl rfl (by kernel_rfl) (fun _ _ _ h=>h) (Or.inl ⟨by rfl,?_⟩) ?_ ?_;rotate_left
  ·intro w';go_simp;with_reducible rfl
  rotate_left
  ·simp only [Act.put,zq1,zq2,zq3,i64_w,i32_w];rfl
  refine take_ (i:=1) (N:=some 26) (v:=?_) (a':=?_) #[zt,zt,zt,zt,zt,zf,zt,zf,zf,zf,zf,zf] rfl rfl (by kernel_rfl) (fun _ _ _ h=>h) (Or.inl ⟨by rfl,?_⟩) hHeld ?_ ?_;rotate_left
  ·rintro w' ⟨s0,s1,s2,s3,s4,s5,s6⟩;go_simp;with_reducible rfl
  rotate_left
  ·simp only [Act.put,zq1,zq2,zq3,i64_w,i32_w];rfl
  refine take_ (i:=5) (N:=some 30) (v:=?_) (a':=?_) #[zt,zt,zt,zt,zt,zt,zt,zf,zf,zf,zf,zf] rfl rfl (by kernel_rfl) (fun _ _ _ h=>h) (Or.inl ⟨by rfl,?_⟩) hHeld ?_ ?_;rotate_left
  ·rintro w' ⟨s0,s1,s2,s3,s4,s5,s6⟩;go_simp;with_reducible rfl
  rotate_left
  ·simp only [Act.put,zq1,zq2,zq3,i64_w,i32_w];rfl
  refine pure_ (i:=7) (N:=some 32) (v:=?_) (a':=?_) #[zt,zt,zt,zt,zt,zt,zt,zt,zf,zf,zf,zf] rfl rfl (by kernel_rfl) (fun _ _ _ h=>h) (Or.inl ⟨by rfl,?_⟩) ?_ ?_;rotate_left
  ·intro w';go_simp;with_reducible rfl
  rotate_left
  ·simp only [Act.put,zq1,zq2,zq3,i64_w,i32_w];rfl
  refine take_ (i:=8) (N:=some 33) (v:=?_) (a':=?_) #[zt,zt,zt,zt,zt,zt,zt,zt,zt,zf,zf,zf] rfl rfl (by kernel_rfl) (fun _ _ _ h=>h) (Or.inl ⟨by rfl,?_⟩) hHeld ?_ ?_;rotate_left
  ·rintro w' ⟨s0,s1,s2,s3,s4,s5,s6⟩;go_simp;with_reducible rfl
  rotate_left
  ·simp only [Act.put,zq1,zq2,zq3,i64_w,i32_w];rfl
  refine pure_ (i:=9) (N:=some 34) (v:=?_) (a':=?_) #[zt,zt,zt,zt,zt,zt,zt,zt,zt,zt,zf,zf] rfl rfl (by kernel_rfl) (fun _ _ _ h=>h) (Or.inl ⟨by rfl,?_⟩) ?_ ?_;rotate_left
  ·intro w';go_simp;with_reducible rfl
  rotate_left
  ·simp only [Act.put,zq1,zq2,zq3,i64_w,i32_w];rfl
  refine last_ (i:=10) (N:=some 35) #[zt,zt,zt,zt,zt,zt,zt,zt,zt,zt,zt,zf] rfl rfl (by kernel_rfl) (by decide) (fun K hK=>?_);refine goes_ Tryz.func150 (by kernel_rfl) rfl #[.pointer (some ⟨r,0,none⟩),.agg #[.int .i64 i.f0,.int .i64 i.f1,.int .i64 i.f2,.int .i64 i.f3,.int .u64 i.f4],.int .u64 (IntKind.u64.wrap (rd inp z))] (by rfl) rfl rfl (by simp only [List.map_toArray,List.map_cons,List.map_nil];rfl) ?_;refine (put_reg HS.out.drew hX.out.1 hX.out.2 i hA.out.1 hA.out.2 _).mono ?_;rintro e w2 ⟨rfl,hm,hf⟩;refine ⟨_,rfl,?_⟩;have HM:=Aside0.mk (z35 (z2e HF.out) hm hf HN.out);clear hm hf;refine hK.out _ _ ?_;clear hK K;refine norm_ (a':=?_) ?_ ?_;rotate_left
  ·show Act.put _ (some 35) _=_;simp only [Act.put,zq1,zq2,zq3,i64_w,i32_w];rfl
  refine pure_ (i:=11) (N:=some 4) (v:=?_) (a':=?_) #[zt,zt,zt,zt,zt,zt,zt,zt,zt,zt,zt,zt] rfl rfl (by kernel_rfl) (fun _ _ _ h=>h) (Or.inl ⟨by rfl,?_⟩) ?_ ?_;rotate_left
  ·intro w';go_simp;with_reducible rfl
  rotate_left
  ·simp only [Act.put,zq1,zq2,zq3,i64_w,i32_w];rfl
  refine done_ (by kernel_rfl) ?_;go_wp2;go_ret
  exact HM.out
section
variable {w0 w w1 w' w4:World} {r mb m:Nat} {p:Im} {iv v3 v4 v5:Value} {Y:Nat→Prop} {x x':Int} {rg:Nat→Int} {ov ov':Value} {os os':List Int}
theorem z1m.from {e:Ending} (hF:Fr w w1 (fun j=>j=r)) (h:z1m w0 w1 r mb m p iv v3 v4 v5 Y x os e w'):z1m w0 w r mb m p iv v3 v4 v5 Y x os e w':=by
 obtain ⟨k,x',rg',ov',os',Y',h1,h2,h3,h4,h5⟩:=h;exact ⟨k,x',rg',ov',os',Y',h1,h2,fun i hi=>(h3 i hi).imp id fun h=>Nat.le_trans hF.size h,(hF.mono fun i _ hi=>.inl hi).trans h4,h5⟩
theorem Que.last {ok:Nat→Prop} {ao:Option Addr} {n c:Nat} {l:List Int} {y:Int} (h:Que w ok (.slice ao n c) (l ++ [y])) :
  n=l.length+1∧l.length+1≤c∧c≤maxLen∧∃ b off,ao=some ⟨b,off,none⟩∧w.cell? ⟨b,off+l.length,none⟩=some (.int .i64 y)∧Que w ok (.slice (some ⟨b,off,none⟩) l.length c) l:=by
 obtain ⟨ao',cap,e,hle,hmax,hl⟩:=h;have en:n=l.length+1:=by injection e with _ e2 _;rw [e2];simp
 have ec:c=cap:=by injection e
 have ea:ao=ao':=by injection e
 subst en ec ea;have hle':l.length+1≤c:=by simpa using hle
 obtain ⟨b,off,e,hk,hlt,h1,h2⟩:=hl (by omega);refine ⟨rfl,hle',hmax,b,off,e,?_,⟨_,c,rfl,by omega,hmax,fun _=>⟨b,off,rfl,hk,hlt,fun j hj=>?_,h2⟩⟩⟩
 ·have:=h1 l.length (by simp)
  simpa using this
 ·have:=h1 j (by simp;omega)
  rwa [List.getElem_append_left hj] at this
theorem MSt.push (h:MSt w0 w r mb m p iv v3 v4 v5 Y x rg ov os) (hq:Que w4 (fun i=>Y i∨w.heap.size≤i) ov' os'.reverse) (hf:Fr w w4 (fun i=>Y i∨w.heap.size≤i)) :
  MSt w0 (w4.setCell ⟨r,17,none⟩ ov') r mb m p iv v3 v4 v5 (fun i=>(Y i∨w.heap.size≤i)∧i < w4.heap.size) x rg ov' os'∧Fr w (w4.setCell ⟨r,17,none⟩ ov') (fun i=>i=r∨i=mb∨Y i):=by
 have hr:=h.rlt;have hm:=h.mlt;have hnr:¬ (Y r∨w.heap.size≤r):=fun h1=>h1.elim h.ne.2.1 (by omega)
 have hnm:¬ (Y mb∨w.heap.size≤mb):=fun h1=>h1.elim h.ne.2.2 (by omega)
 obtain ⟨ms,e1,e2⟩:=h.mem;have hs:=z1k w4 ⟨r,17,none⟩ ov';have hb4:=(hf.block r hr hnr).trans h.blk;have hm4:=(hf.block mb hm hnm).trans e2;have hlo:=h.lo;have hB:w0.heap.size≤w.heap.size:=h.bel.size;refine ⟨⟨hs.below (hf.below h.bel hB fun i hi=>hi.elim (hlo.2.2 i) (by omega)) (Nat.le_trans hB hf.size) fun i (hi:i=r)=>by rw [hi];exact hlo.1,z1v hb4 17 ov',?_,⟨ms,e1,(hs.block mb (Nat.lt_of_lt_of_le hm hf.size) fun h1=>h.ne.1 h1.symm).trans hm4⟩,⟨hlo.1,hlo.2.1,fun i hi=>hi.1.elim (hlo.2.2 i) (by omega)⟩,⟨h.ne.1,fun h1=>hnr h1.1,fun h1=>hnm h1.1⟩,fun i hi=>Nat.lt_of_lt_of_le hi.2 hs.size⟩,?_⟩
 ·exact (hq.mono (fun i h1 h2=>⟨h2,h1⟩)).fr hs fun i hi (h1:i=r)=>hnr (h1 ▸ hi.1)
 ·exact (hf.mono fun i h1 h2=>h2.elim (fun h3=>.inr (.inr h3)) (by omega)).trans (hs.mono fun i _ h1=>.inl h1)
theorem step_append_que {ops:Array Oper} {o:Oper} {a:Act} {K:Act→World→Prop} {Q:Exit→Act→World→Prop} {E:Prop} (hgd:o.guard=none) (s x:Operand)
  (ho:o.op=.call { callee:=.builtin .append,args:=#[s,x],argTypes:=#[23,23] }) {ok:Nat→Prop} {v:Value} {l:List Int} (ad:Addr) (c:Nat) (xv:Int) (hv:a.eval s=v) (hxv:a.eval x=.slice (some ad) 1 c)
  (h:Que w ok v l) (hok:∀ g,w.heap.size≤g→ok g) (hx:w.cell? ad=some (.int .i64 xv)) (hl:l.length < 1000000)
  (hK:∀ v' w',Que w' ok v' (l ++ [xv])→Fr w w' (fun i=>ok i)→K (a.put o.dst v') w'):if Region.wanted o (yielded ops a.tmps)=true then Oper.wp Tryz.prog o a w K Q else E:=by
 rw [if_pos (by simp [Region.wanted,hgd])];obtain ⟨v',w',hrun,h1,h2⟩:=h.append hok o.type hx hl;unfold Oper.wp;simp [execOp,ho,resolve,invoke,builtin,hv,hxv,Result.andThen];rw [hrun];exact hK v' w' h1 h2
end
theorem deed_branch {w0 w:World} {r mb m:Nat} {p:Im} {Ai A3 A4 A5:Option Addr} {il ci n3 c3 n4 c4 n5 c5:Nat} {Y:Nat→Prop} {x:Int} {rg:Nat→Int} {ov:Value} {os:List Int} (h:MSt w0 w r mb m p (.slice Ai il ci) (.slice A3 n3 c3) (.slice A4 n4 c4) (.slice A5 n5 c5) Y x rg ov os) (hx0:0≤x) (hx1:x < 256) (i:In) (a0:0≤i.f1) (a7:i.f1≤7) (h40:0≤i.f4) (h41:i.f4 < 9223372036854775808) (hn1:Nxt p x os i.f4 os) (hn:Nxt p x os (x+1) os) :
  Calls Tryz.prog 124 #[.pointer (some ⟨r,0,none⟩),.agg #[.int .i64 i.f0,.int .i64 i.f1,.int .i64 i.f2,.int .i64 i.f3,.int .u64 i.f4]] w (z1m w0 w r mb m p (.slice Ai il ci) (.slice A3 n3 c3) (.slice A4 n4 c4) (.slice A5 n5 c5) Y x os):=by
 have HS:=Aside0.mk (h.alloc (.cells #[.int .i64 i.f0,.int .i64 i.f1,.int .i64 i.f2,.int .i64 i.f3,.int .u64 i.f4] 79));have HF:Aside0 (Fr w (w.alloc (.cells #[.int .i64 i.f0,.int .i64 i.f1,.int .i64 i.f2,.int .i64 i.f3,.int .u64 i.f4] 79)) (fun j=>j=r)):=⟨z1f w _ _⟩;have BI:=Aside0.mk (z0z w (.cells #[.int .i64 i.f0,.int .i64 i.f1,.int .i64 i.f2,.int .i64 i.f3,.int .u64 i.f4] 79));have hX:=Aside0.mk (And.intro hx0 hx1);have hR:=Aside0.mk h.rlt;have hA:=Aside0.mk (And.intro a0 a7);clear a0 a7;have HN:=Aside0.mk hn;clear hn;have hJ:=Aside0.mk (And.intro h40 h41);have HN1:=Aside0.mk hn1;clear h40 h41 hn1;clear h hx0 hx1
 go_enter Tryz.func124,Tryz.ntmps124
 go_upto_region 1 with (fail)
 generalize w.alloc (.cells #[.int .i64 i.f0,.int .i64 i.f1,.int .i64 i.f2,.int .i64 i.f3,.int .u64 i.f4] 79)=w1 at HS HF BI ⊢;generalize w.heap.size=bi at BI ⊢;have hp0:(0≤i.f1)=True:=eq_true hA.out.1;have hp1:(i.f1 < 8)=True:=eq_true (by have:=hA.out;omega);refine z1i (n:=9) (S:=fun w'=>w'.cell? ⟨bi,1,none⟩=some (.int .i64 i.f1)∧w'.cell? ⟨r,8+i.f1.toNat,none⟩=some (.int .u64 (rg i.f1.toNat))) (ds:=[]) #[zf,zf,zf,zf,zf,zf,zf,zf,zf] (by kernel_rfl) rfl rfl ⟨(z01 BI.out 1).trans rfl,HS.out.reg hA.out.1 hA.out.2⟩ (fun hHeld=>?_);refine pure_ (i:=0) (N:=some 5) (v:=?_) (a':=?_) #[zt,zf,zf,zf,zf,zf,zf,zf,zf] rfl rfl (by kernel_rfl) (fun _ _ _ h=>h) (Or.inl ⟨by rfl,?_⟩) ?_ ?_;rotate_left
 ·intro w';go_simp;with_reducible rfl
 rotate_left
 ·simp only [Act.put,zq1,zq2,zq3,i64_w,i32_w];rfl
 refine pure_ (i:=1) (N:=some 6) (v:=?_) (a':=?_) #[zt,zt,zf,zf,zf,zf,zf,zf,zf] rfl rfl (by kernel_rfl) (fun _ _ _ h=>h) (Or.inl ⟨by rfl,?_⟩) ?_ ?_;rotate_left
 ·intro w';go_simp;with_reducible rfl
 rotate_left
 ·simp only [Act.put,zq1,zq2,zq3,i64_w,i32_w];rfl
 refine pure_ (i:=3) (N:=some 8) (v:=?_) (a':=?_) #[zt,zt,zf,zt,zf,zf,zf,zf,zf] rfl rfl (by kernel_rfl) (fun _ _ _ h=>h) (Or.inl ⟨by rfl,?_⟩) ?_ ?_;rotate_left
 ·intro w';go_simp;with_reducible rfl
 rotate_left
 ·simp only [Act.put,zq1,zq2,zq3,i64_w,i32_w];rfl
 refine pure_ (i:=4) (N:=some 9) (v:=?_) (a':=?_) #[zt,zt,zf,zt,zt,zf,zf,zf,zf] rfl rfl (by kernel_rfl) (fun _ _ _ h=>h) (Or.inl ⟨by rfl,?_⟩) ?_ ?_;rotate_left
 ·intro w';go_simp;with_reducible rfl
 rotate_left
 ·simp only [Act.put,zq1,zq2,zq3,i64_w,i32_w];rfl
 refine pure_ (i:=5) (N:=some 10) (v:=?_) (a':=?_) #[zt,zt,zf,zt,zt,zt,zf,zf,zf] rfl rfl (by kernel_rfl) (fun _ _ _ h=>h) (Or.inl ⟨by rfl,?_⟩) ?_ ?_;rotate_left
 ·intro w';go_simp;with_reducible rfl
 rotate_left
 ·simp only [Act.put,zq1,zq2,zq3,i64_w,i32_w];rfl
 refine take_ (i:=2) (N:=some 7) (v:=?_) (a':=?_) #[zt,zt,zt,zt,zt,zt,zf,zf,zf] rfl rfl (by kernel_rfl) (fun _ _ _ h=>h) (Or.inl ⟨by rfl,?_⟩) hHeld ?_ ?_;rotate_left
 ·rintro w' ⟨s0,s1⟩;go_simp;with_reducible rfl
 rotate_left
 ·simp only [Act.put,zq1,zq2,zq3,i64_w,i32_w];rfl
 refine pure_ (i:=6) (N:=some 11) (v:=?_) (a':=?_) #[zt,zt,zt,zt,zt,zt,zt,zf,zf] rfl rfl (by kernel_rfl) (fun _ _ _ h=>h) (Or.inl ⟨by rfl,?_⟩) ?_ ?_;rotate_left
 ·intro w';go_simp;with_reducible rfl
 rotate_left
 ·simp only [Act.put,zq1,zq2,zq3,i64_w,i32_w];rfl
 refine take_ (i:=7) (N:=some 12) (v:=?_) (a':=?_) #[zt,zt,zt,zt,zt,zt,zt,zt,zf] rfl rfl (by kernel_rfl) (fun _ _ _ h=>h) (Or.inl ⟨by rfl,?_⟩) hHeld ?_ ?_;rotate_left
 ·rintro w' ⟨s0,s1⟩;go_simp;with_reducible rfl
 rotate_left
 ·simp only [Act.put,zq1,zq2,zq3,i64_w,i32_w];rfl
 refine pure_ (i:=8) (N:=some 13) (v:=?_) (a':=?_) #[zt,zt,zt,zt,zt,zt,zt,zt,zt] rfl rfl (by kernel_rfl) (fun _ _ _ h=>h) (Or.inl ⟨by rfl,?_⟩) ?_ ?_;rotate_left
 ·intro w';go_simp;with_reducible rfl
 rotate_left
 ·simp only [Act.put,zq1,zq2,zq3,i64_w,i32_w];rfl
 refine done_ (by kernel_rfl) ?_;have HS2:=Aside0.mk HS.out.drew;have HF2:=Aside0.mk (z2e HF.out);have BI2:=Aside0.mk (z09 BI.out);generalize w1.drew=w2 at HS2 HF2 BI2 ⊢;clear HS HF BI hHeld;have HS:=HS2;have HF:=HF2;have BI:=BI2;clear HS2 HF2 BI2;clear hp0 hp1
 by_cases hg:rg i.f1.toNat=0
 ·have hd:(rg i.f1.toNat != 0)=false:=by simpa using hg
  have c7:w2.cell? ⟨r,7,none⟩=some (.int .i64 x):=(HS.out.cell 7).trans rfl;have f7:=HS.out.frozen 7;have hwr:IntKind.i64.wrap (x+1)=x+1:=IntWalk.i64_in _ (by have:=hX.out;omega);go_wp2;go_ret
  exact z35 HF.out ⟨_,HS.out.setPlace _⟩ (z1k w2 _ _) HN.out
 ·have hd:(rg i.f1.toNat != 0)=true:=by simpa using hg
  have d0:w2.cell? ⟨bi,0,none⟩=some (.int .i64 i.f0):=(z01 BI.out 0).trans rfl;have d1:w2.cell? ⟨bi,1,none⟩=some (.int .i64 i.f1):=(z01 BI.out 1).trans rfl;have d2:w2.cell? ⟨bi,2,none⟩=some (.int .i64 i.f2):=(z01 BI.out 2).trans rfl;have d3:w2.cell? ⟨bi,3,none⟩=some (.int .i64 i.f3):=(z01 BI.out 3).trans rfl;have d4:w2.cell? ⟨bi,4,none⟩=some (.int .u64 i.f4):=(z01 BI.out 4).trans rfl
  go_wp2_with (go_at_call 123;refine (deed_jump HS.out hX.out.1 hX.out.2 i hJ.out.1 hJ.out.2 HN1.out).mono ?_;intro e w3 hd3;have HD:=Aside0.mk (hd3.from HF.out);obtain ⟨k3,x3,rg3,ov3,os3,Y3,rfl,hh3⟩:=hd3;clear hh3)
  go_ret
  exact HD.out
theorem deed_back {w0 w:World} {r mb m:Nat} {p:Im} {Ai A3 A4 A5:Option Addr} {il ci n3 c3 n4 c4 n5 c5:Nat} {Y:Nat→Prop} {x:Int} {rg:Nat→Int} {ov:Value} {os:List Int} (h:MSt w0 w r mb m p (.slice Ai il ci) (.slice A3 n3 c3) (.slice A4 n4 c4) (.slice A5 n5 c5) Y x rg ov os) (hx0:0≤x) (hx1:x < 256) (i:In) (ho:opA p x=24) :
  Calls Tryz.prog 126 #[.pointer (some ⟨r,0,none⟩),.agg #[.int .i64 i.f0,.int .i64 i.f1,.int .i64 i.f2,.int .i64 i.f3,.int .u64 i.f4]] w (z1m w0 w r mb m p (.slice Ai il ci) (.slice A3 n3 c3) (.slice A4 n4 c4) (.slice A5 n5 c5) Y x os):=by
 have HS:=Aside0.mk (h.alloc (.cells #[.int .i64 i.f0,.int .i64 i.f1,.int .i64 i.f2,.int .i64 i.f3,.int .u64 i.f4] 79));have HF:Aside0 (Fr w (w.alloc (.cells #[.int .i64 i.f0,.int .i64 i.f1,.int .i64 i.f2,.int .i64 i.f3,.int .u64 i.f4] 79)) (fun j=>j=r)):=⟨z1f w _ _⟩;have BI:=Aside0.mk (z0z w (.cells #[.int .i64 i.f0,.int .i64 i.f1,.int .i64 i.f2,.int .i64 i.f3,.int .u64 i.f4] 79));have hX:=Aside0.mk (And.intro hx0 hx1);have hR:=Aside0.mk h.rlt;have HO:=Aside0.mk ho;clear ho;clear h hx0 hx1
 go_enter Tryz.func126,Tryz.ntmps126
 go_upto_region 1 with (fail)
 generalize w.alloc (.cells #[.int .i64 i.f0,.int .i64 i.f1,.int .i64 i.f2,.int .i64 i.f3,.int .u64 i.f4] 79)=w1 at HS HF BI ⊢;generalize w.heap.size=bi at BI ⊢;have hq:=HS.out.que;cases os with
 | nil =>
  obtain ⟨ao,cap,eo,_⟩:=hq;subst eo;have c17:w1.cell? ⟨r,17,none⟩=some (.slice ao 0 cap):=(HS.out.cell 17).trans rfl;go_wp2;go_ret
  exact z31 (by decide) HF.out HS.out
 | cons y t =>
  rw [List.reverse_cons] at hq;obtain ⟨ao,cap,eo,_⟩:=id hq;subst eo;obtain ⟨en,hcap,hmax,b,off,rfl,hc,hq'⟩:=Que.last hq;rw [en] at HS;obtain ⟨N,hN⟩:∃ N,t.reverse.length=N:=⟨_,rfl⟩;rw [hN] at HS hc hq' hcap;have HQ:=Aside0.mk hq';clear hq hq' en;have hmx:cap < 9223372036854775808:=Nat.lt_of_le_of_lt hmax (by decide);have c17:w1.cell? ⟨r,17,none⟩=some (.slice (some ⟨b,off,none⟩) (N+1) cap):=(HS.out.cell 17).trans rfl;have hw1:IntKind.i64.wrap (((N+1:Nat):Int) - 1)=(N:Int):=by rw [IntWalk.i64_in _ (by omega)];omega
  have hw2:IntKind.i64.wrap ((N:Int)+1 - 1)=(N:Int):=by rw [IntWalk.i64_in _ (by omega)];omega
  have hdn:decide ((N:Int) < 0)=false:=decide_eq_false (by omega);have c7:w1.cell? ⟨r,7,none⟩=some (.int .i64 x):=(HS.out.cell 7).trans rfl;have f7:=HS.out.frozen 7
  go_upto_region 5 with (fail)
  have HS3:=Aside0.mk (HS.out.setPlace y);have HF3:=Aside0.mk (HF.out.trans (z1k w1 ⟨r,7,none⟩ (.int .i64 y)));have HQ3:=Aside0.mk (HQ.out.fr (z1k w1 ⟨r,7,none⟩ (.int .i64 y)) fun i hy (h1:i=r)=>HS.out.ne.2.1 (h1 ▸ hy));generalize w1.setCell ⟨r,7,none⟩ (.int .i64 y)=w3 at HS3 HF3 HQ3 ⊢;clear HS HF HQ hc c17 c7 f7;have c17:w3.cell? ⟨r,17,none⟩=some (.slice (some ⟨b,off,none⟩) (N+1) cap):=(HS3.out.cell 17).trans rfl;have f17:=HS3.out.frozen 17;have hs1:((N:Int)≤(cap:Int))=True:=eq_true (by omega);have hs2:(0≤(N:Int))=True:=eq_true (by omega);have hs3:(N≤cap)=True:=eq_true (by omega);have HN:=Aside0.mk hN;clear hN;go_wp2;go_ret
  exact ⟨0,y,_,_,t,Y,rfl,HS3.out.setOpen HQ3.out,fun i hi=>.inl hi,(HF3.out.trans (z1k w3 _ _)).mono (fun i _ hi=>.inl hi),fun _=>⟨.inr (.inr (.inr (.inl ⟨HO.out,rfl⟩))),.inr (by simp)⟩⟩
theorem deed_call {w0 w:World} {r mb m:Nat} {p:Im} {Ai A3 A4 A5:Option Addr} {il ci n3 c3 n4 c4 n5 c5:Nat} {Y:Nat→Prop} {x:Int} {rg:Nat→Int} {ov:Value} {os:List Int} (h:MSt w0 w r mb m p (.slice Ai il ci) (.slice A3 n3 c3) (.slice A4 n4 c4) (.slice A5 n5 c5) Y x rg ov os) (hx0:0≤x) (hx1:x < 256) (i:In) (hi4:i.f4=immA p x) (h40:0≤i.f4) (h41:i.f4 < n4) (ho:opA p x=23) (hst:p.f1≤16) (hfn:∀ W,Below w0.heap.size w0 W→(Kd.int .i64).C W A4 n4 p.f4) :
  Calls Tryz.prog 125 #[.pointer (some ⟨r,0,none⟩),.agg #[.int .i64 i.f0,.int .i64 i.f1,.int .i64 i.f2,.int .i64 i.f3,.int .u64 i.f4]] w (z1m w0 w r mb m p (.slice Ai il ci) (.slice A3 n3 c3) (.slice A4 n4 c4) (.slice A5 n5 c5) Y x os):=by
 have HS:=Aside0.mk (h.alloc (.cells #[.int .i64 i.f0,.int .i64 i.f1,.int .i64 i.f2,.int .i64 i.f3,.int .u64 i.f4] 79));have HF:Aside0 (Fr w (w.alloc (.cells #[.int .i64 i.f0,.int .i64 i.f1,.int .i64 i.f2,.int .i64 i.f3,.int .u64 i.f4] 79)) (fun j=>j=r)):=⟨z1f w _ _⟩;have BI:=Aside0.mk (z0z w (.cells #[.int .i64 i.f0,.int .i64 i.f1,.int .i64 i.f2,.int .i64 i.f3,.int .u64 i.f4] 79));have hX:=Aside0.mk (And.intro hx0 hx1);have hR:=Aside0.mk h.rlt;have HO:=Aside0.mk ho;have HI4:=Aside0.mk hi4;have hJ:=Aside0.mk (And.intro h40 h41);have hST:=Aside0.mk hst;have HFN:=Aside0.mk hfn;have HMB:=Aside0.mk (And.intro h.mlt h.lt);clear ho hi4 h40 h41 hst hfn;clear h hx0 hx1
 go_enter Tryz.func125,Tryz.ntmps125
 go_upto_region 1 with (fail)
 generalize w.alloc (.cells #[.int .i64 i.f0,.int .i64 i.f1,.int .i64 i.f2,.int .i64 i.f3,.int .u64 i.f4] 79)=w1 at HS HF BI ⊢;generalize hbi:w.heap.size=bi at BI ⊢;have HBI:=Aside0.mk hbi;clear hbi;obtain ⟨ao,cap,eo,hcap⟩:∃ ao cap,ov=.slice ao os.length cap∧os.length≤cap:=by
  obtain ⟨ao,cap,e,hle,_⟩:=HS.out.que;rw [List.length_reverse] at e hle;exact ⟨ao,cap,e,hle⟩
 subst eo;refine z1i (n:=12) (S:=fun w'=>w'.cell? ⟨r,17,none⟩=some (.slice ao os.length cap)∧w'.cell? ⟨r,1,none⟩=some (.int .i64 p.f1)) (ds:=[]) #[zf,zf,zf,zf,zf,zf,zf,zf,zf,zf,zf,zf] (by kernel_rfl) rfl rfl ⟨(HS.out.cell 17).trans rfl,(HS.out.cell 1).trans rfl⟩ (fun hHeld=>?_);refine pure_ (i:=0) (N:=some 5) (v:=?_) (a':=?_) #[zt,zf,zf,zf,zf,zf,zf,zf,zf,zf,zf,zf] rfl rfl (by kernel_rfl) (fun _ _ _ h=>h) (Or.inl ⟨by rfl,?_⟩) ?_ ?_;rotate_left
 ·intro w';go_simp;with_reducible rfl
 rotate_left
 ·simp only [Act.put,zq1,zq2,zq3,i64_w,i32_w];rfl
 refine pure_ (i:=1) (N:=some 6) (v:=?_) (a':=?_) #[zt,zt,zf,zf,zf,zf,zf,zf,zf,zf,zf,zf] rfl rfl (by kernel_rfl) (fun _ _ _ h=>h) (Or.inl ⟨by rfl,?_⟩) ?_ ?_;rotate_left
 ·intro w';go_simp;with_reducible rfl
 rotate_left
 ·simp only [Act.put,zq1,zq2,zq3,i64_w,i32_w];rfl
 refine pure_ (i:=2) (N:=some 7) (v:=?_) (a':=?_) #[zt,zt,zt,zf,zf,zf,zf,zf,zf,zf,zf,zf] rfl rfl (by kernel_rfl) (fun _ _ _ h=>h) (Or.inl ⟨by rfl,?_⟩) ?_ ?_;rotate_left
 ·intro w';go_simp;with_reducible rfl
 rotate_left
 ·simp only [Act.put,zq1,zq2,zq3,i64_w,i32_w];rfl
 refine pure_ (i:=3) (N:=some 8) (v:=?_) (a':=?_) #[zt,zt,zt,zt,zf,zf,zf,zf,zf,zf,zf,zf] rfl rfl (by kernel_rfl) (fun _ _ _ h=>h) (Or.inl ⟨by rfl,?_⟩) ?_ ?_;rotate_left
 ·intro w';go_simp;with_reducible rfl
 rotate_left
 ·simp only [Act.put,zq1,zq2,zq3,i64_w,i32_w];rfl
 refine pure_ (i:=6) (N:=some 11) (v:=?_) (a':=?_) #[zt,zt,zt,zt,zf,zf,zt,zf,zf,zf,zf,zf] rfl rfl (by kernel_rfl) (fun _ _ _ h=>h) (Or.inl ⟨by rfl,?_⟩) ?_ ?_;rotate_left
 ·intro w';go_simp;with_reducible rfl
 rotate_left
 ·simp only [Act.put,zq1,zq2,zq3,i64_w,i32_w];rfl
 refine pure_ (i:=7) (N:=some 12) (v:=?_) (a':=?_) #[zt,zt,zt,zt,zf,zf,zt,zt,zf,zf,zf,zf] rfl rfl (by kernel_rfl) (fun _ _ _ h=>h) (Or.inl ⟨by rfl,?_⟩) ?_ ?_;rotate_left
 ·intro w';go_simp;with_reducible rfl
 rotate_left
 ·simp only [Act.put,zq1,zq2,zq3,i64_w,i32_w];rfl
 refine pure_ (i:=8) (N:=some 13) (v:=?_) (a':=?_) #[zt,zt,zt,zt,zf,zf,zt,zt,zt,zf,zf,zf] rfl rfl (by kernel_rfl) (fun _ _ _ h=>h) (Or.inl ⟨by rfl,?_⟩) ?_ ?_;rotate_left
 ·intro w';go_simp;with_reducible rfl
 rotate_left
 ·simp only [Act.put,zq1,zq2,zq3,i64_w,i32_w];rfl
 refine pure_ (i:=9) (N:=some 14) (v:=?_) (a':=?_) #[zt,zt,zt,zt,zf,zf,zt,zt,zt,zt,zf,zf] rfl rfl (by kernel_rfl) (fun _ _ _ h=>h) (Or.inl ⟨by rfl,?_⟩) ?_ ?_;rotate_left
 ·intro w';go_simp;with_reducible rfl
 rotate_left
 ·simp only [Act.put,zq1,zq2,zq3,i64_w,i32_w];rfl
 refine take_ (i:=4) (N:=some 9) (v:=?_) (a':=?_) #[zt,zt,zt,zt,zt,zf,zt,zt,zt,zt,zf,zf] rfl rfl (by kernel_rfl) (fun _ _ _ h=>h) (Or.inl ⟨by rfl,?_⟩) hHeld ?_ ?_;rotate_left
 ·rintro w' ⟨s0,s1⟩;go_simp;with_reducible rfl
 rotate_left
 ·simp only [Act.put,zq1,zq2,zq3,i64_w,i32_w];rfl
 refine pure_ (i:=5) (N:=some 10) (v:=?_) (a':=?_) #[zt,zt,zt,zt,zt,zt,zt,zt,zt,zt,zf,zf] rfl rfl (by kernel_rfl) (fun _ _ _ h=>h) (Or.inl ⟨by rfl,?_⟩) ?_ ?_;rotate_left
 ·intro w';go_simp;with_reducible rfl
 rotate_left
 ·simp only [Act.put,zq1,zq2,zq3,i64_w,i32_w];rfl
 refine take_ (i:=10) (N:=some 15) (v:=?_) (a':=?_) #[zt,zt,zt,zt,zt,zt,zt,zt,zt,zt,zt,zf] rfl rfl (by kernel_rfl) (fun _ _ _ h=>h) (Or.inl ⟨by rfl,?_⟩) hHeld ?_ ?_;rotate_left
 ·rintro w' ⟨s0,s1⟩;go_simp;with_reducible rfl
 rotate_left
 ·simp only [Act.put,zq1,zq2,zq3,i64_w,i32_w];rfl
 refine pure_ (i:=11) (N:=some 16) (v:=?_) (a':=?_) #[zt,zt,zt,zt,zt,zt,zt,zt,zt,zt,zt,zt] rfl rfl (by kernel_rfl) (fun _ _ _ h=>h) (Or.inl ⟨by rfl,?_⟩) ?_ ?_;rotate_left
 ·intro w';go_simp;with_reducible rfl
 rotate_left
 ·simp only [Act.put,zq1,zq2,zq3,i64_w,i32_w];rfl
 refine done_ (by kernel_rfl) ?_;have HS2:=Aside0.mk HS.out.drew;have HF2:=Aside0.mk (z2e HF.out);have BI2:=Aside0.mk (z09 BI.out);generalize w1.drew=w2 at HS2 HF2 BI2 ⊢;clear HS HF BI hHeld;have HS:=HS2;have HF:=HF2;have BI:=BI2;clear HS2 HF2 BI2
 by_cases hg:p.f1≤(os.length:Int)
 ·have hd:decide ((os.length:Int) ≥ p.f1)=true:=decide_eq_true hg;have hd':decide (p.f1≤(os.length:Int))=true:=decide_eq_true hg;go_wp2;go_ret
  exact z31 (by decide) HF.out HS.out
 ·have hd:decide ((os.length:Int) ≥ p.f1)=false:=decide_eq_false hg;have hd':decide (p.f1≤(os.length:Int))=false:=decide_eq_false hg;have hOL:Aside0 (os.length≤16):=⟨by have:=hST.out;omega⟩;have hwr:IntKind.i64.wrap (x+1)=x+1:=IntWalk.i64_in _ (by have:=hX.out;omega)
  go_upto_region 3 with (fail)
  refine z1i (n:=18) (S:=fun w'=>w'.cell? ⟨r,17,none⟩=some (.slice ao os.length cap)∧w'.cell? ⟨r,7,none⟩=some (.int .i64 x)) (ds:=[13,17]) #[zf,zf,zf,zf,zf,zf,zf,zf,zf,zf,zf,zf,zf,zf,zf,zf,zf,zf] (by kernel_rfl) rfl rfl ⟨(HS.out.cell 17).trans rfl,(HS.out.cell 7).trans rfl⟩ (fun hHeld=>?_);refine pure_ (i:=0) (N:=some 17) (v:=?_) (a':=?_) #[zt,zf,zf,zf,zf,zf,zf,zf,zf,zf,zf,zf,zf,zf,zf,zf,zf,zf] rfl rfl (by kernel_rfl) (fun _ _ _ h=>h) (Or.inl ⟨by rfl,?_⟩) ?_ ?_;rotate_left
  ·intro w';go_simp;with_reducible rfl
  rotate_left
  ·simp only [Act.put,zq1,zq2,zq3,i64_w,i32_w];rfl
  refine pure_ (i:=1) (N:=some 18) (v:=?_) (a':=?_) #[zt,zt,zf,zf,zf,zf,zf,zf,zf,zf,zf,zf,zf,zf,zf,zf,zf,zf] rfl rfl (by kernel_rfl) (fun _ _ _ h=>h) (Or.inl ⟨by rfl,?_⟩) ?_ ?_;rotate_left
  ·intro w';go_simp;with_reducible rfl
  rotate_left
  ·simp only [Act.put,zq1,zq2,zq3,i64_w,i32_w];rfl
  refine pure_ (i:=2) (N:=some 19) (v:=?_) (a':=?_) #[zt,zt,zt,zf,zf,zf,zf,zf,zf,zf,zf,zf,zf,zf,zf,zf,zf,zf] rfl rfl (by kernel_rfl) (fun _ _ _ h=>h) (Or.inl ⟨by rfl,?_⟩) ?_ ?_;rotate_left
  ·intro w';go_simp;with_reducible rfl
  rotate_left
  ·simp only [Act.put,zq1,zq2,zq3,i64_w,i32_w];rfl
  refine pure_ (i:=3) (N:=some 20) (v:=?_) (a':=?_) #[zt,zt,zt,zt,zf,zf,zf,zf,zf,zf,zf,zf,zf,zf,zf,zf,zf,zf] rfl rfl (by kernel_rfl) (fun _ _ _ h=>h) (Or.inl ⟨by rfl,?_⟩) ?_ ?_;rotate_left
  ·intro w';go_simp;with_reducible rfl
  rotate_left
  ·simp only [Act.put,zq1,zq2,zq3,i64_w,i32_w];rfl
  refine pure_ (i:=4) (N:=some 21) (v:=?_) (a':=?_) #[zt,zt,zt,zt,zt,zf,zf,zf,zf,zf,zf,zf,zf,zf,zf,zf,zf,zf] rfl rfl (by kernel_rfl) (fun _ _ _ h=>h) (Or.inl ⟨by rfl,?_⟩) ?_ ?_;rotate_left
  ·intro w';go_simp;with_reducible rfl
  rotate_left
  ·simp only [Act.put,zq1,zq2,zq3,i64_w,i32_w];rfl
  refine pure_ (i:=6) (N:=some 23) (v:=?_) (a':=?_) #[zt,zt,zt,zt,zt,zf,zt,zf,zf,zf,zf,zf,zf,zf,zf,zf,zf,zf] rfl rfl (by kernel_rfl) (fun _ _ _ h=>h) (Or.inl ⟨by rfl,?_⟩) ?_ ?_;rotate_left
  ·intro w';go_simp;with_reducible rfl
  rotate_left
  ·simp only [Act.put,zq1,zq2,zq3,i64_w,i32_w];rfl
  refine pure_ (i:=7) (N:=some 24) (v:=?_) (a':=?_) #[zt,zt,zt,zt,zt,zf,zt,zt,zf,zf,zf,zf,zf,zf,zf,zf,zf,zf] rfl rfl (by kernel_rfl) (fun _ _ _ h=>h) (Or.inl ⟨by rfl,?_⟩) ?_ ?_;rotate_left
  ·intro w';go_simp;with_reducible rfl
  rotate_left
  ·simp only [Act.put,zq1,zq2,zq3,i64_w,i32_w];rfl
  refine pure_ (i:=8) (N:=some 25) (v:=?_) (a':=?_) #[zt,zt,zt,zt,zt,zf,zt,zt,zt,zf,zf,zf,zf,zf,zf,zf,zf,zf] rfl rfl (by kernel_rfl) (fun _ _ _ h=>h) (Or.inl ⟨by rfl,?_⟩) ?_ ?_;rotate_left
  ·intro w';go_simp;with_reducible rfl
  rotate_left
  ·simp only [Act.put,zq1,zq2,zq3,i64_w,i32_w];rfl
  refine pure_ (i:=9) (N:=some 26) (v:=?_) (a':=?_) #[zt,zt,zt,zt,zt,zf,zt,zt,zt,zt,zf,zf,zf,zf,zf,zf,zf,zf] rfl rfl (by kernel_rfl) (fun _ _ _ h=>h) (Or.inl ⟨by rfl,?_⟩) ?_ ?_;rotate_left
  ·intro w';go_simp;with_reducible rfl
  rotate_left
  ·simp only [Act.put,zq1,zq2,zq3,i64_w,i32_w];rfl
  refine take_ (i:=5) (N:=some 22) (v:=?_) (a':=?_) #[zt,zt,zt,zt,zt,zt,zt,zt,zt,zt,zf,zf,zf,zf,zf,zf,zf,zf] rfl rfl (by kernel_rfl) (fun _ _ _ h=>h) (Or.inl ⟨by rfl,?_⟩) hHeld ?_ ?_;rotate_left
  ·rintro w' ⟨s0,s1⟩;go_simp;with_reducible rfl
  rotate_left
  ·simp only [Act.put,zq1,zq2,zq3,i64_w,i32_w];rfl
  refine take_ (i:=10) (N:=some 27) (v:=?_) (a':=?_) #[zt,zt,zt,zt,zt,zt,zt,zt,zt,zt,zt,zf,zf,zf,zf,zf,zf,zf] rfl rfl (by kernel_rfl) (fun _ _ _ h=>h) (Or.inl ⟨by rfl,?_⟩) hHeld ?_ ?_;rotate_left
  ·rintro w' ⟨s0,s1⟩;go_simp;with_reducible rfl
  rotate_left
  ·simp only [Act.put,zq1,zq2,zq3,i64_w,i32_w];rfl
  refine pure_ (i:=11) (N:=some 28) (v:=?_) (a':=?_) #[zt,zt,zt,zt,zt,zt,zt,zt,zt,zt,zt,zt,zf,zf,zf,zf,zf,zf] rfl rfl (by kernel_rfl) (fun _ _ _ h=>h) (Or.inl ⟨by rfl,?_⟩) ?_ ?_;rotate_left
  ·intro w';go_simp;with_reducible rfl
  rotate_left
  ·simp only [Act.put,zq1,zq2,zq3,i64_w,i32_w];rfl
  refine one_ (i:=12) (N:=some 29) #[zt,zt,zt,zt,zt,zt,zt,zt,zt,zt,zt,zt,zt,zf,zf,zf,zf,zf] rfl rfl (by kernel_rfl) (by decide) (fun K hK=>?_);refine z19 (w1:=?_) (v:=?_) (by rfl) rfl ?_ ?_;rotate_left 2
  ·go_simp;constructor
   ·rfl
   ·rfl
  have HS4:=Aside0.mk (HS.out.drew.alloc (.cells #[.int .i64 (x+1)] 3));have BX:=Aside0.mk (z0z w2.drew (.cells #[.int .i64 (x+1)] 3));have HF4:=Aside0.mk ((z2e HF.out).trans (z1f w2.drew (.cells #[.int .i64 (x+1)] 3) _));refine hK.out _ _ ⟨(HS4.out.cell 17).trans rfl,(HS4.out.cell 7).trans rfl⟩ (fun hHeld=>?_);clear hK K;refine norm_ (a':=?_) ?_ ?_;rotate_left
  ·show Act.put _ (some 29) _=_;simp only [Act.put,zq1,zq2,zq3,i64_w,i32_w];rfl
  refine last_ (i:=13) (N:=some 30) #[zt,zt,zt,zt,zt,zt,zt,zt,zt,zt,zt,zt,zt,zt,zf,zf,zf,zf] rfl rfl (by kernel_rfl) (by decide) (fun K hK=>?_);refine step_append_que rfl (.tmp 22) (.tmp 29) rfl _ _ (x+1) rfl rfl (HS4.out.que.mono (ok':=fun j=>Y j∨_≤j) fun j _ hj=>.inl hj) (fun j hj=>.inr hj) ((z01 BX.out 0).trans rfl) (by have:=hOL.out;simp;omega) ?_;intro v5 w5 hq5 hf5;obtain ⟨ao5,cp5,e5,_⟩:=hq5.slice;obtain ⟨L5,hL5⟩:∃ L,(os.reverse ++ [x+1]).length=L:=⟨_,rfl⟩;rw [hL5] at e5;subst e5;have HL5:=Aside0.mk hL5;clear hL5;have HM5:=Aside0.mk (HS4.out.push (os':=(x+1) :: os) (by rw [List.reverse_cons];exact hq5) hf5);have k5:=(hf5.block r HS4.out.rlt fun hj=>hj.elim HS4.out.ne.2.1 (Nat.not_le_of_lt HS4.out.rlt)).trans HS4.out.blk;have g5:=z01 k5 17;have f5:=z02 k5 17;have g5:w5.cell? ⟨r,17,none⟩=some (.slice ao os.length cap):=g5.trans rfl;clear hq5 hf5 k5;refine hK.out _ _ ?_;clear hK K;refine norm_ (a':=?_) ?_ ?_;rotate_left
  ·show Act.put _ (some 30) _=_;simp only [Act.put,zq1,zq2,zq3,i64_w,i32_w];rfl
  refine pure_ (i:=14) (N:=some 31) (v:=?_) (a':=?_) #[zt,zt,zt,zt,zt,zt,zt,zt,zt,zt,zt,zt,zt,zt,zt,zf,zf,zf] rfl rfl (by kernel_rfl) (fun _ _ _ h=>h) (Or.inl ⟨by rfl,?_⟩) ?_ ?_;rotate_left
  ·intro w';go_simp;with_reducible rfl
  rotate_left
  ·simp only [Act.put,zq1,zq2,zq3,i64_w,i32_w];rfl
  refine pure_ (i:=15) (N:=some 32) (v:=?_) (a':=?_) #[zt,zt,zt,zt,zt,zt,zt,zt,zt,zt,zt,zt,zt,zt,zt,zt,zf,zf] rfl rfl (by kernel_rfl) (fun _ _ _ h=>h) (Or.inl ⟨by rfl,?_⟩) ?_ ?_;rotate_left
  ·intro w';go_simp;with_reducible rfl
  rotate_left
  ·simp only [Act.put,zq1,zq2,zq3,i64_w,i32_w];rfl
  refine pure_ (i:=16) (N:=some 33) (v:=?_) (a':=?_) #[zt,zt,zt,zt,zt,zt,zt,zt,zt,zt,zt,zt,zt,zt,zt,zt,zt,zf] rfl rfl (by kernel_rfl) (fun _ _ _ h=>h) (Or.inl ⟨by rfl,?_⟩) ?_ ?_;rotate_left
  ·intro w';go_simp;with_reducible rfl
  rotate_left
  ·simp only [Act.put,zq1,zq2,zq3,i64_w,i32_w];rfl
  refine last_ (i:=17) (N:=none) #[zt,zt,zt,zt,zt,zt,zt,zt,zt,zt,zt,zt,zt,zt,zt,zt,zt,zt] rfl rfl (by kernel_rfl) (by decide) (fun K hK=>?_);refine skip_ (w1:=?_) (by rfl) rfl ?_ ?_;rotate_left
  ·go_simp;rfl
  refine hK.out _ _ ?_;clear hK K;refine done_ (by kernel_rfl) ?_;obtain ⟨hm5,hfr5⟩:=HM5.out;have HS6:=Aside0.mk hm5;have HF6:=Aside0.mk ((HF4.out.mono (fun j _ hj=>.inl hj)).trans hfr5);have BI6:=Aside0.mk (((hfr5.block bi (Nat.lt_of_lt_of_le (z0v BI.out) (by show _≤(w2.heap.push _).size;simp)) (by
   have h1:=hR.out;have h2:=HMB.out.1;have h3:=HMB.out.2;have h4:=HBI.out;intro hj
   rcases hj with hj|hj|hj
   ·omega
   ·omega
   ·have:=h3 bi hj;omega)).trans (z06 (z09 BI.out) (.cells #[.int .i64 (x+1)] 3))))
  have HL6:Aside0 (w.heap.size≤w2.heap.size+1):=⟨Nat.le_trans HF.out.size (Nat.le_succ _)⟩;have eL6:(w2.drew.alloc (.cells #[.int .i64 (x+1)] 3)).heap.size=w2.heap.size+1:=by show (w2.heap.push _).size=_;simp
  rw [eL6] at HS6;generalize (w5.setCell ⟨r,17,none⟩ (.slice ao5 L5 cp5))=w6 at HS6 HF6 BI6 ⊢;clear HS HF BI hm5 hfr5 HM5 HS4 HF4 BX g5 f5 hHeld eL6;obtain ⟨ad,eA,hc⟩:=Kd.at_int (HFN.out w6 HS6.out.bel) i.f4 hJ.out.1 hJ.out.2;subst eA;have hcell:=Aside0.mk hc;clear hc;have hq0:(0≤i.f4)=True:=eq_true hJ.out.1;have hq1:(i.f4 < (n4:Int))=True:=eq_true hJ.out.2;have d7:w6.cell? ⟨r,7,none⟩=some (.int .i64 x):=(HS6.out.cell 7).trans rfl;have f7:=HS6.out.frozen 7
  go_upto_region 4 with (fail)
  refine z1i (n:=14) (S:=fun w'=>w'.cell? ⟨r,4,none⟩=some (.slice (some ad) n4 c4)∧w'.cell? ⟨bi,4,none⟩=some (.int .u64 i.f4)∧w'.cell? (ad.add i.f4.toNat)=some (.int .i64 (rd p.f4 i.f4))) (ds:=[13]) #[zf,zf,zf,zf,zf,zf,zf,zf,zf,zf,zf,zf,zf,zf] (by kernel_rfl) rfl rfl ⟨(HS6.out.cell 4).trans rfl,(z01 BI6.out 4).trans rfl,hcell.out⟩ (fun hHeld=>?_);refine pure_ (i:=0) (N:=some 34) (v:=?_) (a':=?_) #[zt,zf,zf,zf,zf,zf,zf,zf,zf,zf,zf,zf,zf,zf] rfl rfl (by kernel_rfl) (fun _ _ _ h=>h) (Or.inl ⟨by rfl,?_⟩) ?_ ?_;rotate_left
  ·intro w';go_simp;with_reducible rfl
  rotate_left
  ·simp only [Act.put,zq1,zq2,zq3,i64_w,i32_w];rfl
  refine pure_ (i:=1) (N:=some 35) (v:=?_) (a':=?_) #[zt,zt,zf,zf,zf,zf,zf,zf,zf,zf,zf,zf,zf,zf] rfl rfl (by kernel_rfl) (fun _ _ _ h=>h) (Or.inl ⟨by rfl,?_⟩) ?_ ?_;rotate_left
  ·intro w';go_simp;with_reducible rfl
  rotate_left
  ·simp only [Act.put,zq1,zq2,zq3,i64_w,i32_w];rfl
  refine pure_ (i:=2) (N:=some 36) (v:=?_) (a':=?_) #[zt,zt,zt,zf,zf,zf,zf,zf,zf,zf,zf,zf,zf,zf] rfl rfl (by kernel_rfl) (fun _ _ _ h=>h) (Or.inl ⟨by rfl,?_⟩) ?_ ?_;rotate_left
  ·intro w';go_simp;with_reducible rfl
  rotate_left
  ·simp only [Act.put,zq1,zq2,zq3,i64_w,i32_w];rfl
  refine pure_ (i:=3) (N:=some 37) (v:=?_) (a':=?_) #[zt,zt,zt,zt,zf,zf,zf,zf,zf,zf,zf,zf,zf,zf] rfl rfl (by kernel_rfl) (fun _ _ _ h=>h) (Or.inl ⟨by rfl,?_⟩) ?_ ?_;rotate_left
  ·intro w';go_simp;with_reducible rfl
  rotate_left
  ·simp only [Act.put,zq1,zq2,zq3,i64_w,i32_w];rfl
  refine pure_ (i:=4) (N:=some 38) (v:=?_) (a':=?_) #[zt,zt,zt,zt,zt,zf,zf,zf,zf,zf,zf,zf,zf,zf] rfl rfl (by kernel_rfl) (fun _ _ _ h=>h) (Or.inl ⟨by rfl,?_⟩) ?_ ?_;rotate_left
  ·intro w';go_simp;with_reducible rfl
  rotate_left
  ·simp only [Act.put,zq1,zq2,zq3,i64_w,i32_w];rfl
  refine pure_ (i:=6) (N:=some 40) (v:=?_) (a':=?_) #[zt,zt,zt,zt,zt,zf,zt,zf,zf,zf,zf,zf,zf,zf] rfl rfl (by kernel_rfl) (fun _ _ _ h=>h) (Or.inl ⟨by rfl,?_⟩) ?_ ?_;rotate_left
  ·intro w';go_simp;with_reducible rfl
  rotate_left
  ·simp only [Act.put,zq1,zq2,zq3,i64_w,i32_w];rfl
  refine take_ (i:=5) (N:=some 39) (v:=?_) (a':=?_) #[zt,zt,zt,zt,zt,zt,zt,zf,zf,zf,zf,zf,zf,zf] rfl rfl (by kernel_rfl) (fun _ _ _ h=>h) (Or.inl ⟨by rfl,?_⟩) hHeld ?_ ?_;rotate_left
  ·rintro w' ⟨s0,s1,s2⟩;go_simp;with_reducible rfl
  rotate_left
  ·simp only [Act.put,zq1,zq2,zq3,i64_w,i32_w];rfl
  refine take_ (i:=7) (N:=some 41) (v:=?_) (a':=?_) #[zt,zt,zt,zt,zt,zt,zt,zt,zf,zf,zf,zf,zf,zf] rfl rfl (by kernel_rfl) (fun _ _ _ h=>h) (Or.inl ⟨by rfl,?_⟩) hHeld ?_ ?_;rotate_left
  ·rintro w' ⟨s0,s1,s2⟩;go_simp;with_reducible rfl
  rotate_left
  ·simp only [Act.put,zq1,zq2,zq3,i64_w,i32_w];rfl
  refine pure_ (i:=8) (N:=some 42) (v:=?_) (a':=?_) #[zt,zt,zt,zt,zt,zt,zt,zt,zt,zf,zf,zf,zf,zf] rfl rfl (by kernel_rfl) (fun _ _ _ h=>h) (Or.inl ⟨by rfl,?_⟩) ?_ ?_;rotate_left
  ·intro w';go_simp;with_reducible rfl
  rotate_left
  ·simp only [Act.put,zq1,zq2,zq3,i64_w,i32_w];rfl
  refine take_ (i:=9) (N:=some 43) (v:=?_) (a':=?_) #[zt,zt,zt,zt,zt,zt,zt,zt,zt,zt,zf,zf,zf,zf] rfl rfl (by kernel_rfl) (fun _ _ _ h=>h) (Or.inl ⟨by rfl,?_⟩) hHeld ?_ ?_;rotate_left
  ·rintro w' ⟨s0,s1,s2⟩;go_simp;with_reducible rfl
  rotate_left
  ·simp only [Act.put,zq1,zq2,zq3,i64_w,i32_w];rfl
  refine pure_ (i:=10) (N:=some 44) (v:=?_) (a':=?_) #[zt,zt,zt,zt,zt,zt,zt,zt,zt,zt,zt,zf,zf,zf] rfl rfl (by kernel_rfl) (fun _ _ _ h=>h) (Or.inl ⟨by rfl,?_⟩) ?_ ?_;rotate_left
  ·intro w';go_simp;with_reducible rfl
  rotate_left
  ·simp only [Act.put,zq1,zq2,zq3,i64_w,i32_w];rfl
  refine pure_ (i:=11) (N:=some 45) (v:=?_) (a':=?_) #[zt,zt,zt,zt,zt,zt,zt,zt,zt,zt,zt,zt,zf,zf] rfl rfl (by kernel_rfl) (fun _ _ _ h=>h) (Or.inl ⟨by rfl,?_⟩) ?_ ?_;rotate_left
  ·intro w';go_simp;with_reducible rfl
  rotate_left
  ·simp only [Act.put,zq1,zq2,zq3,i64_w,i32_w];rfl
  refine pure_ (i:=12) (N:=some 46) (v:=?_) (a':=?_) #[zt,zt,zt,zt,zt,zt,zt,zt,zt,zt,zt,zt,zt,zf] rfl rfl (by kernel_rfl) (fun _ _ _ h=>h) (Or.inl ⟨by rfl,?_⟩) ?_ ?_;rotate_left
  ·intro w';go_simp;with_reducible rfl
  rotate_left
  ·simp only [Act.put,zq1,zq2,zq3,i64_w,i32_w];rfl
  refine last_ (i:=13) (N:=none) #[zt,zt,zt,zt,zt,zt,zt,zt,zt,zt,zt,zt,zt,zt] rfl rfl (by kernel_rfl) (by decide) (fun K hK=>?_);refine skip_ (w1:=?_) (by rfl) rfl ?_ ?_;rotate_left
  ·go_simp;rfl
  refine hK.out _ _ ?_;clear hK K;refine done_ (by kernel_rfl) ?_;go_wp2;go_ret
  exact ⟨0,rd p.f4 i.f4,_,_,(x+1) :: os,_,rfl,(HS6.out.setPlace _).drew,fun j hj=>hj.1.imp id fun h1=>Nat.le_trans HL6.out h1,z2e (HF6.out.trans ((z1k w6 _ _).mono fun j _ hj=>.inl hj)),fun _=>⟨.inr (.inr (.inl ⟨HO.out,by rw [← HI4.out],rfl⟩)),.inl (by simp;omega)⟩⟩
theorem z23 {w0 w:World} {r mb m:Nat} {p:Im} {Ai A3 A4 A5:Option Addr} {il ci n3 c3 n4 c4 n5 c5:Nat} {Y:Nat→Prop} {x:Int} {rg:Nat→Int} {ov:Value} {os:List Int} (h:MSt w0 w r mb m p (.slice Ai il ci) (.slice A3 n3 c3) (.slice A4 n4 c4) (.slice A5 n5 c5) Y x rg ov os) (hx0:0≤x) (hx1:x < 256) (i:In) (a0:0≤i.f1) (a7:i.f1≤7) (b0:0≤i.f2) (b7:i.f2≤7) (c0:0≤i.f3) (c7:i.f3≤7) (o3:3≤i.f0) (o16:i.f0≤16) (hn:Nxt p x os (x+1) os) :
  Calls Tryz.prog 128 #[.pointer (some ⟨r,0,none⟩),.agg #[.int .i64 i.f0,.int .i64 i.f1,.int .i64 i.f2,.int .i64 i.f3,.int .u64 i.f4]] w (z1m w0 w r mb m p (.slice Ai il ci) (.slice A3 n3 c3) (.slice A4 n4 c4) (.slice A5 n5 c5) Y x os):=by
 have HS:=Aside0.mk (h.alloc (.cells #[.int .i64 i.f0,.int .i64 i.f1,.int .i64 i.f2,.int .i64 i.f3,.int .u64 i.f4] 79));have HF:Aside0 (Fr w (w.alloc (.cells #[.int .i64 i.f0,.int .i64 i.f1,.int .i64 i.f2,.int .i64 i.f3,.int .u64 i.f4] 79)) (fun j=>j=r)):=⟨z1f w _ _⟩;have BI:=Aside0.mk (z0z w (.cells #[.int .i64 i.f0,.int .i64 i.f1,.int .i64 i.f2,.int .i64 i.f3,.int .u64 i.f4] 79));have hX:=Aside0.mk (And.intro hx0 hx1);have hR:=Aside0.mk h.rlt;have hA:=Aside0.mk (And.intro a0 a7);clear a0 a7;have HN:=Aside0.mk hn;clear hn;have hB:=Aside0.mk (And.intro b0 b7);clear b0 b7;have hC:=Aside0.mk (And.intro c0 c7);have hOO:=Aside0.mk (And.intro o3 o16);clear c0 c7 o3 o16;clear h hx0 hx1
 go_enter Tryz.func128,Tryz.ntmps128
 go_upto_region 1 with (fail)
 generalize w.alloc (.cells #[.int .i64 i.f0,.int .i64 i.f1,.int .i64 i.f2,.int .i64 i.f3,.int .u64 i.f4] 79)=w1 at HS HF BI ⊢;generalize w.heap.size=bi at BI ⊢;have hp0:(0≤i.f2)=True:=eq_true hB.out.1;have hp1:(i.f2 < 8)=True:=eq_true (by have:=hB.out;omega);have hq0:(0≤i.f3)=True:=eq_true hC.out.1;have hq1:(i.f3 < 8)=True:=eq_true (by have:=hC.out;omega);refine z1i (n:=18) (S:=fun w'=>w'.cell? ⟨bi,2,none⟩=some (.int .i64 i.f2)∧w'.cell? ⟨bi,3,none⟩=some (.int .i64 i.f3)∧w'.cell? ⟨r,8+i.f2.toNat,none⟩=some (.int .u64 (rg i.f2.toNat))∧w'.cell? ⟨r,8+i.f3.toNat,none⟩=some (.int .u64 (rg i.f3.toNat))) (ds:=[]) #[zf,zf,zf,zf,zf,zf,zf,zf,zf,zf,zf,zf,zf,zf,zf,zf,zf,zf] (by kernel_rfl) rfl rfl ⟨(z01 BI.out 2).trans rfl,(z01 BI.out 3).trans rfl,HS.out.reg hB.out.1 hB.out.2,HS.out.reg hC.out.1 hC.out.2⟩ (fun hHeld=>?_);refine pure_ (i:=0) (N:=some 7) (v:=?_) (a':=?_) #[zt,zf,zf,zf,zf,zf,zf,zf,zf,zf,zf,zf,zf,zf,zf,zf,zf,zf] rfl rfl (by kernel_rfl) (fun _ _ _ h=>h) (Or.inl ⟨by rfl,?_⟩) ?_ ?_;rotate_left
 ·intro w';go_simp;with_reducible rfl
 rotate_left
 ·simp only [Act.put,zq1,zq2,zq3,i64_w,i32_w];rfl
 refine pure_ (i:=1) (N:=some 8) (v:=?_) (a':=?_) #[zt,zt,zf,zf,zf,zf,zf,zf,zf,zf,zf,zf,zf,zf,zf,zf,zf,zf] rfl rfl (by kernel_rfl) (fun _ _ _ h=>h) (Or.inl ⟨by rfl,?_⟩) ?_ ?_;rotate_left
 ·intro w';go_simp;with_reducible rfl
 rotate_left
 ·simp only [Act.put,zq1,zq2,zq3,i64_w,i32_w];rfl
 refine pure_ (i:=3) (N:=some 10) (v:=?_) (a':=?_) #[zt,zt,zf,zt,zf,zf,zf,zf,zf,zf,zf,zf,zf,zf,zf,zf,zf,zf] rfl rfl (by kernel_rfl) (fun _ _ _ h=>h) (Or.inl ⟨by rfl,?_⟩) ?_ ?_;rotate_left
 ·intro w';go_simp;with_reducible rfl
 rotate_left
 ·simp only [Act.put,zq1,zq2,zq3,i64_w,i32_w];rfl
 refine pure_ (i:=4) (N:=some 11) (v:=?_) (a':=?_) #[zt,zt,zf,zt,zt,zf,zf,zf,zf,zf,zf,zf,zf,zf,zf,zf,zf,zf] rfl rfl (by kernel_rfl) (fun _ _ _ h=>h) (Or.inl ⟨by rfl,?_⟩) ?_ ?_;rotate_left
 ·intro w';go_simp;with_reducible rfl
 rotate_left
 ·simp only [Act.put,zq1,zq2,zq3,i64_w,i32_w];rfl
 refine pure_ (i:=5) (N:=some 12) (v:=?_) (a':=?_) #[zt,zt,zf,zt,zt,zt,zf,zf,zf,zf,zf,zf,zf,zf,zf,zf,zf,zf] rfl rfl (by kernel_rfl) (fun _ _ _ h=>h) (Or.inl ⟨by rfl,?_⟩) ?_ ?_;rotate_left
 ·intro w';go_simp;with_reducible rfl
 rotate_left
 ·simp only [Act.put,zq1,zq2,zq3,i64_w,i32_w];rfl
 refine pure_ (i:=8) (N:=some 15) (v:=?_) (a':=?_) #[zt,zt,zf,zt,zt,zt,zf,zf,zt,zf,zf,zf,zf,zf,zf,zf,zf,zf] rfl rfl (by kernel_rfl) (fun _ _ _ h=>h) (Or.inl ⟨by rfl,?_⟩) ?_ ?_;rotate_left
 ·intro w';go_simp;with_reducible rfl
 rotate_left
 ·simp only [Act.put,zq1,zq2,zq3,i64_w,i32_w];rfl
 refine pure_ (i:=9) (N:=some 16) (v:=?_) (a':=?_) #[zt,zt,zf,zt,zt,zt,zf,zf,zt,zt,zf,zf,zf,zf,zf,zf,zf,zf] rfl rfl (by kernel_rfl) (fun _ _ _ h=>h) (Or.inl ⟨by rfl,?_⟩) ?_ ?_;rotate_left
 ·intro w';go_simp;with_reducible rfl
 rotate_left
 ·simp only [Act.put,zq1,zq2,zq3,i64_w,i32_w];rfl
 refine pure_ (i:=11) (N:=some 18) (v:=?_) (a':=?_) #[zt,zt,zf,zt,zt,zt,zf,zf,zt,zt,zf,zt,zf,zf,zf,zf,zf,zf] rfl rfl (by kernel_rfl) (fun _ _ _ h=>h) (Or.inl ⟨by rfl,?_⟩) ?_ ?_;rotate_left
 ·intro w';go_simp;with_reducible rfl
 rotate_left
 ·simp only [Act.put,zq1,zq2,zq3,i64_w,i32_w];rfl
 refine pure_ (i:=12) (N:=some 19) (v:=?_) (a':=?_) #[zt,zt,zf,zt,zt,zt,zf,zf,zt,zt,zf,zt,zt,zf,zf,zf,zf,zf] rfl rfl (by kernel_rfl) (fun _ _ _ h=>h) (Or.inl ⟨by rfl,?_⟩) ?_ ?_;rotate_left
 ·intro w';go_simp;with_reducible rfl
 rotate_left
 ·simp only [Act.put,zq1,zq2,zq3,i64_w,i32_w];rfl
 refine pure_ (i:=13) (N:=some 20) (v:=?_) (a':=?_) #[zt,zt,zf,zt,zt,zt,zf,zf,zt,zt,zf,zt,zt,zt,zf,zf,zf,zf] rfl rfl (by kernel_rfl) (fun _ _ _ h=>h) (Or.inl ⟨by rfl,?_⟩) ?_ ?_;rotate_left
 ·intro w';go_simp;with_reducible rfl
 rotate_left
 ·simp only [Act.put,zq1,zq2,zq3,i64_w,i32_w];rfl
 refine take_ (i:=2) (N:=some 9) (v:=?_) (a':=?_) #[zt,zt,zt,zt,zt,zt,zf,zf,zt,zt,zf,zt,zt,zt,zf,zf,zf,zf] rfl rfl (by kernel_rfl) (fun _ _ _ h=>h) (Or.inl ⟨by rfl,?_⟩) hHeld ?_ ?_;rotate_left
 ·rintro w' ⟨s0,s1,s2,s3⟩;go_simp;with_reducible rfl
 rotate_left
 ·simp only [Act.put,zq1,zq2,zq3,i64_w,i32_w];rfl
 refine pure_ (i:=6) (N:=some 13) (v:=?_) (a':=?_) #[zt,zt,zt,zt,zt,zt,zt,zf,zt,zt,zf,zt,zt,zt,zf,zf,zf,zf] rfl rfl (by kernel_rfl) (fun _ _ _ h=>h) (Or.inl ⟨by rfl,?_⟩) ?_ ?_;rotate_left
 ·intro w';go_simp;with_reducible rfl
 rotate_left
 ·simp only [Act.put,zq1,zq2,zq3,i64_w,i32_w];rfl
 refine take_ (i:=7) (N:=some 14) (v:=?_) (a':=?_) #[zt,zt,zt,zt,zt,zt,zt,zt,zt,zt,zf,zt,zt,zt,zf,zf,zf,zf] rfl rfl (by kernel_rfl) (fun _ _ _ h=>h) (Or.inl ⟨by rfl,?_⟩) hHeld ?_ ?_;rotate_left
 ·rintro w' ⟨s0,s1,s2,s3⟩;go_simp;with_reducible rfl
 rotate_left
 ·simp only [Act.put,zq1,zq2,zq3,i64_w,i32_w];rfl
 refine pure_ (i:=16) (N:=some 5) (v:=?_) (a':=?_) #[zt,zt,zt,zt,zt,zt,zt,zt,zt,zt,zf,zt,zt,zt,zf,zf,zt,zf] rfl rfl (by kernel_rfl) (fun _ _ _ h=>h) (Or.inl ⟨by rfl,?_⟩) ?_ ?_;rotate_left
 ·intro w';go_simp;with_reducible rfl
 rotate_left
 ·simp only [Act.put,zq1,zq2,zq3,i64_w,i32_w];rfl
 refine take_ (i:=10) (N:=some 17) (v:=?_) (a':=?_) #[zt,zt,zt,zt,zt,zt,zt,zt,zt,zt,zt,zt,zt,zt,zf,zf,zt,zf] rfl rfl (by kernel_rfl) (fun _ _ _ h=>h) (Or.inl ⟨by rfl,?_⟩) hHeld ?_ ?_;rotate_left
 ·rintro w' ⟨s0,s1,s2,s3⟩;go_simp;with_reducible rfl
 rotate_left
 ·simp only [Act.put,zq1,zq2,zq3,i64_w,i32_w];rfl
 refine pure_ (i:=14) (N:=some 21) (v:=?_) (a':=?_) #[zt,zt,zt,zt,zt,zt,zt,zt,zt,zt,zt,zt,zt,zt,zt,zf,zt,zf] rfl rfl (by kernel_rfl) (fun _ _ _ h=>h) (Or.inl ⟨by rfl,?_⟩) ?_ ?_;rotate_left
 ·intro w';go_simp;with_reducible rfl
 rotate_left
 ·simp only [Act.put,zq1,zq2,zq3,i64_w,i32_w];rfl
 refine take_ (i:=15) (N:=some 22) (v:=?_) (a':=?_) #[zt,zt,zt,zt,zt,zt,zt,zt,zt,zt,zt,zt,zt,zt,zt,zt,zt,zf] rfl rfl (by kernel_rfl) (fun _ _ _ h=>h) (Or.inl ⟨by rfl,?_⟩) hHeld ?_ ?_;rotate_left
 ·rintro w' ⟨s0,s1,s2,s3⟩;go_simp;with_reducible rfl
 rotate_left
 ·simp only [Act.put,zq1,zq2,zq3,i64_w,i32_w];rfl
 refine pure_ (i:=17) (N:=some 6) (v:=?_) (a':=?_) #[zt,zt,zt,zt,zt,zt,zt,zt,zt,zt,zt,zt,zt,zt,zt,zt,zt,zt] rfl rfl (by kernel_rfl) (fun _ _ _ h=>h) (Or.inl ⟨by rfl,?_⟩) ?_ ?_;rotate_left
 ·intro w';go_simp;with_reducible rfl
 rotate_left
 ·simp only [Act.put,zq1,zq2,zq3,i64_w,i32_w];rfl
 refine done_ (by kernel_rfl) ?_;have HS2:=Aside0.mk HS.out.drew;have HF2:=Aside0.mk (z2e HF.out);have BI2:=Aside0.mk (z09 BI.out);generalize w1.drew=w2 at HS2 HF2 BI2 ⊢;clear HS HF BI hHeld;have HS:=HS2;have HF:=HF2;have BI:=BI2;clear HS2 HF2 BI2;clear hp0 hp1 hq0 hq1;obtain ⟨vb,hvb⟩:∃ v,rg i.f2.toNat=v:=⟨_,rfl⟩;obtain ⟨vc,hvc⟩:∃ v,rg i.f3.toNat=v:=⟨_,rfl⟩;rw [hvb,hvc];clear hvb hvc;have d0:w2.cell? ⟨bi,0,none⟩=some (.int .i64 i.f0):=(z01 BI.out 0).trans rfl;have hO8:Aside0 (8≤wrap64 (i.f0+5)∧wrap64 (i.f0+5)≤21):=⟨by have:=hOO.out;unfold wrap64;omega⟩
 by_cases y0:vc=0
 ·have e0:(vc == 0)=true:=by simpa using y0
  by_cases y6:i.f0=6
  ·have e6:(i.f0 == 6)=true:=by simpa using y6
   go_wp2;go_ret
   exact z31 (by decide) HF.out HS.out
  ·have e6:(i.f0 == 6)=false:=by simpa using y6
   by_cases y7:i.f0=7
   ·have e7:(i.f0 == 7)=true:=(by simpa using y7);go_wp2;go_ret
    exact z31 (by decide) HF.out HS.out
   ·have e7:(i.f0 == 7)=false:=(by simpa using y7)
    go_upto_region 4 with (fail)
    clear y0 y6 y7 e0 e6 e7 d0;refine z1i (n:=10) (S:=fun w'=>w'.cell? ⟨bi,0,none⟩=some (.int .i64 i.f0)∧w'.cell? ⟨bi,1,none⟩=some (.int .i64 i.f1)∧w'.cell? ⟨bi,2,none⟩=some (.int .i64 i.f2)∧w'.cell? ⟨bi,3,none⟩=some (.int .i64 i.f3)∧w'.cell? ⟨bi,4,none⟩=some (.int .u64 i.f4)) (ds:=[8]) #[zf,zf,zf,zf,zf,zf,zf,zf,zf,zf] (by kernel_rfl) rfl rfl ⟨(z01 BI.out 0).trans rfl,(z01 BI.out 1).trans rfl,(z01 BI.out 2).trans rfl,(z01 BI.out 3).trans rfl,(z01 BI.out 4).trans rfl⟩ (fun hHeld=>?_);refine pure_ (i:=0) (N:=some 35) (v:=?_) (a':=?_) #[zt,zf,zf,zf,zf,zf,zf,zf,zf,zf] rfl rfl (by kernel_rfl) (fun _ _ _ h=>h) (Or.inl ⟨by rfl,?_⟩) ?_ ?_;rotate_left
    ·intro w';go_simp;with_reducible rfl
    rotate_left
    ·simp only [Act.put,zq1,zq2,zq3,i64_w,i32_w];rfl
    refine pure_ (i:=2) (N:=some 37) (v:=?_) (a':=?_) #[zt,zf,zt,zf,zf,zf,zf,zf,zf,zf] rfl rfl (by kernel_rfl) (fun _ _ _ h=>h) (Or.inl ⟨by rfl,?_⟩) ?_ ?_;rotate_left
    ·intro w';go_simp;with_reducible rfl
    rotate_left
    ·simp only [Act.put,zq1,zq2,zq3,i64_w,i32_w];rfl
    refine pure_ (i:=5) (N:=some 40) (v:=?_) (a':=?_) #[zt,zf,zt,zf,zf,zt,zf,zf,zf,zf] rfl rfl (by kernel_rfl) (fun _ _ _ h=>h) (Or.inl ⟨by rfl,?_⟩) ?_ ?_;rotate_left
    ·intro w';go_simp;with_reducible rfl
    rotate_left
    ·simp only [Act.put,zq1,zq2,zq3,i64_w,i32_w];rfl
    refine pure_ (i:=6) (N:=some 41) (v:=?_) (a':=?_) #[zt,zf,zt,zf,zf,zt,zt,zf,zf,zf] rfl rfl (by kernel_rfl) (fun _ _ _ h=>h) (Or.inl ⟨by rfl,?_⟩) ?_ ?_;rotate_left
    ·intro w';go_simp;with_reducible rfl
    rotate_left
    ·simp only [Act.put,zq1,zq2,zq3,i64_w,i32_w];rfl
    refine take_ (i:=1) (N:=some 36) (v:=?_) (a':=?_) #[zt,zt,zt,zf,zf,zt,zt,zf,zf,zf] rfl rfl (by kernel_rfl) (fun _ _ _ h=>h) (Or.inl ⟨by rfl,?_⟩) hHeld ?_ ?_;rotate_left
    ·rintro w' ⟨s0,s1,s2,s3,s4⟩;go_simp;with_reducible rfl
    rotate_left
    ·simp only [Act.put,zq1,zq2,zq3,i64_w,i32_w];rfl
    refine take_ (i:=3) (N:=some 38) (v:=?_) (a':=?_) #[zt,zt,zt,zt,zf,zt,zt,zf,zf,zf] rfl rfl (by kernel_rfl) (fun _ _ _ h=>h) (Or.inl ⟨by rfl,?_⟩) hHeld ?_ ?_;rotate_left
    ·rintro w' ⟨s0,s1,s2,s3,s4⟩;go_simp;with_reducible rfl
    rotate_left
    ·simp only [Act.put,zq1,zq2,zq3,i64_w,i32_w];rfl
    refine pure_ (i:=4) (N:=some 39) (v:=?_) (a':=?_) #[zt,zt,zt,zt,zt,zt,zt,zf,zf,zf] rfl rfl (by kernel_rfl) (fun _ _ _ h=>h) (Or.inl ⟨by rfl,?_⟩) ?_ ?_;rotate_left
    ·intro w';go_simp;with_reducible rfl
    rotate_left
    ·simp only [Act.put,zq1,zq2,zq3,i64_w,i32_w];rfl
    refine one_ (i:=7) (N:=some 42) #[zt,zt,zt,zt,zt,zt,zt,zt,zf,zf] rfl rfl (by kernel_rfl) (by decide) (fun K hK=>?_);refine goes_ Tryz.func154 (by kernel_rfl) rfl #[.int .i64 (wrap64 (i.f0+5)),.int .i64 64,.int .u64 vb,.int .u64 vc] (by rfl) rfl rfl (by simp only [List.map_toArray,List.map_cons,List.map_nil];rfl) ?_;refine (apply_calls (wrap64 (i.f0+5)) vb vc _ hO8.out.1 hO8.out.2).mono ?_;rintro e w4 ⟨⟨zz,rfl⟩,hb4⟩;refine ⟨_,rfl,?_⟩;have HS4:=Aside0.mk (HS.out.drew.below hb4);have HF4:=Aside0.mk ((z2e HF.out).trans (fr_of_bel (S:=fun j=>j=r) hb4));have BI4:=Aside0.mk (z0t (z09 BI.out) hb4);clear hb4;refine hK.out _ _ ⟨(z01 BI4.out 0).trans rfl,(z01 BI4.out 1).trans rfl,(z01 BI4.out 2).trans rfl,(z01 BI4.out 3).trans rfl,(z01 BI4.out 4).trans rfl⟩ (fun hHeld=>?_);clear hK K;refine norm_ (a':=?_) ?_ ?_;rotate_left
    ·show Act.put _ (some 42) _=_;simp only [Act.put,zq1,zq2,zq3,i64_w,i32_w];rfl
    refine last_ (i:=8) (N:=some 43) #[zt,zt,zt,zt,zt,zt,zt,zt,zt,zf] rfl rfl (by kernel_rfl) (by decide) (fun K hK=>?_);refine goes_ Tryz.func150 (by kernel_rfl) rfl #[.pointer (some ⟨r,0,none⟩),.agg #[.int .i64 i.f0,.int .i64 i.f1,.int .i64 i.f2,.int .i64 i.f3,.int .u64 i.f4],.int .u64 zz] (by rfl) rfl rfl (by simp only [List.map_toArray,List.map_cons,List.map_nil];rfl) ?_;refine (put_reg HS4.out hX.out.1 hX.out.2 i hA.out.1 hA.out.2 _).mono ?_;rintro e w2 ⟨rfl,hm,hf⟩;refine ⟨_,rfl,?_⟩;have HM:=Aside0.mk (z35 HF4.out hm hf HN.out);clear hm hf;refine hK.out _ _ ?_;clear hK K;refine norm_ (a':=?_) ?_ ?_;rotate_left
    ·show Act.put _ (some 43) _=_;simp only [Act.put,zq1,zq2,zq3,i64_w,i32_w];rfl
    refine pure_ (i:=9) (N:=some 4) (v:=?_) (a':=?_) #[zt,zt,zt,zt,zt,zt,zt,zt,zt,zt] rfl rfl (by kernel_rfl) (fun _ _ _ h=>h) (Or.inl ⟨by rfl,?_⟩) ?_ ?_;rotate_left
    ·intro w';go_simp;with_reducible rfl
    rotate_left
    ·simp only [Act.put,zq1,zq2,zq3,i64_w,i32_w];rfl
    refine done_ (by kernel_rfl) ?_;go_wp2;go_ret
    exact HM.out
 ·have e0:(vc == 0)=false:=by simpa using y0
  go_upto_region 4 with (fail)
  clear y0 e0 d0;refine z1i (n:=10) (S:=fun w'=>w'.cell? ⟨bi,0,none⟩=some (.int .i64 i.f0)∧w'.cell? ⟨bi,1,none⟩=some (.int .i64 i.f1)∧w'.cell? ⟨bi,2,none⟩=some (.int .i64 i.f2)∧w'.cell? ⟨bi,3,none⟩=some (.int .i64 i.f3)∧w'.cell? ⟨bi,4,none⟩=some (.int .u64 i.f4)) (ds:=[8]) #[zf,zf,zf,zf,zf,zf,zf,zf,zf,zf] (by kernel_rfl) rfl rfl ⟨(z01 BI.out 0).trans rfl,(z01 BI.out 1).trans rfl,(z01 BI.out 2).trans rfl,(z01 BI.out 3).trans rfl,(z01 BI.out 4).trans rfl⟩ (fun hHeld=>?_);refine pure_ (i:=0) (N:=some 35) (v:=?_) (a':=?_) #[zt,zf,zf,zf,zf,zf,zf,zf,zf,zf] rfl rfl (by kernel_rfl) (fun _ _ _ h=>h) (Or.inl ⟨by rfl,?_⟩) ?_ ?_;rotate_left
  ·intro w';go_simp;with_reducible rfl
  rotate_left
  ·simp only [Act.put,zq1,zq2,zq3,i64_w,i32_w];rfl
  refine pure_ (i:=2) (N:=some 37) (v:=?_) (a':=?_) #[zt,zf,zt,zf,zf,zf,zf,zf,zf,zf] rfl rfl (by kernel_rfl) (fun _ _ _ h=>h) (Or.inl ⟨by rfl,?_⟩) ?_ ?_;rotate_left
  ·intro w';go_simp;with_reducible rfl
  rotate_left
  ·simp only [Act.put,zq1,zq2,zq3,i64_w,i32_w];rfl
  refine pure_ (i:=5) (N:=some 40) (v:=?_) (a':=?_) #[zt,zf,zt,zf,zf,zt,zf,zf,zf,zf] rfl rfl (by kernel_rfl) (fun _ _ _ h=>h) (Or.inl ⟨by rfl,?_⟩) ?_ ?_;rotate_left
  ·intro w';go_simp;with_reducible rfl
  rotate_left
  ·simp only [Act.put,zq1,zq2,zq3,i64_w,i32_w];rfl
  refine pure_ (i:=6) (N:=some 41) (v:=?_) (a':=?_) #[zt,zf,zt,zf,zf,zt,zt,zf,zf,zf] rfl rfl (by kernel_rfl) (fun _ _ _ h=>h) (Or.inl ⟨by rfl,?_⟩) ?_ ?_;rotate_left
  ·intro w';go_simp;with_reducible rfl
  rotate_left
  ·simp only [Act.put,zq1,zq2,zq3,i64_w,i32_w];rfl
  refine take_ (i:=1) (N:=some 36) (v:=?_) (a':=?_) #[zt,zt,zt,zf,zf,zt,zt,zf,zf,zf] rfl rfl (by kernel_rfl) (fun _ _ _ h=>h) (Or.inl ⟨by rfl,?_⟩) hHeld ?_ ?_;rotate_left
  ·rintro w' ⟨s0,s1,s2,s3,s4⟩;go_simp;with_reducible rfl
  rotate_left
  ·simp only [Act.put,zq1,zq2,zq3,i64_w,i32_w];rfl
  refine take_ (i:=3) (N:=some 38) (v:=?_) (a':=?_) #[zt,zt,zt,zt,zf,zt,zt,zf,zf,zf] rfl rfl (by kernel_rfl) (fun _ _ _ h=>h) (Or.inl ⟨by rfl,?_⟩) hHeld ?_ ?_;rotate_left
  ·rintro w' ⟨s0,s1,s2,s3,s4⟩;go_simp;with_reducible rfl
  rotate_left
  ·simp only [Act.put,zq1,zq2,zq3,i64_w,i32_w];rfl
  refine pure_ (i:=4) (N:=some 39) (v:=?_) (a':=?_) #[zt,zt,zt,zt,zt,zt,zt,zf,zf,zf] rfl rfl (by kernel_rfl) (fun _ _ _ h=>h) (Or.inl ⟨by rfl,?_⟩) ?_ ?_;rotate_left
  ·intro w';go_simp;with_reducible rfl
  rotate_left
  ·simp only [Act.put,zq1,zq2,zq3,i64_w,i32_w];rfl
  refine one_ (i:=7) (N:=some 42) #[zt,zt,zt,zt,zt,zt,zt,zt,zf,zf] rfl rfl (by kernel_rfl) (by decide) (fun K hK=>?_);refine goes_ Tryz.func154 (by kernel_rfl) rfl #[.int .i64 (wrap64 (i.f0+5)),.int .i64 64,.int .u64 vb,.int .u64 vc] (by rfl) rfl rfl (by simp only [List.map_toArray,List.map_cons,List.map_nil];rfl) ?_;refine (apply_calls (wrap64 (i.f0+5)) vb vc _ hO8.out.1 hO8.out.2).mono ?_;rintro e w4 ⟨⟨zz,rfl⟩,hb4⟩;refine ⟨_,rfl,?_⟩;have HS4:=Aside0.mk (HS.out.drew.below hb4);have HF4:=Aside0.mk ((z2e HF.out).trans (fr_of_bel (S:=fun j=>j=r) hb4));have BI4:=Aside0.mk (z0t (z09 BI.out) hb4);clear hb4;refine hK.out _ _ ⟨(z01 BI4.out 0).trans rfl,(z01 BI4.out 1).trans rfl,(z01 BI4.out 2).trans rfl,(z01 BI4.out 3).trans rfl,(z01 BI4.out 4).trans rfl⟩ (fun hHeld=>?_);clear hK K;refine norm_ (a':=?_) ?_ ?_;rotate_left
  ·show Act.put _ (some 42) _=_;simp only [Act.put,zq1,zq2,zq3,i64_w,i32_w];rfl
  refine last_ (i:=8) (N:=some 43) #[zt,zt,zt,zt,zt,zt,zt,zt,zt,zf] rfl rfl (by kernel_rfl) (by decide) (fun K hK=>?_);refine goes_ Tryz.func150 (by kernel_rfl) rfl #[.pointer (some ⟨r,0,none⟩),.agg #[.int .i64 i.f0,.int .i64 i.f1,.int .i64 i.f2,.int .i64 i.f3,.int .u64 i.f4],.int .u64 zz] (by rfl) rfl rfl (by simp only [List.map_toArray,List.map_cons,List.map_nil];rfl) ?_;refine (put_reg HS4.out hX.out.1 hX.out.2 i hA.out.1 hA.out.2 _).mono ?_;rintro e w2 ⟨rfl,hm,hf⟩;refine ⟨_,rfl,?_⟩;have HM:=Aside0.mk (z35 HF4.out hm hf HN.out);clear hm hf;refine hK.out _ _ ?_;clear hK K;refine norm_ (a':=?_) ?_ ?_;rotate_left
  ·show Act.put _ (some 43) _=_;simp only [Act.put,zq1,zq2,zq3,i64_w,i32_w];rfl
  refine pure_ (i:=9) (N:=some 4) (v:=?_) (a':=?_) #[zt,zt,zt,zt,zt,zt,zt,zt,zt,zt] rfl rfl (by kernel_rfl) (fun _ _ _ h=>h) (Or.inl ⟨by rfl,?_⟩) ?_ ?_;rotate_left
  ·intro w';go_simp;with_reducible rfl
  rotate_left
  ·simp only [Act.put,zq1,zq2,zq3,i64_w,i32_w];rfl
  refine done_ (by kernel_rfl) ?_;go_wp2;go_ret
  exact HM.out
structure ESt (w0 we W:World) (r mb m:Nat) (p:Im) (iv v3 v4 v5:Value) (Y:Nat→Prop) (x:Int) (rg:Nat→Int) (ov:Value) (os:List Int) (bx:Nat):Prop where
 st:MSt w0 W r mb m p iv v3 v4 v5 Y x rg ov os
 wx:∃ z,W.heap[bx]?=some (.cells #[.int .u64 z] 43 (0,0))
 ne:w0.heap.size≤bx∧bx≠r∧bx≠mb∧¬ Y bx
 fr:Fr we W (fun j=>j=bx∨j=mb)
section
variable {w0 we w W:World} {r mb m bx:Nat} {p:Im} {iv v3 v4 v5:Value} {Y:Nat→Prop} {x x':Int} {rg:Nat→Int} {ov:Value} {os:List Int}
theorem ESt.alloc (h:ESt w0 we W r mb m p iv v3 v4 v5 Y x rg ov os bx) (o:Obj):ESt w0 we (W.alloc o) r mb m p iv v3 v4 v5 Y x rg ov os bx:=by
 obtain ⟨z,hz⟩:=h.wx;exact ⟨h.st.alloc o,⟨z,z06 hz o⟩,h.ne,h.fr.trans (z1f W o _)⟩
theorem ESt.drew (h:ESt w0 we W r mb m p iv v3 v4 v5 Y x rg ov os bx):ESt w0 we W.drew r mb m p iv v3 v4 v5 Y x rg ov os bx:=by
 obtain ⟨z,hz⟩:=h.wx;exact ⟨h.st.drew,⟨z,z09 hz⟩,h.ne,z2e h.fr⟩
theorem ESt.setX (h:ESt w0 we W r mb m p iv v3 v4 v5 Y x rg ov os bx) (z:Int):ESt w0 we (W.setCell ⟨bx,0,none⟩ (.int .u64 z)) r mb m p iv v3 v4 v5 Y x rg ov os bx:=by
 obtain ⟨z0,hz⟩:=h.wx;have hs:=z1k W ⟨bx,0,none⟩ (.int .u64 z);refine ⟨h.st.keep hs fun i (hi:i=bx)=>by rw [hi];exact h.ne,⟨z,z1v hz 0 _⟩,h.ne,h.fr.trans (hs.mono fun i _ hi=>.inl hi)⟩
theorem MSt.byte (h:MSt w0 w r mb m p iv v3 v4 v5 Y x rg ov os) {j:Nat} (hj:j < m):∃ b,w.cell? ⟨mb,j,none⟩=some (.int .u8 b):=by
 obtain ⟨ms,e1,e2⟩:=h.mem;refine ⟨ms[j]'(by omega),(z01 e2 j).trans ?_⟩;simp [e1,hj]
theorem MSt.bfrozen (h:MSt w0 w r mb m p iv v3 v4 v5 Y x rg ov os) (j:Nat):w.frozen? ⟨mb,j,none⟩=false:=by
 obtain ⟨ms,e1,e2⟩:=h.mem;exact z02 e2 j
theorem MSt.poke (h:MSt w0 w r mb m p iv v3 v4 v5 Y x rg ov os) (j:Nat) (z:Int):MSt w0 (w.setCell ⟨mb,j,none⟩ (.int .u8 z)) r mb m p iv v3 v4 v5 Y x rg ov os:=by
 have hs:=z1k w ⟨mb,j,none⟩ (.int .u8 z);obtain ⟨ms,e1,e2⟩:=h.mem;refine ⟨hs.below h.bel h.bel.size fun i (hi:i=mb)=>by rw [hi];exact h.lo.2.1,(hs.block r h.rlt fun (hi:r=mb)=>h.ne.1 hi).trans h.blk,h.que.fr hs fun i hy (hi:i=mb)=>h.ne.2.2 (hi ▸ hy),⟨ms.set j z,by simpa using e1,?_⟩,h.lo,h.ne,fun i hi=>Nat.lt_of_lt_of_le (h.lt i hi) hs.size⟩;rw [z1v e2 j _];simp [zq1,List.map_set]
theorem ESt.poke (h:ESt w0 we W r mb m p iv v3 v4 v5 Y x rg ov os bx) (j:Nat) (z:Int):ESt w0 we (W.setCell ⟨mb,j,none⟩ (.int .u8 z)) r mb m p iv v3 v4 v5 Y x rg ov os bx:=by
 obtain ⟨z0,hz⟩:=h.wx;have hs:=z1k W ⟨mb,j,none⟩ (.int .u8 z);exact ⟨h.st.poke j z,⟨z0,(hs.block bx (z0v hz) fun (hi:bx=mb)=>h.ne.2.2.1 hi).trans hz⟩,h.ne,h.fr.trans (hs.mono fun i _ hi=>.inr hi)⟩
end
def EachPost (w0 we:World) (r mb m:Nat) (p:Im) (iv v3 v4 v5:Value) (Y:Nat→Prop) (x:Int) (rg:Nat→Int) (ov:Value) (os:List Int) (bx:Nat) (e:Ending) (w':World):Prop :=
 (∃ b,e=.returned (.bool b))∧ESt w0 we w' r mb m p iv v3 v4 v5 Y x rg ov os bx
theorem do_load {w0 we w:World} {r mb m bx:Nat} {p:Im} {Ai A3 A4 A5:Option Addr} {il ci n3 c3 n4 c4 n5 c5:Nat} {Y:Nat→Prop} {x:Int} {rg:Nat→Int} {ov:Value} {os:List Int} (h:ESt w0 we w r mb m p (.slice Ai il ci) (.slice A3 n3 c3) (.slice A4 n4 c4) (.slice A5 n5 c5) Y x rg ov os bx) {j:Nat} (hj:j < m) {u:Int} (hu:0≤u) :
  Calls Tryz.prog 152 #[.pointer (some ⟨mb,j,none⟩),.int .i64 u,.pointer (some ⟨bx,0,none⟩)] w fun e w'=>e=.returned (.tuple #[])∧ESt w0 we w' r mb m p (.slice Ai il ci) (.slice A3 n3 c3) (.slice A4 n4 c4) (.slice A5 n5 c5) Y x rg ov os bx:=by
 have HE:=Aside0.mk h;obtain ⟨bb,cb⟩:=h.st.byte hj;have fb:=h.st.bfrozen j;obtain ⟨z0,hz0⟩:=h.wx;have cx:w.cell? ⟨bx,0,none⟩=some (.int .u64 z0):=(z01 hz0 0).trans rfl;have fx:=z02 hz0 0;have hu0:(u < 0)=False:=eq_false (by omega);have hu1:decide (u < 0)=false:=decide_eq_false (by omega);clear h hz0
 go_enter Tryz.func152,Tryz.ntmps152
 refine z1i (n:=9) (S:=fun w'=>w'.cell? ⟨bx,0,none⟩=some (.int .u64 z0)∧w'.cell? ⟨mb,j,none⟩=some (.int .u8 bb)) (ds:=[8]) #[zf,zf,zf,zf,zf,zf,zf,zf,zf] (by kernel_rfl) rfl rfl ⟨cx,cb⟩ (fun hHeld=>?_);refine pure_ (i:=1) (N:=some 6) (v:=?_) (a':=?_) #[zf,zt,zf,zf,zf,zf,zf,zf,zf] rfl rfl (by kernel_rfl) (fun _ _ _ h=>h) (Or.inl ⟨by rfl,?_⟩) ?_ ?_;rotate_left
 ·intro w';go_simp;with_reducible rfl
 rotate_left
 ·simp only [Act.put,zq1,zq2,zq3,i64_w,i32_w];rfl
 refine pure_ (i:=2) (N:=some 7) (v:=?_) (a':=?_) #[zf,zt,zt,zf,zf,zf,zf,zf,zf] rfl rfl (by kernel_rfl) (fun _ _ _ h=>h) (Or.inl ⟨by rfl,?_⟩) ?_ ?_;rotate_left
 ·intro w';go_simp;with_reducible rfl
 rotate_left
 ·simp only [Act.put,zq1,zq2,zq3,i64_w,i32_w];rfl
 refine pure_ (i:=5) (N:=some 10) (v:=?_) (a':=?_) #[zf,zt,zt,zf,zf,zt,zf,zf,zf] rfl rfl (by kernel_rfl) (fun _ _ _ h=>h) (Or.inl ⟨by rfl,?_⟩) ?_ ?_;rotate_left
 ·intro w';go_simp;with_reducible rfl
 rotate_left
 ·simp only [Act.put,zq1,zq2,zq3,i64_w,i32_w];rfl
 refine take_ (i:=0) (N:=some 5) (v:=?_) (a':=?_) #[zt,zt,zt,zf,zf,zt,zf,zf,zf] rfl rfl (by kernel_rfl) (fun _ _ _ h=>h) (Or.inl ⟨by rfl,?_⟩) hHeld ?_ ?_;rotate_left
 ·rintro w' ⟨s0,s1⟩;go_simp;with_reducible rfl
 rotate_left
 ·simp only [Act.put,zq1,zq2,zq3,i64_w,i32_w];rfl
 refine take_ (i:=3) (N:=some 8) (v:=?_) (a':=?_) #[zt,zt,zt,zt,zf,zt,zf,zf,zf] rfl rfl (by kernel_rfl) (fun _ _ _ h=>h) (Or.inl ⟨by rfl,?_⟩) hHeld ?_ ?_;rotate_left
 ·rintro w' ⟨s0,s1⟩;go_simp;with_reducible rfl
 rotate_left
 ·simp only [Act.put,zq1,zq2,zq3,i64_w,i32_w];rfl
 refine pure_ (i:=4) (N:=some 9) (v:=?_) (a':=?_) #[zt,zt,zt,zt,zt,zt,zf,zf,zf] rfl rfl (by kernel_rfl) (fun _ _ _ h=>h) (Or.inl ⟨by rfl,?_⟩) ?_ ?_;rotate_left
 ·intro w';go_simp;with_reducible rfl
 rotate_left
 ·simp only [Act.put,zq1,zq2,zq3,i64_w,i32_w];rfl
 refine pure_ (i:=6) (N:=some 11) (v:=?_) (a':=?_) #[zt,zt,zt,zt,zt,zt,zt,zf,zf] rfl rfl (by kernel_rfl) (fun _ _ _ h=>h) (Or.inl ⟨by rfl,?_⟩) ?_ ?_;rotate_left
 ·intro w';go_simp;with_reducible rfl
 rotate_left
 ·simp only [Act.put,zq1,zq2,zq3,i64_w,i32_w];rfl
 refine pure_ (i:=7) (N:=some 12) (v:=?_) (a':=?_) #[zt,zt,zt,zt,zt,zt,zt,zt,zf] rfl rfl (by kernel_rfl) (fun _ _ _ h=>h) (Or.inl ⟨by rfl,?_⟩) ?_ ?_;rotate_left
 ·intro w';go_simp;with_reducible rfl
 rotate_left
 ·simp only [Act.put,zq1,zq2,zq3,i64_w,i32_w];rfl
 refine last_ (i:=8) (N:=none) #[zt,zt,zt,zt,zt,zt,zt,zt,zt] rfl rfl (by kernel_rfl) (by decide) (fun K hK=>?_);refine skip_ (w1:=?_) (by rfl) rfl ?_ ?_;rotate_left
 ·go_simp;rfl
 refine hK.out _ _ ?_;clear hK K;refine done_ (by kernel_rfl) ?_;go_end0
 exact ⟨rfl,(HE.out.setX _).drew⟩
theorem do_save {w0 we w:World} {r mb m bx:Nat} {p:Im} {Ai A3 A4 A5:Option Addr} {il ci n3 c3 n4 c4 n5 c5:Nat} {Y:Nat→Prop} {x:Int} {rg:Nat→Int} {ov:Value} {os:List Int} (h:ESt w0 we w r mb m p (.slice Ai il ci) (.slice A3 n3 c3) (.slice A4 n4 c4) (.slice A5 n5 c5) Y x rg ov os bx) {j:Nat} (hj:j < m) {u:Int} (hu:0≤u) :
  Calls Tryz.prog 153 #[.pointer (some ⟨mb,j,none⟩),.int .i64 u,.pointer (some ⟨bx,0,none⟩)] w fun e w'=>e=.returned (.tuple #[])∧ESt w0 we w' r mb m p (.slice Ai il ci) (.slice A3 n3 c3) (.slice A4 n4 c4) (.slice A5 n5 c5) Y x rg ov os bx:=by
 have HE:=Aside0.mk h;obtain ⟨bb,cb⟩:=h.st.byte hj;have fb:=h.st.bfrozen j;obtain ⟨z0,hz0⟩:=h.wx;have cx:w.cell? ⟨bx,0,none⟩=some (.int .u64 z0):=(z01 hz0 0).trans rfl;have fx:=z02 hz0 0;have hu0:(u < 0)=False:=eq_false (by omega);have hu1:decide (u < 0)=false:=decide_eq_false (by omega);clear h hz0
 go_enter Tryz.func153,Tryz.ntmps153
 go_wp2;go_end0
 exact ⟨rfl,HE.out.poke j _⟩
theorem each_load {w0 we w:World} {r mb m bx:Nat} {p:Im} {Ai A3 A4 A5:Option Addr} {il ci n3 c3 n4 c4 n5 c5:Nat} {Y:Nat→Prop} {x:Int} {rg:Nat→Int} {ov:Value} {os:List Int} (h:ESt w0 we w r mb m p (.slice Ai il ci) (.slice A3 n3 c3) (.slice A4 n4 c4) (.slice A5 n5 c5) Y x rg ov os bx) (hm:m≤64) (i:In) (b0:0≤i.f2) (b7:i.f2≤7) (c0:0≤i.f3) (c8:i.f3≤8) :
  Calls Tryz.prog 151 #[.pointer (some ⟨r,0,none⟩),.agg #[.int .i64 i.f0,.int .i64 i.f1,.int .i64 i.f2,.int .i64 i.f3,.int .u64 i.f4],.func (.func 152) #[] #[.pointer (some ⟨bx,0,none⟩)]] w (EachPost w0 we r mb m p (.slice Ai il ci) (.slice A3 n3 c3) (.slice A4 n4 c4) (.slice A5 n5 c5) Y x rg ov os bx):=by
 have HE:=Aside0.mk (h.alloc (.cells #[.int .i64 i.f0,.int .i64 i.f1,.int .i64 i.f2,.int .i64 i.f3,.int .u64 i.f4] 79));have BI:=Aside0.mk (z0z w (.cells #[.int .i64 i.f0,.int .i64 i.f1,.int .i64 i.f2,.int .i64 i.f3,.int .u64 i.f4] 79));have hB:=Aside0.mk (And.intro b0 b7);have hC:=Aside0.mk (And.intro c0 c8);have hM:=Aside0.mk hm;have hBI:Aside0 (w.heap.size≠bx∧w.heap.size≠mb):=⟨by obtain ⟨z,hz⟩:=h.wx;have:=z0v hz;have:=h.st.mlt;omega⟩;clear h b0 b7 c0 c8 hm
 go_enter Tryz.func151,Tryz.ntmps151
 go_upto_region 1 with (fail)
 generalize w.alloc (.cells #[.int .i64 i.f0,.int .i64 i.f1,.int .i64 i.f2,.int .i64 i.f3,.int .u64 i.f4] 79)=w1 at HE BI ⊢;generalize w.heap.size=bi at BI hBI ⊢;have hp0:(0≤i.f2)=True:=eq_true hB.out.1;have hp1:(i.f2 < 8)=True:=eq_true (by have:=hB.out;omega);refine z1i (n:=16) (S:=fun w'=>w'.cell? ⟨bi,2,none⟩=some (.int .i64 i.f2)∧w'.cell? ⟨bi,3,none⟩=some (.int .i64 i.f3)∧w'.cell? ⟨bi,4,none⟩=some (.int .u64 i.f4)∧w'.cell? ⟨r,8+i.f2.toNat,none⟩=some (.int .u64 (rg i.f2.toNat))) (ds:=[]) #[zf,zf,zf,zf,zf,zf,zf,zf,zf,zf,zf,zf,zf,zf,zf,zf] (by kernel_rfl) rfl rfl ⟨(z01 BI.out 2).trans rfl,(z01 BI.out 3).trans rfl,(z01 BI.out 4).trans rfl,HE.out.st.reg hB.out.1 hB.out.2⟩ (fun hHeld=>?_);refine pure_ (i:=0) (N:=some 11) (v:=?_) (a':=?_) #[zt,zf,zf,zf,zf,zf,zf,zf,zf,zf,zf,zf,zf,zf,zf,zf] rfl rfl (by kernel_rfl) (fun _ _ _ h=>h) (Or.inl ⟨by rfl,?_⟩) ?_ ?_;rotate_left
 ·intro w';go_simp;with_reducible rfl
 rotate_left
 ·simp only [Act.put,zq1,zq2,zq3,i64_w,i32_w];rfl
 refine pure_ (i:=1) (N:=some 12) (v:=?_) (a':=?_) #[zt,zt,zf,zf,zf,zf,zf,zf,zf,zf,zf,zf,zf,zf,zf,zf] rfl rfl (by kernel_rfl) (fun _ _ _ h=>h) (Or.inl ⟨by rfl,?_⟩) ?_ ?_;rotate_left
 ·intro w';go_simp;with_reducible rfl
 rotate_left
 ·simp only [Act.put,zq1,zq2,zq3,i64_w,i32_w];rfl
 refine pure_ (i:=3) (N:=some 14) (v:=?_) (a':=?_) #[zt,zt,zf,zt,zf,zf,zf,zf,zf,zf,zf,zf,zf,zf,zf,zf] rfl rfl (by kernel_rfl) (fun _ _ _ h=>h) (Or.inl ⟨by rfl,?_⟩) ?_ ?_;rotate_left
 ·intro w';go_simp;with_reducible rfl
 rotate_left
 ·simp only [Act.put,zq1,zq2,zq3,i64_w,i32_w];rfl
 refine pure_ (i:=4) (N:=some 15) (v:=?_) (a':=?_) #[zt,zt,zf,zt,zt,zf,zf,zf,zf,zf,zf,zf,zf,zf,zf,zf] rfl rfl (by kernel_rfl) (fun _ _ _ h=>h) (Or.inl ⟨by rfl,?_⟩) ?_ ?_;rotate_left
 ·intro w';go_simp;with_reducible rfl
 rotate_left
 ·simp only [Act.put,zq1,zq2,zq3,i64_w,i32_w];rfl
 refine pure_ (i:=5) (N:=some 16) (v:=?_) (a':=?_) #[zt,zt,zf,zt,zt,zt,zf,zf,zf,zf,zf,zf,zf,zf,zf,zf] rfl rfl (by kernel_rfl) (fun _ _ _ h=>h) (Or.inl ⟨by rfl,?_⟩) ?_ ?_;rotate_left
 ·intro w';go_simp;with_reducible rfl
 rotate_left
 ·simp only [Act.put,zq1,zq2,zq3,i64_w,i32_w];rfl
 refine pure_ (i:=8) (N:=some 19) (v:=?_) (a':=?_) #[zt,zt,zf,zt,zt,zt,zf,zf,zt,zf,zf,zf,zf,zf,zf,zf] rfl rfl (by kernel_rfl) (fun _ _ _ h=>h) (Or.inl ⟨by rfl,?_⟩) ?_ ?_;rotate_left
 ·intro w';go_simp;with_reducible rfl
 rotate_left
 ·simp only [Act.put,zq1,zq2,zq3,i64_w,i32_w];rfl
 refine pure_ (i:=11) (N:=some 22) (v:=?_) (a':=?_) #[zt,zt,zf,zt,zt,zt,zf,zf,zt,zf,zf,zt,zf,zf,zf,zf] rfl rfl (by kernel_rfl) (fun _ _ _ h=>h) (Or.inl ⟨by rfl,?_⟩) ?_ ?_;rotate_left
 ·intro w';go_simp;with_reducible rfl
 rotate_left
 ·simp only [Act.put,zq1,zq2,zq3,i64_w,i32_w];rfl
 refine take_ (i:=2) (N:=some 13) (v:=?_) (a':=?_) #[zt,zt,zt,zt,zt,zt,zf,zf,zt,zf,zf,zt,zf,zf,zf,zf] rfl rfl (by kernel_rfl) (fun _ _ _ h=>h) (Or.inl ⟨by rfl,?_⟩) hHeld ?_ ?_;rotate_left
 ·rintro w' ⟨s0,s1,s2,s3⟩;go_simp;with_reducible rfl
 rotate_left
 ·simp only [Act.put,zq1,zq2,zq3,i64_w,i32_w];rfl
 refine pure_ (i:=6) (N:=some 17) (v:=?_) (a':=?_) #[zt,zt,zt,zt,zt,zt,zt,zf,zt,zf,zf,zt,zf,zf,zf,zf] rfl rfl (by kernel_rfl) (fun _ _ _ h=>h) (Or.inl ⟨by rfl,?_⟩) ?_ ?_;rotate_left
 ·intro w';go_simp;with_reducible rfl
 rotate_left
 ·simp only [Act.put,zq1,zq2,zq3,i64_w,i32_w];rfl
 refine take_ (i:=7) (N:=some 18) (v:=?_) (a':=?_) #[zt,zt,zt,zt,zt,zt,zt,zt,zt,zf,zf,zt,zf,zf,zf,zf] rfl rfl (by kernel_rfl) (fun _ _ _ h=>h) (Or.inl ⟨by rfl,?_⟩) hHeld ?_ ?_;rotate_left
 ·rintro w' ⟨s0,s1,s2,s3⟩;go_simp;with_reducible rfl
 rotate_left
 ·simp only [Act.put,zq1,zq2,zq3,i64_w,i32_w];rfl
 refine take_ (i:=9) (N:=some 20) (v:=?_) (a':=?_) #[zt,zt,zt,zt,zt,zt,zt,zt,zt,zt,zf,zt,zf,zf,zf,zf] rfl rfl (by kernel_rfl) (fun _ _ _ h=>h) (Or.inl ⟨by rfl,?_⟩) hHeld ?_ ?_;rotate_left
 ·rintro w' ⟨s0,s1,s2,s3⟩;go_simp;with_reducible rfl
 rotate_left
 ·simp only [Act.put,zq1,zq2,zq3,i64_w,i32_w];rfl
 refine pure_ (i:=10) (N:=some 21) (v:=?_) (a':=?_) #[zt,zt,zt,zt,zt,zt,zt,zt,zt,zt,zt,zt,zf,zf,zf,zf] rfl rfl (by kernel_rfl) (fun _ _ _ h=>h) (Or.inl ⟨by rfl,?_⟩) ?_ ?_;rotate_left
 ·intro w';go_simp;with_reducible rfl
 rotate_left
 ·simp only [Act.put,zq1,zq2,zq3,i64_w,i32_w];rfl
 refine pure_ (i:=14) (N:=some 7) (v:=?_) (a':=?_) #[zt,zt,zt,zt,zt,zt,zt,zt,zt,zt,zt,zt,zf,zf,zt,zf] rfl rfl (by kernel_rfl) (fun _ _ _ h=>h) (Or.inl ⟨by rfl,?_⟩) ?_ ?_;rotate_left
 ·intro w';go_simp;with_reducible rfl
 rotate_left
 ·simp only [Act.put,zq1,zq2,zq3,i64_w,i32_w];rfl
 refine take_ (i:=12) (N:=some 23) (v:=?_) (a':=?_) #[zt,zt,zt,zt,zt,zt,zt,zt,zt,zt,zt,zt,zt,zf,zt,zf] rfl rfl (by kernel_rfl) (fun _ _ _ h=>h) (Or.inl ⟨by rfl,?_⟩) hHeld ?_ ?_;rotate_left
 ·rintro w' ⟨s0,s1,s2,s3⟩;go_simp;with_reducible rfl
 rotate_left
 ·simp only [Act.put,zq1,zq2,zq3,i64_w,i32_w];rfl
 refine pure_ (i:=13) (N:=some 24) (v:=?_) (a':=?_) #[zt,zt,zt,zt,zt,zt,zt,zt,zt,zt,zt,zt,zt,zt,zt,zf] rfl rfl (by kernel_rfl) (fun _ _ _ h=>h) (Or.inl ⟨by rfl,?_⟩) ?_ ?_;rotate_left
 ·intro w';go_simp;with_reducible rfl
 rotate_left
 ·simp only [Act.put,zq1,zq2,zq3,i64_w,i32_w];rfl
 refine pure_ (i:=15) (N:=some 8) (v:=?_) (a':=?_) #[zt,zt,zt,zt,zt,zt,zt,zt,zt,zt,zt,zt,zt,zt,zt,zt] rfl rfl (by kernel_rfl) (fun _ _ _ h=>h) (Or.inl ⟨by rfl,?_⟩) ?_ ?_;rotate_left
 ·intro w';go_simp;with_reducible rfl
 rotate_left
 ·simp only [Act.put,zq1,zq2,zq3,i64_w,i32_w];rfl
 refine done_ (by kernel_rfl) ?_;have HE2:=Aside0.mk HE.out.drew;have BI2:=Aside0.mk (z09 BI.out);generalize w1.drew=w2 at HE2 BI2 ⊢;clear HE BI hHeld hp0 hp1;have c16:w2.cell? ⟨r,16,none⟩=some (.slice (some ⟨mb,0,none⟩) m m):=(HE2.out.st.cell 16).trans rfl;have hwc:IntKind.u64.wrap i.f3=i.f3:=by rw [IntKind.wrap_u64];have:=hC.out;omega
 have hwm:IntKind.u64.wrap (m:Int)=(m:Int):=by rw [IntKind.wrap_u64];have:=hM.out;omega
 have hz0:0≤IntKind.u64.wrap (rg i.f2.toNat+i.f4):=by rw [IntKind.wrap_u64];omega
 generalize IntKind.u64.wrap (rg i.f2.toNat+i.f4)=z at hz0 ⊢;rw [hwc]
 by_cases hg1:i.f3 > (m:Int)
 ·have hd:decide (i.f3 > (m:Int))=true:=decide_eq_true hg1;have hd':decide ((m:Int) < i.f3)=true:=decide_eq_true hg1;go_wp2;go_ret
  exact ⟨⟨_,rfl⟩,HE2.out⟩
 have hd:decide (i.f3 > (m:Int))=false:=decide_eq_false hg1;have hd':decide ((m:Int) < i.f3)=false:=decide_eq_false hg1;have hws:IntKind.u64.wrap ((m:Int) - i.f3)=(m:Int) - i.f3:=by rw [IntKind.wrap_u64];have:=hC.out;have:=hM.out;omega
 by_cases hg2:z > (m:Int) - i.f3
 ·have he:decide (z > (m:Int) - i.f3)=true:=decide_eq_true hg2;have he':decide ((m:Int) - i.f3 < z)=true:=decide_eq_true hg2;go_wp2;go_ret
  exact ⟨⟨_,rfl⟩,HE2.out⟩
 have he:decide (z > (m:Int) - i.f3)=false:=decide_eq_false hg2;have he':decide ((m:Int) - i.f3 < z)=false:=decide_eq_false hg2;have d3:w2.cell? ⟨bi,3,none⟩=some (.int .i64 i.f3):=(z01 BI2.out 3).trans rfl;go_wp2
 go_loopw [44] (fun v44 wr=>∃ k:Nat,v44=.int .i64 k∧Aside0 ((k:Int)≤i.f3)∧Aside0 (ESt w0 we wr r mb m p (.slice Ai il ci) (.slice A3 n3 c3) (.slice A4 n4 c4) (.slice A5 n5 c5) Y x rg ov os bx)) (fun v _=>i.f3.toNat - (intOf v).toNat)
 case atStart=>exact ⟨0,rfl,⟨by have:=hC.out;omega⟩,HE2⟩
 case round =>
  clear HE2 c16 d3 BI2;obtain ⟨k,rfl,hk,hE⟩:=hrel;have hk:=hk.out;have hC8:=hC.out.2;have hM64:=hM.out
  by_cases hlt:(k:Int) < i.f3
  ·have hkd:decide ((k:Int) < i.f3)=true:=decide_eq_true hlt;have hwk:IntKind.u64.wrap (k:Int)=(k:Int):=by rw [IntKind.wrap_u64];omega
   have hwz:IntKind.u64.wrap (z+(k:Int))=z+(k:Int):=by rw [IntKind.wrap_u64];omega
   have hw8:IntKind.i64.wrap (8 * (k:Int))=8 * (k:Int):=IntWalk.i64_in _ (by omega);have c16:wr.cell? ⟨r,16,none⟩=some (.slice (some ⟨mb,0,none⟩) m m):=(hE.out.st.cell 16).trans rfl;have hq0:(0≤z+(k:Int))=True:=eq_true (by omega);have hq1:(z+(k:Int) < (m:Int))=True:=eq_true (by omega);have hjm:Aside0 ((z+(k:Int)).toNat < m):=⟨by omega⟩;have hu8:Aside0 (0≤8 * (k:Int)):=⟨by omega⟩
   go_wp2_with (go_at_call 152;refine (do_load hE.out hjm.out hu8.out).mono ?_;rintro e w3 ⟨rfl,hE3⟩;have HE3:=Aside0.mk hE3;clear hE3)
   go_roundw
   case rel=>exact ⟨k+1,by go_num,⟨by omega⟩,HE3⟩
   case measure=>simp [intOf];omega
  ·have hkd:decide ((k:Int) < i.f3)=false:=decide_eq_false hlt;go_wp2;go_ret
   exact ⟨⟨_,rfl⟩,hE.out⟩
theorem each_save {w0 we w:World} {r mb m bx:Nat} {p:Im} {Ai A3 A4 A5:Option Addr} {il ci n3 c3 n4 c4 n5 c5:Nat} {Y:Nat→Prop} {x:Int} {rg:Nat→Int} {ov:Value} {os:List Int} (h:ESt w0 we w r mb m p (.slice Ai il ci) (.slice A3 n3 c3) (.slice A4 n4 c4) (.slice A5 n5 c5) Y x rg ov os bx) (hm:m≤64) (i:In) (b0:0≤i.f2) (b7:i.f2≤7) (c0:0≤i.f3) (c8:i.f3≤8) :
  Calls Tryz.prog 151 #[.pointer (some ⟨r,0,none⟩),.agg #[.int .i64 i.f0,.int .i64 i.f1,.int .i64 i.f2,.int .i64 i.f3,.int .u64 i.f4],.func (.func 153) #[] #[.pointer (some ⟨bx,0,none⟩)]] w (EachPost w0 we r mb m p (.slice Ai il ci) (.slice A3 n3 c3) (.slice A4 n4 c4) (.slice A5 n5 c5) Y x rg ov os bx):=by
 have HE:=Aside0.mk (h.alloc (.cells #[.int .i64 i.f0,.int .i64 i.f1,.int .i64 i.f2,.int .i64 i.f3,.int .u64 i.f4] 79));have BI:=Aside0.mk (z0z w (.cells #[.int .i64 i.f0,.int .i64 i.f1,.int .i64 i.f2,.int .i64 i.f3,.int .u64 i.f4] 79));have hB:=Aside0.mk (And.intro b0 b7);have hC:=Aside0.mk (And.intro c0 c8);have hM:=Aside0.mk hm;have hBI:Aside0 (w.heap.size≠bx∧w.heap.size≠mb):=⟨by obtain ⟨z,hz⟩:=h.wx;have:=z0v hz;have:=h.st.mlt;omega⟩;clear h b0 b7 c0 c8 hm
 go_enter Tryz.func151,Tryz.ntmps151
 go_upto_region 1 with (fail)
 generalize w.alloc (.cells #[.int .i64 i.f0,.int .i64 i.f1,.int .i64 i.f2,.int .i64 i.f3,.int .u64 i.f4] 79)=w1 at HE BI ⊢;generalize w.heap.size=bi at BI hBI ⊢;have hp0:(0≤i.f2)=True:=eq_true hB.out.1;have hp1:(i.f2 < 8)=True:=eq_true (by have:=hB.out;omega);refine z1i (n:=16) (S:=fun w'=>w'.cell? ⟨bi,2,none⟩=some (.int .i64 i.f2)∧w'.cell? ⟨bi,3,none⟩=some (.int .i64 i.f3)∧w'.cell? ⟨bi,4,none⟩=some (.int .u64 i.f4)∧w'.cell? ⟨r,8+i.f2.toNat,none⟩=some (.int .u64 (rg i.f2.toNat))) (ds:=[]) #[zf,zf,zf,zf,zf,zf,zf,zf,zf,zf,zf,zf,zf,zf,zf,zf] (by kernel_rfl) rfl rfl ⟨(z01 BI.out 2).trans rfl,(z01 BI.out 3).trans rfl,(z01 BI.out 4).trans rfl,HE.out.st.reg hB.out.1 hB.out.2⟩ (fun hHeld=>?_);refine pure_ (i:=0) (N:=some 11) (v:=?_) (a':=?_) #[zt,zf,zf,zf,zf,zf,zf,zf,zf,zf,zf,zf,zf,zf,zf,zf] rfl rfl (by kernel_rfl) (fun _ _ _ h=>h) (Or.inl ⟨by rfl,?_⟩) ?_ ?_;rotate_left
 ·intro w';go_simp;with_reducible rfl
 rotate_left
 ·simp only [Act.put,zq1,zq2,zq3,i64_w,i32_w];rfl
 refine pure_ (i:=1) (N:=some 12) (v:=?_) (a':=?_) #[zt,zt,zf,zf,zf,zf,zf,zf,zf,zf,zf,zf,zf,zf,zf,zf] rfl rfl (by kernel_rfl) (fun _ _ _ h=>h) (Or.inl ⟨by rfl,?_⟩) ?_ ?_;rotate_left
 ·intro w';go_simp;with_reducible rfl
 rotate_left
 ·simp only [Act.put,zq1,zq2,zq3,i64_w,i32_w];rfl
 refine pure_ (i:=3) (N:=some 14) (v:=?_) (a':=?_) #[zt,zt,zf,zt,zf,zf,zf,zf,zf,zf,zf,zf,zf,zf,zf,zf] rfl rfl (by kernel_rfl) (fun _ _ _ h=>h) (Or.inl ⟨by rfl,?_⟩) ?_ ?_;rotate_left
 ·intro w';go_simp;with_reducible rfl
 rotate_left
 ·simp only [Act.put,zq1,zq2,zq3,i64_w,i32_w];rfl
 refine pure_ (i:=4) (N:=some 15) (v:=?_) (a':=?_) #[zt,zt,zf,zt,zt,zf,zf,zf,zf,zf,zf,zf,zf,zf,zf,zf] rfl rfl (by kernel_rfl) (fun _ _ _ h=>h) (Or.inl ⟨by rfl,?_⟩) ?_ ?_;rotate_left
 ·intro w';go_simp;with_reducible rfl
 rotate_left
 ·simp only [Act.put,zq1,zq2,zq3,i64_w,i32_w];rfl
 refine pure_ (i:=5) (N:=some 16) (v:=?_) (a':=?_) #[zt,zt,zf,zt,zt,zt,zf,zf,zf,zf,zf,zf,zf,zf,zf,zf] rfl rfl (by kernel_rfl) (fun _ _ _ h=>h) (Or.inl ⟨by rfl,?_⟩) ?_ ?_;rotate_left
 ·intro w';go_simp;with_reducible rfl
 rotate_left
 ·simp only [Act.put,zq1,zq2,zq3,i64_w,i32_w];rfl
 refine pure_ (i:=8) (N:=some 19) (v:=?_) (a':=?_) #[zt,zt,zf,zt,zt,zt,zf,zf,zt,zf,zf,zf,zf,zf,zf,zf] rfl rfl (by kernel_rfl) (fun _ _ _ h=>h) (Or.inl ⟨by rfl,?_⟩) ?_ ?_;rotate_left
 ·intro w';go_simp;with_reducible rfl
 rotate_left
 ·simp only [Act.put,zq1,zq2,zq3,i64_w,i32_w];rfl
 refine pure_ (i:=11) (N:=some 22) (v:=?_) (a':=?_) #[zt,zt,zf,zt,zt,zt,zf,zf,zt,zf,zf,zt,zf,zf,zf,zf] rfl rfl (by kernel_rfl) (fun _ _ _ h=>h) (Or.inl ⟨by rfl,?_⟩) ?_ ?_;rotate_left
 ·intro w';go_simp;with_reducible rfl
 rotate_left
 ·simp only [Act.put,zq1,zq2,zq3,i64_w,i32_w];rfl
 refine take_ (i:=2) (N:=some 13) (v:=?_) (a':=?_) #[zt,zt,zt,zt,zt,zt,zf,zf,zt,zf,zf,zt,zf,zf,zf,zf] rfl rfl (by kernel_rfl) (fun _ _ _ h=>h) (Or.inl ⟨by rfl,?_⟩) hHeld ?_ ?_;rotate_left
 ·rintro w' ⟨s0,s1,s2,s3⟩;go_simp;with_reducible rfl
 rotate_left
 ·simp only [Act.put,zq1,zq2,zq3,i64_w,i32_w];rfl
 refine pure_ (i:=6) (N:=some 17) (v:=?_) (a':=?_) #[zt,zt,zt,zt,zt,zt,zt,zf,zt,zf,zf,zt,zf,zf,zf,zf] rfl rfl (by kernel_rfl) (fun _ _ _ h=>h) (Or.inl ⟨by rfl,?_⟩) ?_ ?_;rotate_left
 ·intro w';go_simp;with_reducible rfl
 rotate_left
 ·simp only [Act.put,zq1,zq2,zq3,i64_w,i32_w];rfl
 refine take_ (i:=7) (N:=some 18) (v:=?_) (a':=?_) #[zt,zt,zt,zt,zt,zt,zt,zt,zt,zf,zf,zt,zf,zf,zf,zf] rfl rfl (by kernel_rfl) (fun _ _ _ h=>h) (Or.inl ⟨by rfl,?_⟩) hHeld ?_ ?_;rotate_left
 ·rintro w' ⟨s0,s1,s2,s3⟩;go_simp;with_reducible rfl
 rotate_left
 ·simp only [Act.put,zq1,zq2,zq3,i64_w,i32_w];rfl
 refine take_ (i:=9) (N:=some 20) (v:=?_) (a':=?_) #[zt,zt,zt,zt,zt,zt,zt,zt,zt,zt,zf,zt,zf,zf,zf,zf] rfl rfl (by kernel_rfl) (fun _ _ _ h=>h) (Or.inl ⟨by rfl,?_⟩) hHeld ?_ ?_;rotate_left
 ·rintro w' ⟨s0,s1,s2,s3⟩;go_simp;with_reducible rfl
 rotate_left
 ·simp only [Act.put,zq1,zq2,zq3,i64_w,i32_w];rfl
 refine pure_ (i:=10) (N:=some 21) (v:=?_) (a':=?_) #[zt,zt,zt,zt,zt,zt,zt,zt,zt,zt,zt,zt,zf,zf,zf,zf] rfl rfl (by kernel_rfl) (fun _ _ _ h=>h) (Or.inl ⟨by rfl,?_⟩) ?_ ?_;rotate_left
 ·intro w';go_simp;with_reducible rfl
 rotate_left
 ·simp only [Act.put,zq1,zq2,zq3,i64_w,i32_w];rfl
 refine pure_ (i:=14) (N:=some 7) (v:=?_) (a':=?_) #[zt,zt,zt,zt,zt,zt,zt,zt,zt,zt,zt,zt,zf,zf,zt,zf] rfl rfl (by kernel_rfl) (fun _ _ _ h=>h) (Or.inl ⟨by rfl,?_⟩) ?_ ?_;rotate_left
 ·intro w';go_simp;with_reducible rfl
 rotate_left
 ·simp only [Act.put,zq1,zq2,zq3,i64_w,i32_w];rfl
 refine take_ (i:=12) (N:=some 23) (v:=?_) (a':=?_) #[zt,zt,zt,zt,zt,zt,zt,zt,zt,zt,zt,zt,zt,zf,zt,zf] rfl rfl (by kernel_rfl) (fun _ _ _ h=>h) (Or.inl ⟨by rfl,?_⟩) hHeld ?_ ?_;rotate_left
 ·rintro w' ⟨s0,s1,s2,s3⟩;go_simp;with_reducible rfl
 rotate_left
 ·simp only [Act.put,zq1,zq2,zq3,i64_w,i32_w];rfl
 refine pure_ (i:=13) (N:=some 24) (v:=?_) (a':=?_) #[zt,zt,zt,zt,zt,zt,zt,zt,zt,zt,zt,zt,zt,zt,zt,zf] rfl rfl (by kernel_rfl) (fun _ _ _ h=>h) (Or.inl ⟨by rfl,?_⟩) ?_ ?_;rotate_left
 ·intro w';go_simp;with_reducible rfl
 rotate_left
 ·simp only [Act.put,zq1,zq2,zq3,i64_w,i32_w];rfl
 refine pure_ (i:=15) (N:=some 8) (v:=?_) (a':=?_) #[zt,zt,zt,zt,zt,zt,zt,zt,zt,zt,zt,zt,zt,zt,zt,zt] rfl rfl (by kernel_rfl) (fun _ _ _ h=>h) (Or.inl ⟨by rfl,?_⟩) ?_ ?_;rotate_left
 ·intro w';go_simp;with_reducible rfl
 rotate_left
 ·simp only [Act.put,zq1,zq2,zq3,i64_w,i32_w];rfl
 refine done_ (by kernel_rfl) ?_;have HE2:=Aside0.mk HE.out.drew;have BI2:=Aside0.mk (z09 BI.out);generalize w1.drew=w2 at HE2 BI2 ⊢;clear HE BI hHeld hp0 hp1;have c16:w2.cell? ⟨r,16,none⟩=some (.slice (some ⟨mb,0,none⟩) m m):=(HE2.out.st.cell 16).trans rfl;have hwc:IntKind.u64.wrap i.f3=i.f3:=by rw [IntKind.wrap_u64];have:=hC.out;omega
 have hwm:IntKind.u64.wrap (m:Int)=(m:Int):=by rw [IntKind.wrap_u64];have:=hM.out;omega
 have hz0:0≤IntKind.u64.wrap (rg i.f2.toNat+i.f4):=by rw [IntKind.wrap_u64];omega
 generalize IntKind.u64.wrap (rg i.f2.toNat+i.f4)=z at hz0 ⊢;rw [hwc]
 by_cases hg1:i.f3 > (m:Int)
 ·have hd:decide (i.f3 > (m:Int))=true:=decide_eq_true hg1;have hd':decide ((m:Int) < i.f3)=true:=decide_eq_true hg1;go_wp2;go_ret
  exact ⟨⟨_,rfl⟩,HE2.out⟩
 have hd:decide (i.f3 > (m:Int))=false:=decide_eq_false hg1;have hd':decide ((m:Int) < i.f3)=false:=decide_eq_false hg1;have hws:IntKind.u64.wrap ((m:Int) - i.f3)=(m:Int) - i.f3:=by rw [IntKind.wrap_u64];have:=hC.out;have:=hM.out;omega
 by_cases hg2:z > (m:Int) - i.f3
 ·have he:decide (z > (m:Int) - i.f3)=true:=decide_eq_true hg2;have he':decide ((m:Int) - i.f3 < z)=true:=decide_eq_true hg2;go_wp2;go_ret
  exact ⟨⟨_,rfl⟩,HE2.out⟩
 have he:decide (z > (m:Int) - i.f3)=false:=decide_eq_false hg2;have he':decide ((m:Int) - i.f3 < z)=false:=decide_eq_false hg2;have d3:w2.cell? ⟨bi,3,none⟩=some (.int .i64 i.f3):=(z01 BI2.out 3).trans rfl;go_wp2
 go_loopw [44] (fun v44 wr=>∃ k:Nat,v44=.int .i64 k∧Aside0 ((k:Int)≤i.f3)∧Aside0 (ESt w0 we wr r mb m p (.slice Ai il ci) (.slice A3 n3 c3) (.slice A4 n4 c4) (.slice A5 n5 c5) Y x rg ov os bx)) (fun v _=>i.f3.toNat - (intOf v).toNat)
 case atStart=>exact ⟨0,rfl,⟨by have:=hC.out;omega⟩,HE2⟩
 case round =>
  clear HE2 c16 d3 BI2;obtain ⟨k,rfl,hk,hE⟩:=hrel;have hk:=hk.out;have hC8:=hC.out.2;have hM64:=hM.out
  by_cases hlt:(k:Int) < i.f3
  ·have hkd:decide ((k:Int) < i.f3)=true:=decide_eq_true hlt;have hwk:IntKind.u64.wrap (k:Int)=(k:Int):=by rw [IntKind.wrap_u64];omega
   have hwz:IntKind.u64.wrap (z+(k:Int))=z+(k:Int):=by rw [IntKind.wrap_u64];omega
   have hw8:IntKind.i64.wrap (8 * (k:Int))=8 * (k:Int):=IntWalk.i64_in _ (by omega);have c16:wr.cell? ⟨r,16,none⟩=some (.slice (some ⟨mb,0,none⟩) m m):=(hE.out.st.cell 16).trans rfl;have hq0:(0≤z+(k:Int))=True:=eq_true (by omega);have hq1:(z+(k:Int) < (m:Int))=True:=eq_true (by omega);have hjm:Aside0 ((z+(k:Int)).toNat < m):=⟨by omega⟩;have hu8:Aside0 (0≤8 * (k:Int)):=⟨by omega⟩
   go_wp2_with (go_at_call 153;refine (do_save hE.out hjm.out hu8.out).mono ?_;rintro e w3 ⟨rfl,hE3⟩;have HE3:=Aside0.mk hE3;clear hE3)
   go_roundw
   case rel=>exact ⟨k+1,by go_num,⟨by omega⟩,HE3⟩
   case measure=>simp [intOf];omega
  ·have hkd:decide ((k:Int) < i.f3)=false:=decide_eq_false hlt;go_wp2;go_ret
   exact ⟨⟨_,rfl⟩,hE.out⟩
theorem deed_load {w0 w:World} {r mb m:Nat} {p:Im} {Ai A3 A4 A5:Option Addr} {il ci n3 c3 n4 c4 n5 c5:Nat} {Y:Nat→Prop} {x:Int} {rg:Nat→Int} {ov:Value} {os:List Int} (h:MSt w0 w r mb m p (.slice Ai il ci) (.slice A3 n3 c3) (.slice A4 n4 c4) (.slice A5 n5 c5) Y x rg ov os) (hx0:0≤x) (hx1:x < 256) (i:In) (a0:0≤i.f1) (a7:i.f1≤7) (b0:0≤i.f2) (b7:i.f2≤7) (c0:0≤i.f3) (c8:i.f3≤8) (hm:m≤64) (hn:Nxt p x os (x+1) os) :
  Calls Tryz.prog 119 #[.pointer (some ⟨r,0,none⟩),.agg #[.int .i64 i.f0,.int .i64 i.f1,.int .i64 i.f2,.int .i64 i.f3,.int .u64 i.f4]] w (z1m w0 w r mb m p (.slice Ai il ci) (.slice A3 n3 c3) (.slice A4 n4 c4) (.slice A5 n5 c5) Y x os):=by
 have HS:=Aside0.mk (h.alloc (.cells #[.int .i64 i.f0,.int .i64 i.f1,.int .i64 i.f2,.int .i64 i.f3,.int .u64 i.f4] 79));have HF:Aside0 (Fr w (w.alloc (.cells #[.int .i64 i.f0,.int .i64 i.f1,.int .i64 i.f2,.int .i64 i.f3,.int .u64 i.f4] 79)) (fun j=>j=r)):=⟨z1f w _ _⟩;have BI:=Aside0.mk (z0z w (.cells #[.int .i64 i.f0,.int .i64 i.f1,.int .i64 i.f2,.int .i64 i.f3,.int .u64 i.f4] 79));have hX:=Aside0.mk (And.intro hx0 hx1);have hR:=Aside0.mk h.rlt;have hA:=Aside0.mk (And.intro a0 a7);clear a0 a7;have HN:=Aside0.mk hn;clear hn;have hB:=Aside0.mk (And.intro b0 b7);clear b0 b7;have hC:=Aside0.mk (And.intro c0 c8);have hM:=Aside0.mk hm;have hML:=Aside0.mk (And.intro h.mlt h.lt);clear c0 c8 hm;clear h hx0 hx1
 go_enter Tryz.func119,Tryz.ntmps119
 go_upto_region 2 with (fail)
 have e1:(w.alloc (.cells #[.int .i64 i.f0,.int .i64 i.f1,.int .i64 i.f2,.int .i64 i.f3,.int .u64 i.f4] 79)).heap.size=w.heap.size+1:=by show (w.heap.push _).size=_;simp
 have HE:Aside0 (ESt w0 ((w.alloc (.cells #[.int .i64 i.f0,.int .i64 i.f1,.int .i64 i.f2,.int .i64 i.f3,.int .u64 i.f4] 79)).alloc (.cells #[.int .u64 0] 43)) ((w.alloc (.cells #[.int .i64 i.f0,.int .i64 i.f1,.int .i64 i.f2,.int .i64 i.f3,.int .u64 i.f4] 79)).alloc (.cells #[.int .u64 0] 43)) r mb m p (.slice Ai il ci) (.slice A3 n3 c3) (.slice A4 n4 c4) (.slice A5 n5 c5) Y x rg ov os (w.heap.size+1)) :=
  ⟨HS.out.alloc _,⟨0,by have:=z0z (w.alloc (.cells #[.int .i64 i.f0,.int .i64 i.f1,.int .i64 i.f2,.int .i64 i.f3,.int .u64 i.f4] 79)) (.cells #[.int .u64 0] 43);rwa [e1] at this⟩,by
   have h1:=hR.out;have h2:=hML.out.1;have h3:=hML.out.2;have h4:=HS.out.bel.size;rw [e1] at h4;exact ⟨h4,by omega,by omega,fun hy=>by have:=h3 _ hy;omega⟩,Fr.refl _ _⟩
 have BI2:=Aside0.mk (z06 BI.out (.cells #[.int .u64 0] 43));have HF2:Aside0 (Fr w ((w.alloc (.cells #[.int .i64 i.f0,.int .i64 i.f1,.int .i64 i.f2,.int .i64 i.f3,.int .u64 i.f4] 79)).alloc (.cells #[.int .u64 0] 43)) (fun j=>j=w.heap.size+1∨j=mb)):=⟨(z1f w _ _).trans (z1f _ _ _)⟩;generalize (w.alloc (.cells #[.int .i64 i.f0,.int .i64 i.f1,.int .i64 i.f2,.int .i64 i.f3,.int .u64 i.f4] 79)).alloc (.cells #[.int .u64 0] 43)=w2 at HE BI2 HF2 ⊢;obtain ⟨bx,hbx⟩:∃ bx,w.heap.size+1=bx:=⟨_,rfl⟩;obtain ⟨bi,hbi⟩:∃ bi,w.heap.size=bi:=⟨_,rfl⟩;have HBX:Aside0 (bx=w.heap.size+1∧bi=w.heap.size):=⟨hbx.symm,hbi.symm⟩;rw [hbx] at HE HF2;rw [hbi] at BI2;simp only [hbx];simp only [hbi];clear e1 hbx hbi HS HF BI;have d0:w2.cell? ⟨bi,0,none⟩=some (.int .i64 i.f0):=(z01 BI2.out 0).trans rfl;have d1:w2.cell? ⟨bi,1,none⟩=some (.int .i64 i.f1):=(z01 BI2.out 1).trans rfl;have d2:w2.cell? ⟨bi,2,none⟩=some (.int .i64 i.f2):=(z01 BI2.out 2).trans rfl;have d3:w2.cell? ⟨bi,3,none⟩=some (.int .i64 i.f3):=(z01 BI2.out 3).trans rfl;have d4:w2.cell? ⟨bi,4,none⟩=some (.int .u64 i.f4):=(z01 BI2.out 4).trans rfl
 go_wp2_with (fail)
 refine (each_load HE.out hM.out i hB.out.1 hB.out.2 hC.out.1 hC.out.2).mono ?_;rintro e w3 ⟨⟨b,rfl⟩,hE3⟩;have HF3:Aside0 (Fr w w3 (fun j=>j=mb)):=⟨HF2.out.trans (hE3.fr.mono fun j hj hh=>hh) |>.mono fun j hj hh=>hh.elim (fun h1=>absurd h1 (by have:=HBX.out;omega)) id⟩;have BI3:=Aside0.mk ((hE3.fr.block bi (z0v BI2.out) fun hh=>hh.elim (by have:=HBX.out;omega) (by have:=HBX.out;have:=hML.out.1;omega)).trans BI2.out);obtain ⟨z,hz⟩:=hE3.wx;have cx:w3.cell? ⟨bx,0,none⟩=some (.int .u64 z):=(z01 hz 0).trans rfl;have HS3:=Aside0.mk hE3.st;clear hE3 hz HE HF2 BI2 d0 d1 d2 d3 d4;cases b with
 | false =>
  go_wp2;go_ret
  exact ⟨2,x,rg,ov,os,Y,rfl,HS3.out,fun i hi=>.inl hi,HF3.out.mono (fun i _ hi=>.inr (.inl hi)),fun h=>absurd h (by decide)⟩
 | true =>
  have d0:w3.cell? ⟨bi,0,none⟩=some (.int .i64 i.f0):=(z01 BI3.out 0).trans rfl;have d1:w3.cell? ⟨bi,1,none⟩=some (.int .i64 i.f1):=(z01 BI3.out 1).trans rfl;have d2:w3.cell? ⟨bi,2,none⟩=some (.int .i64 i.f2):=(z01 BI3.out 2).trans rfl;have d3:w3.cell? ⟨bi,3,none⟩=some (.int .i64 i.f3):=(z01 BI3.out 3).trans rfl;have d4:w3.cell? ⟨bi,4,none⟩=some (.int .u64 i.f4):=(z01 BI3.out 4).trans rfl
  go_wp2_with (go_at_call 150;refine (put_reg HS3.out hX.out.1 hX.out.2 i hA.out.1 hA.out.2 _).mono ?_;rintro e w4 ⟨rfl,⟨rg',hm⟩,hf⟩;have HM:=Aside0.mk hm;have HF4:=Aside0.mk hf;clear hm hf)
  go_ret
  exact ⟨0,x+1,_,ov,os,Y,rfl,HM.out,fun i hi=>.inl hi,(HF3.out.mono (fun i _ hi=>.inr (.inl hi))).trans (HF4.out.mono fun i _ hi=>.inl hi),fun _=>⟨HN.out,.inr (Nat.le_refl _)⟩⟩
theorem deed_save {w0 w:World} {r mb m:Nat} {p:Im} {Ai A3 A4 A5:Option Addr} {il ci n3 c3 n4 c4 n5 c5:Nat} {Y:Nat→Prop} {x:Int} {rg:Nat→Int} {ov:Value} {os:List Int} (h:MSt w0 w r mb m p (.slice Ai il ci) (.slice A3 n3 c3) (.slice A4 n4 c4) (.slice A5 n5 c5) Y x rg ov os) (hx0:0≤x) (hx1:x < 256) (i:In) (a0:0≤i.f1) (a7:i.f1≤7) (b0:0≤i.f2) (b7:i.f2≤7) (c0:0≤i.f3) (c8:i.f3≤8) (hm:m≤64) (hn:Nxt p x os (x+1) os) :
  Calls Tryz.prog 120 #[.pointer (some ⟨r,0,none⟩),.agg #[.int .i64 i.f0,.int .i64 i.f1,.int .i64 i.f2,.int .i64 i.f3,.int .u64 i.f4]] w (z1m w0 w r mb m p (.slice Ai il ci) (.slice A3 n3 c3) (.slice A4 n4 c4) (.slice A5 n5 c5) Y x os):=by
 have HS:=Aside0.mk (h.alloc (.cells #[.int .i64 i.f0,.int .i64 i.f1,.int .i64 i.f2,.int .i64 i.f3,.int .u64 i.f4] 79));have HF:Aside0 (Fr w (w.alloc (.cells #[.int .i64 i.f0,.int .i64 i.f1,.int .i64 i.f2,.int .i64 i.f3,.int .u64 i.f4] 79)) (fun j=>j=r)):=⟨z1f w _ _⟩;have BI:=Aside0.mk (z0z w (.cells #[.int .i64 i.f0,.int .i64 i.f1,.int .i64 i.f2,.int .i64 i.f3,.int .u64 i.f4] 79));have hX:=Aside0.mk (And.intro hx0 hx1);have hR:=Aside0.mk h.rlt;have hA:=Aside0.mk (And.intro a0 a7);clear a0 a7;have HN:=Aside0.mk hn;clear hn;have hB:=Aside0.mk (And.intro b0 b7);clear b0 b7;have hC:=Aside0.mk (And.intro c0 c8);have hM:=Aside0.mk hm;have hML:=Aside0.mk (And.intro h.mlt h.lt);clear c0 c8 hm;clear h hx0 hx1
 go_enter Tryz.func120,Tryz.ntmps120
 go_upto_region 1 with (fail)
 have HS1:Aside0 ((w.alloc (.cells #[.int .i64 i.f0,.int .i64 i.f1,.int .i64 i.f2,.int .i64 i.f3,.int .u64 i.f4] 79)).heap.size=w.heap.size+1):=⟨by show (w.heap.push _).size=_;simp⟩;have HW1:Aside0 (Fr w (w.alloc (.cells #[.int .i64 i.f0,.int .i64 i.f1,.int .i64 i.f2,.int .i64 i.f3,.int .u64 i.f4] 79)) (fun _=>False)):=⟨z1f w _ _⟩;generalize w.alloc (.cells #[.int .i64 i.f0,.int .i64 i.f1,.int .i64 i.f2,.int .i64 i.f3,.int .u64 i.f4] 79)=w1 at HS HF BI HS1 HW1 ⊢;generalize hbi:w.heap.size=bi at BI ⊢;have HBI:=Aside0.mk hbi;clear hbi;have hp0:(0≤i.f1)=True:=eq_true hA.out.1;have hp1:(i.f1 < 8)=True:=eq_true (by have:=hA.out;omega);refine z1i (n:=10) (S:=fun w'=>w'.cell? ⟨bi,1,none⟩=some (.int .i64 i.f1)∧w'.cell? ⟨r,8+i.f1.toNat,none⟩=some (.int .u64 (rg i.f1.toNat))) (ds:=[9]) #[zf,zf,zf,zf,zf,zf,zf,zf,zf,zf] (by kernel_rfl) rfl rfl ⟨(z01 BI.out 1).trans rfl,HS.out.reg hA.out.1 hA.out.2⟩ (fun hHeld=>?_);refine pure_ (i:=0) (N:=some 6) (v:=?_) (a':=?_) #[zt,zf,zf,zf,zf,zf,zf,zf,zf,zf] rfl rfl (by kernel_rfl) (fun _ _ _ h=>h) (Or.inl ⟨by rfl,?_⟩) ?_ ?_;rotate_left
 ·intro w';go_simp;with_reducible rfl
 rotate_left
 ·simp only [Act.put,zq1,zq2,zq3,i64_w,i32_w];rfl
 refine pure_ (i:=1) (N:=some 7) (v:=?_) (a':=?_) #[zt,zt,zf,zf,zf,zf,zf,zf,zf,zf] rfl rfl (by kernel_rfl) (fun _ _ _ h=>h) (Or.inl ⟨by rfl,?_⟩) ?_ ?_;rotate_left
 ·intro w';go_simp;with_reducible rfl
 rotate_left
 ·simp only [Act.put,zq1,zq2,zq3,i64_w,i32_w];rfl
 refine pure_ (i:=3) (N:=some 9) (v:=?_) (a':=?_) #[zt,zt,zf,zt,zf,zf,zf,zf,zf,zf] rfl rfl (by kernel_rfl) (fun _ _ _ h=>h) (Or.inl ⟨by rfl,?_⟩) ?_ ?_;rotate_left
 ·intro w';go_simp;with_reducible rfl
 rotate_left
 ·simp only [Act.put,zq1,zq2,zq3,i64_w,i32_w];rfl
 refine pure_ (i:=4) (N:=some 10) (v:=?_) (a':=?_) #[zt,zt,zf,zt,zt,zf,zf,zf,zf,zf] rfl rfl (by kernel_rfl) (fun _ _ _ h=>h) (Or.inl ⟨by rfl,?_⟩) ?_ ?_;rotate_left
 ·intro w';go_simp;with_reducible rfl
 rotate_left
 ·simp only [Act.put,zq1,zq2,zq3,i64_w,i32_w];rfl
 refine pure_ (i:=5) (N:=some 11) (v:=?_) (a':=?_) #[zt,zt,zf,zt,zt,zt,zf,zf,zf,zf] rfl rfl (by kernel_rfl) (fun _ _ _ h=>h) (Or.inl ⟨by rfl,?_⟩) ?_ ?_;rotate_left
 ·intro w';go_simp;with_reducible rfl
 rotate_left
 ·simp only [Act.put,zq1,zq2,zq3,i64_w,i32_w];rfl
 refine take_ (i:=2) (N:=some 8) (v:=?_) (a':=?_) #[zt,zt,zt,zt,zt,zt,zf,zf,zf,zf] rfl rfl (by kernel_rfl) (fun _ _ _ h=>h) (Or.inl ⟨by rfl,?_⟩) hHeld ?_ ?_;rotate_left
 ·rintro w' ⟨s0,s1⟩;go_simp;with_reducible rfl
 rotate_left
 ·simp only [Act.put,zq1,zq2,zq3,i64_w,i32_w];rfl
 refine pure_ (i:=6) (N:=some 12) (v:=?_) (a':=?_) #[zt,zt,zt,zt,zt,zt,zt,zf,zf,zf] rfl rfl (by kernel_rfl) (fun _ _ _ h=>h) (Or.inl ⟨by rfl,?_⟩) ?_ ?_;rotate_left
 ·intro w';go_simp;with_reducible rfl
 rotate_left
 ·simp only [Act.put,zq1,zq2,zq3,i64_w,i32_w];rfl
 refine take_ (i:=7) (N:=some 13) (v:=?_) (a':=?_) #[zt,zt,zt,zt,zt,zt,zt,zt,zf,zf] rfl rfl (by kernel_rfl) (fun _ _ _ h=>h) (Or.inl ⟨by rfl,?_⟩) hHeld ?_ ?_;rotate_left
 ·rintro w' ⟨s0,s1⟩;go_simp;with_reducible rfl
 rotate_left
 ·simp only [Act.put,zq1,zq2,zq3,i64_w,i32_w];rfl
 refine one_ (i:=8) (N:=some 5) #[zt,zt,zt,zt,zt,zt,zt,zt,zt,zf] rfl rfl (by kernel_rfl) (by decide) (fun K hK=>?_);refine z19 (w1:=?_) (v:=?_) (by rfl) rfl ?_ ?_;rotate_left 2
 ·go_simp;constructor
  ·rfl
  ·rfl
 refine hK.out _ _ ⟨(z01 (z06 (z09 BI.out) _) 1).trans rfl,(HS.out.drew.alloc _).reg hA.out.1 hA.out.2⟩ (fun hHeld=>?_);clear hK K;refine norm_ (a':=?_) ?_ ?_;rotate_left
 ·show Act.put _ (some 5) _=_;simp only [Act.put,zq1,zq2,zq3,i64_w,i32_w];rfl
 refine last_ (i:=9) (N:=none) #[zt,zt,zt,zt,zt,zt,zt,zt,zt,zt] rfl rfl (by kernel_rfl) (by decide) (fun K hK=>?_);refine skip_ (w1:=?_) (by rfl) rfl ?_ ?_;rotate_left
 ·go_simp;rfl
 refine hK.out _ _ ?_;clear hK K;refine done_ (by kernel_rfl) ?_;obtain ⟨z0,hz0⟩:∃ z,rg i.f1.toNat=z:=⟨_,rfl⟩;rw [hz0];have HE:Aside0 (ESt w0 (w1.alloc (.cells #[.int .u64 z0] 43)).drew (w1.alloc (.cells #[.int .u64 z0] 43)).drew r mb m p (.slice Ai il ci) (.slice A3 n3 c3) (.slice A4 n4 c4) (.slice A5 n5 c5) Y x rg ov os w1.heap.size) :=
  ⟨(HS.out.alloc _).drew,⟨z0,z09 (z0z w1 (.cells #[.int .u64 z0] 43))⟩,by
   have h1:=hR.out;have h2:=hML.out.1;have h3:=hML.out.2;have h4:=HS.out.bel.size;have h5:=HS1.out;exact ⟨h4,by omega,by omega,fun hy=>by have:=h3 _ hy;omega⟩,Fr.refl _ _⟩
 have BI2:=Aside0.mk (z09 (z06 BI.out (.cells #[.int .u64 z0] 43)));have HF2:Aside0 (Fr w (w1.alloc (.cells #[.int .u64 z0] 43)).drew (fun j=>j=w1.heap.size∨j=mb)):=⟨z2e ((HW1.out.mono fun j _ hj=>hj.elim).trans (z1f w1 (.cells #[.int .u64 z0] 43) _))⟩;generalize (w1.alloc (.cells #[.int .u64 z0] 43)).drew=w2 at HE BI2 HF2 ⊢;obtain ⟨bx,hbx⟩:∃ bx,w1.heap.size=bx:=⟨_,rfl⟩;have HBX:Aside0 (bx=w.heap.size+1∧bi=w.heap.size):=⟨hbx.symm.trans HS1.out,HBI.out.symm⟩;rw [hbx] at HE HF2;simp only [hbx];clear hbx HS HF BI hp0 hp1 hz0 hHeld HS1 HBI;have d0:w2.cell? ⟨bi,0,none⟩=some (.int .i64 i.f0):=(z01 BI2.out 0).trans rfl;have d1:w2.cell? ⟨bi,1,none⟩=some (.int .i64 i.f1):=(z01 BI2.out 1).trans rfl;have d2:w2.cell? ⟨bi,2,none⟩=some (.int .i64 i.f2):=(z01 BI2.out 2).trans rfl;have d3:w2.cell? ⟨bi,3,none⟩=some (.int .i64 i.f3):=(z01 BI2.out 3).trans rfl;have d4:w2.cell? ⟨bi,4,none⟩=some (.int .u64 i.f4):=(z01 BI2.out 4).trans rfl
 go_wp2_with (fail)
 refine (each_save HE.out hM.out i hB.out.1 hB.out.2 hC.out.1 hC.out.2).mono ?_;rintro e w3 ⟨⟨b,rfl⟩,hE3⟩;have HF3:Aside0 (Fr w w3 (fun j=>j=mb)):=⟨HF2.out.trans (hE3.fr.mono fun j hj hh=>hh) |>.mono fun j hj hh=>hh.elim (fun h1=>absurd h1 (by have:=HBX.out;omega)) id⟩;have BI3:=Aside0.mk ((hE3.fr.block bi (z0v BI2.out) fun hh=>hh.elim (by have:=HBX.out;omega) (by have:=HBX.out;have:=hML.out.1;omega)).trans BI2.out);obtain ⟨z,hz⟩:=hE3.wx;have cx:w3.cell? ⟨bx,0,none⟩=some (.int .u64 z):=(z01 hz 0).trans rfl;have HS3:=Aside0.mk hE3.st;clear hE3 hz HE HF2 BI2 d0 d1 d2 d3 d4;cases b with
 | false =>
  go_wp2;go_ret
  exact ⟨2,x,rg,ov,os,Y,rfl,HS3.out,fun i hi=>.inl hi,HF3.out.mono (fun i _ hi=>.inr (.inl hi)),fun h=>absurd h (by decide)⟩
 | true =>
  have c7:w3.cell? ⟨r,7,none⟩=some (.int .i64 x):=(HS3.out.cell 7).trans rfl;have f7:=HS3.out.frozen 7;have hwr:IntKind.i64.wrap (x+1)=x+1:=IntWalk.i64_in _ (by have:=hX.out;omega);go_wp2;go_ret
  exact ⟨0,x+1,_,ov,os,Y,rfl,HS3.out.setPlace _,fun i hi=>.inl hi,(HF3.out.mono (fun i _ hi=>.inr (.inl hi))).trans ((z1k w3 _ _).mono fun i _ hi=>.inl hi),fun _=>⟨HN.out,.inr (Nat.le_refl _)⟩⟩
def dV (k j:Nat):Value:=if j < 3+k then .func (.func 128) #[] #[] else .nilFunc
def DC (k:Nat):Array Value:=#[.func (.func 116) #[] #[],.func (.func 117) #[] #[],.func (.func 118) #[] #[],dV k 3,dV k 4,dV k 5,dV k 6,dV k 7,dV k 8,dV k 9,dV k 10,dV k 11,dV k 12,dV k 13,dV k 14,dV k 15,dV k 16,.func (.func 119) #[] #[],.func (.func 120) #[] #[],.func (.func 121) #[] #[],.func (.func 122) #[] #[],.func (.func 123) #[] #[],.func (.func 124) #[] #[],.func (.func 125) #[] #[],.func (.func 126) #[] #[],.func (.func 127) #[] #[]]
theorem dc_set:∀ k:Nat,k < 14→(DC k).setIfInBounds (3+k) (.func (.func 128) #[] #[])=DC (k+1)∧(DC k)[3+k]?=some .nilFunc:=by
 intro k hk;have:k=0∨k=1∨k=2∨k=3∨k=4∨k=5∨k=6∨k=7∨k=8∨k=9∨k=10∨k=11∨k=12∨k=13:=by omega
 rcases this with rfl|rfl|rfl|rfl|rfl|rfl|rfl|rfl|rfl|rfl|rfl|rfl|rfl|rfl <;> exact ⟨rfl,rfl⟩
theorem dc_one0:(DC 0).all (·.oneCell')=true:=by simp [DC,dV,Value.oneCell']
theorem dc_one14:(DC 14).all (·.oneCell')=true:=by simp [DC,dV,Value.oneCell']
theorem deeds_calls (w:World):Calls Tryz.prog 91 #[] w fun e w'=>e=.returned (.agg (DC 14))∧Below w.heap.size w w':=by
 go_enter Tryz.func91,Tryz.ntmps91
 go_upto_region 1 with (fail)
 have B0:=Aside0.mk (z0z w (.cells #[Value.nilFunc,Value.nilFunc,Value.nilFunc,Value.nilFunc,Value.nilFunc,Value.nilFunc,Value.nilFunc,Value.nilFunc,Value.nilFunc,Value.nilFunc,Value.nilFunc,Value.nilFunc,Value.nilFunc,Value.nilFunc,Value.nilFunc,Value.nilFunc,Value.nilFunc,Value.nilFunc,Value.nilFunc,Value.nilFunc,Value.nilFunc,Value.nilFunc,Value.nilFunc,Value.nilFunc,Value.nilFunc,Value.nilFunc] 136));have HB:=Aside0.mk (z04 (Below.refl w.heap.size w) (.cells #[Value.nilFunc,Value.nilFunc,Value.nilFunc,Value.nilFunc,Value.nilFunc,Value.nilFunc,Value.nilFunc,Value.nilFunc,Value.nilFunc,Value.nilFunc,Value.nilFunc,Value.nilFunc,Value.nilFunc,Value.nilFunc,Value.nilFunc,Value.nilFunc,Value.nilFunc,Value.nilFunc,Value.nilFunc,Value.nilFunc,Value.nilFunc,Value.nilFunc,Value.nilFunc,Value.nilFunc,Value.nilFunc,Value.nilFunc] 136));have e1:(w.alloc (.cells #[Value.nilFunc,Value.nilFunc,Value.nilFunc,Value.nilFunc,Value.nilFunc,Value.nilFunc,Value.nilFunc,Value.nilFunc,Value.nilFunc,Value.nilFunc,Value.nilFunc,Value.nilFunc,Value.nilFunc,Value.nilFunc,Value.nilFunc,Value.nilFunc,Value.nilFunc,Value.nilFunc,Value.nilFunc,Value.nilFunc,Value.nilFunc,Value.nilFunc,Value.nilFunc,Value.nilFunc,Value.nilFunc,Value.nilFunc] 136)).heap.size=w.heap.size+1:=by show (w.heap.push _).size=_;simp
 have HE1:=Aside0.mk e1;generalize w.alloc (.cells #[Value.nilFunc,Value.nilFunc,Value.nilFunc,Value.nilFunc,Value.nilFunc,Value.nilFunc,Value.nilFunc,Value.nilFunc,Value.nilFunc,Value.nilFunc,Value.nilFunc,Value.nilFunc,Value.nilFunc,Value.nilFunc,Value.nilFunc,Value.nilFunc,Value.nilFunc,Value.nilFunc,Value.nilFunc,Value.nilFunc,Value.nilFunc,Value.nilFunc,Value.nilFunc,Value.nilFunc,Value.nilFunc,Value.nilFunc] 136)=w1 at B0 HB HE1 ⊢;clear e1;obtain ⟨b0,hb0⟩:∃ b0,w.heap.size=b0:=⟨_,rfl⟩;rw [hb0] at B0 HE1;simp only [hb0];have HB0:=Aside0.mk hb0;clear hb0
 iterate 5 (go_step;go_simp)
 refine wpList_store_row rfl 136 (.tmp 1) (.tmp 3) rfl w1.heap.size (DC 0) rfl rfl 136 _ (z0z w1 _) (by kernel_rfl) rfl dc_one0 ?_;go_wp2;have B1:=Aside0.mk (setRow_heap (w1.alloc (.cells #[Value.nilFunc,Value.nilFunc,Value.nilFunc,Value.nilFunc,Value.nilFunc,Value.nilFunc,Value.nilFunc,Value.nilFunc,Value.nilFunc,Value.nilFunc,Value.nilFunc,Value.nilFunc,Value.nilFunc,Value.nilFunc,Value.nilFunc,Value.nilFunc,Value.nilFunc,Value.nilFunc,Value.nilFunc,Value.nilFunc,Value.nilFunc,Value.nilFunc,Value.nilFunc,Value.nilFunc,Value.nilFunc,Value.nilFunc] 136)) w1.heap.size _ (DC 0) _ _ (z0z w1 _));have B0':Aside0 (((w1.alloc (.cells #[Value.nilFunc,Value.nilFunc,Value.nilFunc,Value.nilFunc,Value.nilFunc,Value.nilFunc,Value.nilFunc,Value.nilFunc,Value.nilFunc,Value.nilFunc,Value.nilFunc,Value.nilFunc,Value.nilFunc,Value.nilFunc,Value.nilFunc,Value.nilFunc,Value.nilFunc,Value.nilFunc,Value.nilFunc,Value.nilFunc,Value.nilFunc,Value.nilFunc,Value.nilFunc,Value.nilFunc,Value.nilFunc,Value.nilFunc] 136)).setRow w1.heap.size (DC 0)).heap[b0]?=some (.cells #[Value.nilFunc,Value.nilFunc,Value.nilFunc,Value.nilFunc,Value.nilFunc,Value.nilFunc,Value.nilFunc,Value.nilFunc,Value.nilFunc,Value.nilFunc,Value.nilFunc,Value.nilFunc,Value.nilFunc,Value.nilFunc,Value.nilFunc,Value.nilFunc,Value.nilFunc,Value.nilFunc,Value.nilFunc,Value.nilFunc,Value.nilFunc,Value.nilFunc,Value.nilFunc,Value.nilFunc,Value.nilFunc,Value.nilFunc] 136 (0,0))) :=
  ⟨(setRow_other _ w1.heap.size b0 (DC 0) (by have:=z0v B0.out;omega)).trans (z06 B0.out _)⟩
 have HB':Aside0 (Below w.heap.size w ((w1.alloc (.cells #[Value.nilFunc,Value.nilFunc,Value.nilFunc,Value.nilFunc,Value.nilFunc,Value.nilFunc,Value.nilFunc,Value.nilFunc,Value.nilFunc,Value.nilFunc,Value.nilFunc,Value.nilFunc,Value.nilFunc,Value.nilFunc,Value.nilFunc,Value.nilFunc,Value.nilFunc,Value.nilFunc,Value.nilFunc,Value.nilFunc,Value.nilFunc,Value.nilFunc,Value.nilFunc,Value.nilFunc,Value.nilFunc,Value.nilFunc] 136)).setRow w1.heap.size (DC 0))):=⟨below_setRow (z04 HB.out _) HB.out.size _⟩;have H01:Aside0 (b0≠w1.heap.size∧w.heap.size≤b0∧w.heap.size≤w1.heap.size):=⟨by have:=z0v B0.out;omega,by have:=HB0.out;omega,HB.out.size⟩;generalize (w1.alloc (.cells #[Value.nilFunc,Value.nilFunc,Value.nilFunc,Value.nilFunc,Value.nilFunc,Value.nilFunc,Value.nilFunc,Value.nilFunc,Value.nilFunc,Value.nilFunc,Value.nilFunc,Value.nilFunc,Value.nilFunc,Value.nilFunc,Value.nilFunc,Value.nilFunc,Value.nilFunc,Value.nilFunc,Value.nilFunc,Value.nilFunc,Value.nilFunc,Value.nilFunc,Value.nilFunc,Value.nilFunc,Value.nilFunc,Value.nilFunc] 136)).setRow w1.heap.size (DC 0)=w2 at B1 B0' HB' ⊢;clear B0 HB HE1;generalize w1.heap.size=b1 at B1 H01 ⊢
 go_loopw [2] (fun v2 wr=>∃ k:Nat,v2=.int .i64 (3+(k:Int))∧Aside0 (k≤14)∧Aside0 (wr.heap[b1]?=some (.cells (DC k) 136 (0,0)))∧Aside0 (wr.heap[b0]?=some (.cells #[Value.nilFunc,Value.nilFunc,Value.nilFunc,Value.nilFunc,Value.nilFunc,Value.nilFunc,Value.nilFunc,Value.nilFunc,Value.nilFunc,Value.nilFunc,Value.nilFunc,Value.nilFunc,Value.nilFunc,Value.nilFunc,Value.nilFunc,Value.nilFunc,Value.nilFunc,Value.nilFunc,Value.nilFunc,Value.nilFunc,Value.nilFunc,Value.nilFunc,Value.nilFunc,Value.nilFunc,Value.nilFunc,Value.nilFunc] 136 (0,0)))∧Aside0 (Below w.heap.size w wr)) (fun v _=>17 - (intOf v).toNat)
 case atStart=>exact ⟨0,rfl,⟨by omega⟩,B1,B0',HB'⟩
 case round =>
  clear B1 B0' HB';obtain ⟨k,rfl,hk,hB1,hB0,hBl⟩:=hrel;have hk:=hk.out
  by_cases hlt:k < 14
  ·have hkd:decide (3+(k:Int)≤16)=true:=decide_eq_true (by omega);have hwr:IntKind.i64.wrap (3+(k:Int)+1)=3+((k:Int)+1):=by rw [IntWalk.i64_in _ (by omega)];omega
   have hp0:(0≤3+(k:Int))=True:=eq_true (by omega);have hp1:(3+(k:Int) < 26)=True:=eq_true (by omega);have hn:(3+(k:Int)).toNat=3+k:=by omega
   have hc:=(z01 hB1.out (3+k)).trans (dc_set k hlt).2;have hf:=z02 hB1.out (3+k);have HB3:Aside0 ((wr.setCell ⟨b1,3+k,none⟩ (.func (.func 128) #[] #[])).heap[b1]?=some (.cells (DC (k+1)) 136 (0,0))):=⟨by rw [z1v hB1.out (3+k) _,(dc_set k hlt).1]⟩;have HB4:Aside0 ((wr.setCell ⟨b1,3+k,none⟩ (.func (.func 128) #[] #[])).heap[b0]?=some (.cells #[Value.nilFunc,Value.nilFunc,Value.nilFunc,Value.nilFunc,Value.nilFunc,Value.nilFunc,Value.nilFunc,Value.nilFunc,Value.nilFunc,Value.nilFunc,Value.nilFunc,Value.nilFunc,Value.nilFunc,Value.nilFunc,Value.nilFunc,Value.nilFunc,Value.nilFunc,Value.nilFunc,Value.nilFunc,Value.nilFunc,Value.nilFunc,Value.nilFunc,Value.nilFunc,Value.nilFunc,Value.nilFunc,Value.nilFunc] 136 (0,0))):=⟨((z1k wr ⟨b1,3+k,none⟩ _).block b0 (z0v hB0.out) H01.out.1).trans hB0.out⟩;have HB5:Aside0 (Below w.heap.size w (wr.setCell ⟨b1,3+k,none⟩ (.func (.func 128) #[] #[]))):=⟨z07 hBl.out H01.out.2.2⟩;have hst:(store ⟨b1,3+k,none⟩ (.func (.func 128) #[] #[])).run Tryz.prog wr=.ok () (wr.setCell ⟨b1,3+k,none⟩ (.func (.func 128) #[] #[])):=by
    rw [run_store _ _ _ _ _ rfl,hc];simp [hf]
   clear hB1 hB0 hBl;go_wp2
   go_roundw
   case rel=>exact ⟨k+1,by go_num,⟨by omega⟩,HB3,HB4,HB5⟩
   case measure=>simp [intOf];omega
  ·have hkd:decide (3+(k:Int)≤16)=false:=decide_eq_false (by omega);obtain rfl:k=14:=by omega
   go_wp2_with (first|(refine wpList_load_row rfl 136 (.tmp 1) rfl b1 rfl 136 (DC 14) _ _ hB1.out rfl rfl (by kernel_rfl) ?_)|(refine wpList_store_row rfl 136 (.tmp 0) (.tmp 10) rfl b0 (DC 14) rfl rfl 136 _ hB0.out (by kernel_rfl) rfl dc_one14 ?_))
   refine bodyPost_ret (results_cell_row rfl _ _ b0 136 (DC 14) _ _ rfl (setRow_heap _ _ _ _ _ _ hB0.out) rfl rfl (by kernel_rfl)) rfl ?_;exact ⟨rfl,below_setRow hBl.out H01.out.2.1 _⟩
end Go.Proofs.YtcbnhfnnjkkceaaGreat.X
end
section
namespace Go.Proofs.YtcbnhfnnjkkceaaGreat.X
open Go.RowKit Go.Proofs.YtcbnhfnnjkkceaaGreatW.PrintWords Go.Proofs.YtcbnhfnnjkkceaaGreatW.PrintLast Go.Proofs.YtcbnhfnnjkkceaaGreatW.PrintMore Go.Proofs.YtcbnhfnnjkkceaaGreat.Gr Go.ChangeMaps Go.MapKept Go.ChangeShapes
structure MkSt (w:World) (b1 g:Nat) (p:Im) (dv fv cv:Value) (m j:Nat) (b:Nat→Nat) (w':World):Prop where
 box:w'.heap[b1]?=some (.cells #[.pointer (some ⟨g,0,none⟩)] 29 (0,0))
 cells:w'.heap[g]?=some (.cells (z1p p dv fv cv 0 1 (fun t=>.map (if t < j then some (b t) else none))) 97 (0,0))
 maps:∀ t,t < 4→m.testBit t=true→w'.heap[b t]?=some (.map #[] 0)∧w.heap.size+1≤b t
 apart:∀ s t,s < 4→t < 4→m.testBit s=true→m.testBit t=true→b s=b t→s=t
 fr:Fr w w' (fun i=>i=g)
 size:w.heap.size+1≤w'.heap.size
 here:b1=w.heap.size
 old:g < w.heap.size
 hav:∀ t,t < j→m.testBit t=true
theorem MkSt.make {w w':World} {b1 g:Nat} {p:Im} {dv fv cv:Value} {m m' j:Nat} {b:Nat→Nat} (h:MkSt w b1 g p dv fv cv m j b w') (t:Nat) (ht:t < 4) (hm:m.testBit t=false) (hm':m'=m ||| (1 <<< t)) :
  MkSt w b1 g p dv fv cv m' j (fun s=>if s=t then w'.heap.size else b s) (w'.alloc (.map #[] 0)):=by
 have hbit:∀ s,m'.testBit s=(m.testBit s || decide (t=s)):=fun s=>by
  rw [hm',Nat.testBit_or,Nat.one_shiftLeft,Nat.testBit_two_pow]
 have hgrow:=Below.heap_alloc w' (.map #[] 0);refine ⟨z06 h.box _,?_,fun s hs hb=>?_,fun s r hs hr hb1 hb2 e=>?_,h.fr.trans (Fr.of_grown (World.grownBy_alloc w' (.map #[] 0) none) (by simp)),Nat.le_trans h.size (by show _≤(w'.heap.push _).size;simp),h.here,h.old,fun s hs=>by rw [hbit,h.hav s hs];rfl⟩
 ·have h0:=z06 h.cells (.map #[] 0);rw [h0]
  congr 3
  funext s
  by_cases hs:s < j
  ·rw [if_pos hs,if_pos hs,if_neg (fun e=>by have:=h.hav s hs;rw [e,hm] at this;cases this)]
  ·rw [if_neg hs,if_neg hs]
 ·by_cases e:s=t
  ·simp only [e,if_pos];exact ⟨z0z w' _,h.size⟩
  ·simp only [if_neg e];rw [hbit] at hb;have hb':m.testBit s=true:=by simpa [Ne.symm e] using hb
   obtain ⟨h1,h2⟩:=h.maps s hs hb';exact ⟨z06 h1 _,h2⟩
 ·rw [hbit] at hb1 hb2
  by_cases e1:s=t
  ·by_cases e2:r=t
   ·rw [e1,e2]
   ·simp only [e1,if_pos,if_neg e2] at e;have hb':m.testBit r=true:=(by simpa [Ne.symm e2] using hb2);have:=z0v (h.maps r hr hb').1;omega
  ·by_cases e2:r=t
   ·simp only [e2,if_pos,if_neg e1] at e;have hb':m.testBit s=true:=(by simpa [Ne.symm e1] using hb1);have:=z0v (h.maps s hs hb').1;omega
   ·simp only [if_neg e1,if_neg e2] at e;exact h.apart s r hs hr (by simpa [Ne.symm e1] using hb1) (by simpa [Ne.symm e2] using hb2) e
theorem MkSt.drew {w w':World} {b1 g:Nat} {p:Im} {dv fv cv:Value} {m j:Nat} {b:Nat→Nat} (h:MkSt w b1 g p dv fv cv m j b w'):MkSt w b1 g p dv fv cv m j b w'.drew :=
 ⟨h.box,h.cells,h.maps,h.apart,⟨h.fr.os,h.fr.tape,h.fr.output,h.fr.size,h.fr.block⟩,h.size,h.here,h.old,h.hav⟩
theorem grCells_set (p:Im) (dv fv cv:Value) (done st:Int) (m:Nat→Value) (t:Nat) (ht:t < 4) (v:Value):(z1p p dv fv cv done st m).setIfInBounds (9+t) v=z1p p dv fv cv done st (fun s=>if s=t then v else m s):=by
 rcases t with _|_|_|_|t
 ·rfl
 ·rfl
 ·rfl
 ·rfl
 ·omega
theorem MkSt.store {w w':World} {b1 g:Nat} {p:Im} {dv fv cv:Value} {m j:Nat} {b:Nat→Nat} (h:MkSt w b1 g p dv fv cv m j b w') (t:Nat) (ht:t < 4) (hj:j=t) (hm:m.testBit t=true) :
  MkSt w b1 g p dv fv cv m (t+1) b (w'.setCell ⟨g,9+t,none⟩ (.map (some (b t)))):=by
 subst hj;have hne:∀ i,i≠g→(w'.setCell ⟨g,9+j,none⟩ (.map (some (b j)))).heap[i]?=w'.heap[i]?:=fun i hi=>Below.heap_setCell w' ⟨g,9+j,none⟩ _ i hi
 have hb1:b1≠g:=by have:=h.here;have:=h.old;omega
 refine ⟨(hne b1 hb1).trans h.box,?_,fun s hs hb=>?_,h.apart,h.fr.trans ⟨rfl,rfl,rfl,by simp [World.setCell],fun i _ hi=>hne i hi⟩,by have:=h.size;simp [World.setCell];omega,h.here,h.old,fun s hs=>?_⟩
 ·have h0:=z1v h.cells (9+j) (.map (some (b j)));rw [h0,grCells_set _ _ _ _ _ _ _ _ ht]
  congr 3
  funext s
  by_cases e:s=j
  ·rw [if_pos e,e,if_pos (by omega)]
  ·by_cases hs:s < j
   ·rw [if_neg e,if_pos hs,if_pos (by omega)]
   ·rw [if_neg e,if_neg hs,if_neg (by omega)]
 ·obtain ⟨h1,h2⟩:=h.maps s hs hb;exact ⟨(hne (b s) (by have:=h.old;omega)).trans h1,h2⟩
 ·by_cases e:s=j
  ·rw [e];exact hm
  ·exact h.hav s (by omega)
theorem MkSt.tab {w w':World} {b1 g:Nat} {p:Im} {dv fv cv:Value} {b:Nat→Nat} (h:MkSt w b1 g p dv fv cv 15 4 b w'):Tab Tryz.prog 3 w' (w.heap.size+1) b 0 (fun _ _=>nilS) (fun _ _=>[]) ∧
  w'.heap[g]?=some (.cells (z1p p dv fv cv 0 1 (fun t=>.map (some (b t)))) 97 (0,0)):=by
 have hbit:∀ t,t < 4→(15:Nat).testBit t=true:=fun t ht=>by
  rcases t with _|_|_|_|t
  ·decide
  ·decide
  ·decide
  ·decide
  ·omega
 refine ⟨⟨fun t ht=>?_,fun s t hs ht e=>h.apart s t hs ht (hbit s hs) (hbit t ht) e,fun t ht=>(h.maps t ht (hbit t ht)).2,fun t x _ _=>World.ownsInts_nil _ _ _ _,fun _ _ _ _ _ _ _ _ _=>.inl rfl,fun _ _ _ _=>Nat.le_refl _⟩,?_⟩
 ·have hb:=(h.maps t ht (hbit t ht)).1;exact ⟨.map [],⟨#[],0,hb,⟨by simp,stamped_empty 0,by simp⟩,Nat.le_refl _,rfl⟩,fun _ _=>rfl⟩
 ·rw [h.cells];rfl
structure MkW (w:World) (g B0:Nat) (p:Im) (dv fv cv:Value) (bs:Nat→Nat) (wr:World):Prop where
 box:wr.heap[w.heap.size]?=some (.cells #[.pointer (some ⟨g,0,none⟩)] 29 (0,0))
 cells:wr.heap[g]?=some (.cells (z1p p dv fv cv 0 1 (fun t=>.map (some (bs t)))) 97 (0,0))
 grp:GrP wr B0 p dv fv cv
 old:∀ k,dv.ownBlock=some k∨fv.ownBlock=some k∨cv.ownBlock=some k→k < w.heap.size
 fr:Fr w wr (fun i=>i=g∨w.heap.size+1≤i)
 size:w.heap.size+1≤wr.heap.size
 lt:g < w.heap.size
theorem GrP.keep {w w1:World} {B:Nat} {p:Im} {dv fv cv:Value} (h:GrP w B p dv fv cv) (hk:∀ k,dv.ownBlock=some k∨fv.ownBlock=some k∨cv.ownBlock=some k→w1.heap[k]?=w.heap[k]?):GrP w1 B p dv fv cv :=
 ⟨z38 rfl h.d fun k e=>hk k (.inl e),z38 rfl h.f fun k e=>hk k (.inr (.inl e)),z38 rfl h.c fun k e=>hk k (.inr (.inr e))⟩
theorem GrP.ne {w:World} {B g:Nat} {p:Im} {dv fv cv:Value} (h:GrP w B p dv fv cv) {c:Array Value} (hg:w.heap[g]?=some (.cells c 97 (0,0))) {k:Nat} (hk:dv.ownBlock=some k∨fv.ownBlock=some k∨cv.ownBlock=some k):k < w.heap.size∧k≠g:=by
 have:∃ c t,w.heap[k]?=some (.cells c t (0,0))∧t≠97:=by
  rcases hk with hk|hk|hk
  ·obtain ⟨c,hc⟩:=Kd.R_typed h.d k hk;exact ⟨c,_,hc,by decide⟩
  ·obtain ⟨c,hc⟩:=Kd.R_typed h.f k hk;exact ⟨c,_,hc,by decide⟩
  ·obtain ⟨c,hc⟩:=Kd.R_typed h.c k hk;exact ⟨c,_,hc,by decide⟩
 obtain ⟨c',t,hc,ht⟩:=this;refine ⟨z0v hc,fun e=>?_⟩;rw [e,hg] at hc;cases hc;exact ht rfl
theorem MkW.step {w wr w1:World} {g B0:Nat} {p:Im} {dv fv cv:Value} {bs:Nat→Nat} (h:MkW w g B0 p dv fv cv bs wr) (hf:Fr wr w1 (fun i=>w.heap.size+1≤i)):MkW w g B0 p dv fv cv bs w1 :=
 ⟨(hf.block _ (z0v h.box) (by omega)).trans h.box,(hf.block _ (z0v h.cells) (by have:=h.lt;omega)).trans h.cells,h.grp.keep fun k hk=>hf.block k (h.grp.ne h.cells hk).1 (by have:=h.old k hk;omega),
  h.old,h.fr.trans (hf.mono fun i _ hi=>.inr hi),Nat.le_trans h.size hf.size,h.lt⟩
theorem MkW.below {w wr w1:World} {g B0:Nat} {p:Im} {dv fv cv:Value} {bs:Nat→Nat} (h:MkW w g B0 p dv fv cv bs wr) (hb:Below wr.heap.size wr w1):MkW w g B0 p dv fv cv bs w1 :=
 h.step ((Fr.of_below hb).mono fun i hi hi2=>by omega)
theorem MkSt.mkw {w w':World} {g B0:Nat} {p:Im} {dv fv cv:Value} {b:Nat→Nat} (h:MkSt w w.heap.size g p dv fv cv 15 4 b w') (hg:w.heap[g]?=some (.cells (z1p p dv fv cv 0 1 (fun _=>.map none)) 97 (0,0))) (hp:GrP w B0 p dv fv cv):MkW w g B0 p dv fv cv b w' :=
 ⟨h.box,h.tab.2,hp.keep fun k hk=>h.fr.block k (hp.ne hg hk).1 (hp.ne hg hk).2,fun k hk=>(hp.ne hg hk).1,h.fr.mono fun i _ hi=>.inl hi,h.size,h.old⟩
theorem z2g {B:Nat} {a w:World} (h:Below B a w) (n:Nat):Below B a (w.drewN n):=h.trans ⟨rfl,rfl,rfl,Nat.le_refl _,fun _ _=>rfl⟩
theorem ints_R {w:World} {base:Nat} {v:Value} {zs:List Int} (h:w.ownsInts base 3 .i64 v zs):Kd.R (Kd.int .i64) 3 w base (fun _=>True) v zs:=by
 refine ⟨fun _ _=>trivial,zs.map (Value.int .i64),h.1,by simp [Kd.int,Kd.scalar],fun j p hj=>?_⟩;have hl:=(List.getElem?_eq_some_iff.1 hj).1;show (List.take 1 (List.drop (j * 1) (zs.map (Value.int .i64))))=[Value.int .i64 p];rw [Nat.mul_one,List.drop_eq_getElem_cons (by simpa using hl),List.take_succ_cons,List.take_zero,List.getElem_map,(List.getElem?_eq_some_iff.1 hj).2]
def endPost (P:Program) (fn:Func) (R:Ending→World→Prop):Exit→Act→World→Prop
 | .normal,a,w|.ret,a,w=>Leaves P fn a.tmps R a.defers .returning w
 | _,_,_=>False
theorem calls_of_wp_ends {P:Program} {f:FuncId} {fn:Func} {c:Code} {args:Array Value} {w:World} {R:Ending→World→Prop} (hf:P.funcs[f]?=some fn) (hb:fn.body=some c)
  (h:c.wp P (endPost P fn R) { tmps:=args ++ Array.replicate (fn.ntmps - args.size) undef,defers:=[] } w):Calls P f args w R :=
 calls_of_wp_defers hf hb (wp_mono h fun e a w he=>by cases e <;> first|exact he|exact he.elim)
end Go.Proofs.YtcbnhfnnjkkceaaGreat.X
end
section
namespace Go.Proofs.YtcbnhfnnjkkceaaGreat.X
open Go.RowKit Go.Proofs.YtcbnhfnnjkkceaaGreatW.PrintWords Go.Proofs.YtcbnhfnnjkkceaaGreatW.PrintLast Go.Proofs.YtcbnhfnnjkkceaaGreatW.PrintMore Go.Proofs.YtcbnhfnnjkkceaaGreat.Gr
theorem goesC_ {P : Program} {ops : Array Oper} {Q : Exit → Act → World → Prop} {oi : Oper} {N : Option Tmp} {a : Act} {w : World} {K : Act → World → Prop} {f : FuncId} {fn : Func} {tt : Operand} {cap : Array Value} {aas : Array Operand} {ts : Array TypeId} (hf : P.funcs[f]? = some fn) (hname : (fn.name == "runtime.NumGoroutine") = false) (hb : fn.body.isSome = true) (args : Array Value)
  (hw:Region.wanted oi (yielded ops a.tmps)=true) (hN:oi.dst=N) (hop:oi.op=.call { callee:=.value tt,args:=aas,argTypes:=ts }) (ht:a.eval tt=.func (.func f) #[] cap) (hargs:aas.map a.eval ++ cap=args)
  (h:Calls P f args w fun e w'=>∃ v,e=.returned v∧K (a.put N v) w'):if Region.wanted oi (yielded ops a.tmps)=true then Oper.wp P oi a w K Q else K (a.put N undef) w:=by
 refine call_ f args hw hN ?_ h;have he:=enters_ hf hname hb args w;unfold execOp;simp [hop,resolve,Deferred.ofValue,invoke,ht,hargs,he]
end Go.Proofs.YtcbnhfnnjkkceaaGreat.X
end
