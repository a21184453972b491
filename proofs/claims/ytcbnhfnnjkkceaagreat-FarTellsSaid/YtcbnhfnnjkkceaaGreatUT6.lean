/- For the statement of the row : what its proof needs of the text T6. -/
import Derived.Test.YtcbnhfnnjkkceaaGreatUT1
import Derived.Test.YtcbnhfnnjkkceaaGreatUT2
import Derived.Test.YtcbnhfnnjkkceaaGreatUT3
import Derived.Test.YtcbnhfnnjkkceaaGreatUT4
import Derived.Test.YtcbnhfnnjkkceaaGreatUT5
set_option maxHeartbeats 8000000
set_option maxRecDepth 100000
set_option linter.unusedSectionVars false
set_option linter.unusedSimpArgs false
set_option linter.unusedVariables false

section
namespace Go.Proofs.YtcbnhfnnjkkceaaGreat.X
open Go.RowKit Go.Proofs.YtcbnhfnnjkkceaaGreatW.PrintWords Go.Proofs.YtcbnhfnnjkkceaaGreat.Gr
theorem kept_some (k:Nat) (a b c d e x:Int):∃ r,z16.f (k+2) a b c d e x=some r:=by
 unfold z16.f
 split <;> (rw [z16.j0];split <;> (rw [z16.j1];split <;> split <;> exact ⟨_,rfl⟩))
theorem reg_some (a:Int):∃ b,z1t.f a=some b:=by
 unfold z1t.f
 split <;> exact ⟨_,rfl⟩
theorem wrong_j3 (k:Nat) (x57:Bool) (a b c d e a' b' c' d' e':Int):∃ r,z0n.j3 (k+1) x57 a b c d e a' b' c' d' e'=some r:=by
 rw [z0n.j3]
 split
 ·exact ⟨_,rfl⟩
 ·split <;> exact ⟨_,rfl⟩
theorem wrong_j2 (k:Nat) (x3:Int) (x5 x45:Bool) (a b c d e a' b' c' d' e':Int):∃ r,z0n.j2 (k+2) x3 x5 x45 a b c d e a' b' c' d' e'=some r:=by
 rw [z0n.j2];obtain ⟨t,ht⟩:=reg_some d;rw [ht];simp only [Option.bind_some]
 repeat' split
 all_goals first|exact ⟨_,rfl⟩|exact wrong_j3 k _ _ _ _ _ _ _ _ _ _ _
theorem wrong_j1 (k:Nat) (x3:Int) (x5 x33:Bool) (a b c d e a' b' c' d' e':Int):∃ r,z0n.j1 (k+3) x3 x5 x33 a b c d e a' b' c' d' e'=some r:=by
 rw [z0n.j1];obtain ⟨t,ht⟩:=reg_some c;rw [ht];simp only [Option.bind_some]
 repeat' split
 all_goals first|exact ⟨_,rfl⟩|exact wrong_j2 k _ _ _ _ _ _ _ _ _ _ _ _ _
theorem wrong_j0 (k:Nat) (x3:Int) (x5:Bool) (a b c d e a' b' c' d' e':Int):∃ r,z0n.j0 (k+4) x3 x5 a b c d e a' b' c' d' e'=some r:=by
 rw [z0n.j0];obtain ⟨t,ht⟩:=reg_some b;rw [ht];simp only [Option.bind_some]
 repeat' split
 all_goals exact wrong_j1 k _ _ _ _ _ _ _ _ _ _ _ _ _
theorem forms_some:∃ l,z2t.f=some l∧l.length=26:=⟨_,rfl,rfl⟩
theorem wrong_some (k:Nat) (a b c d e:Int) (h0:0≤a) (h1:a≤25):∃ r,z0n.f (k+4) a b c d e=some r:=by
 obtain ⟨l,hl,hn⟩:=forms_some;unfold z0n.f;rw [hl,Option.bind_some,if_pos h0,if_pos (by rw [hn];omega)];obtain ⟨t,ht⟩:=kept_some (k+2) a b c d e ((z1g l a).f1);rw [ht,Option.bind_some]
 repeat' split
 all_goals exact wrong_j0 k _ _ _ _ _ _ _ _ _ _ _ _
theorem put_l0:∀ (n k:Nat) (x4:List Int) (a b c d e:Int),n≤8→n < k→x4.length+n≤100→∃ r,z1h.l0 k x4 (8 * (n:Int) - 8) a b c d e=some (r,0)∧r.length=x4.length+n
 | 0,k,x4,a,b,c,d,e,_,hk,hx=>by
  obtain ⟨k,rfl⟩:∃ j,k=j+1:=⟨k - 1,by omega⟩;rw [z1h.l0,if_neg (by omega)];exact ⟨_,rfl,rfl⟩
 | n+1,k,x4,a,b,c,d,e,hn,hk,hx=>by
  obtain ⟨k,rfl⟩:∃ j,k=j+1:=⟨k - 1,by omega⟩;rw [z1h.l0,if_pos (by omega),if_pos (by omega),if_pos (by omega),show wrap64 (8 * ((n+1:Nat):Int) - 8 - 8)=8 * (n:Int) - 8 by unfold wrap64;omega];obtain ⟨r,hr,hl⟩:=put_l0 n k (x4 ++ [(shr .u64 e (8 * ((n+1:Nat):Int) - 8)) % 256]) a b c d e (by omega) (by omega) (by simp;omega);exact ⟨r,hr,by rw [hl];simp;omega⟩
theorem put_some (a b c d e:Int):∃ r er,z1h.f 20 a b c d e=some (r,er)∧r.length≤12∧(er=0→0≤a∧a≤25):=by
 unfold z1h.f z2i.f
 by_cases h0:a ≥ 0
 ·rw [if_pos h0,Option.bind_some]
  by_cases h1:a≤25
  ·rw [if_pos (decide_eq_true h1)];obtain ⟨t,ht⟩:=wrong_some 16 a b c d e h0 h1;rw [ht,Option.bind_some]
   split
   ·obtain ⟨r,hr,hl⟩:=put_l0 8 20 [a % 256,b % 256,c % 256,d % 256] a b c d e (by omega) (by omega) (by simp);exact ⟨r,0,hr,by rw [hl];simp,fun _=>⟨h0,h1⟩⟩
   ·exact ⟨_,_,rfl,by simp,fun h=>by simp at h⟩
  ·rw [if_neg (by simpa using h1)];exact ⟨_,_,rfl,by simp,fun h=>by simp at h⟩
 ·rw [if_neg h0,Option.bind_some];exact ⟨_,_,rfl,by simp,fun h=>by simp at h⟩
def putV (i:In):List Int × Int:=(z1h.f 20 i.f0 i.f1 i.f2 i.f3 i.f4).getD ([],0)
theorem put_f (i:In) {k:Nat} (hk:20≤k):z1h.f k i.f0 i.f1 i.f2 i.f3 i.f4=some (putV i):=by
 obtain ⟨r,er,h,_⟩:=put_some i.f0 i.f1 i.f2 i.f3 i.f4;have:putV i=(r,er):=by unfold putV;rw [h];rfl
 rw [this];exact at_rounds (fun k=>z1h.mono i.f0 i.f1 i.f2 i.f3 i.f4 k) hk h
theorem putV_len (i:In):(putV i).1.length≤12:=by
 obtain ⟨r,er,h,hl,_⟩:=put_some i.f0 i.f1 i.f2 i.f3 i.f4;have:putV i=(r,er):=by unfold putV;rw [h];rfl
 rw [this];exact hl
def firstE (p:Im):List In→Int
 | []=>if z23 (z26 p.f4 p.f5) (z1s p.f5.length) ≥ 0 then 7 else 0
 | i :: r=>if (putV i).2=0 then firstE p r else (putV i).2
theorem enc_l1 (p:Im) (hf:Fits p.f4 p.f5.length):∀ (d k x:Nat) (x4:List Int),x+d=p.f5.length→d+21≤k→x4.length≤1000+12 * x →
  ∃ r,z0v.l1 k x4 p.f5 (p.f5.length:Int) x p.f0 p.f1 p.f2 p.f3 p.f4 p.f5=some (r,firstE p (p.f5.drop x))
 | 0,k,x,x4,hx,hk,hl=>by
  obtain ⟨k,rfl⟩:∃ j,k=j+1:=⟨k - 1,by omega⟩;rw [z0v.l1,if_neg (by omega)];unfold z2x.f;rw [if_pos hf,Option.bind_some,List.drop_eq_nil_of_le (by omega)];unfold firstE
  split <;> exact ⟨_,rfl⟩
 | d+1,k,x,x4,hx,hk,hl=>by
  obtain ⟨k,rfl⟩:∃ j,k=j+1:=⟨k - 1,by omega⟩;have hlt:x < p.f5.length:=by omega
  have h256:=hf.2.2.1;rw [z0v.l1,if_pos (by omega),if_pos (by omega),if_pos (by omega),put_f _ (by omega),Option.bind_some,List.drop_eq_getElem_cons hlt];have e:z06 p.f5 x=p.f5[x]:=by
   unfold z06;simp [List.getD_eq_getElem?_getD,List.getElem?_eq_getElem hlt]
  rw [e];have hpl:=putV_len p.f5[x];unfold firstE
  split
  ·rw [if_pos (by omega),show wrap64 ((x:Int)+1)=((x+1:Nat):Int) by unfold wrap64;omega];exact enc_l1 p hf d k (x+1) _ (by omega) (by omega) (by rw [List.length_append];omega)
  ·exact ⟨_,rfl⟩
theorem enc_l0 (p:Im) (hf:Fits p.f4 p.f5.length):∀ (d k x:Nat) (x4:List Int),x+d=p.f4.length→d+300≤k→x4.length≤200+2 * x →
  ∃ r,z0v.l0 k x4 p.f4 (p.f4.length:Int) x p.f0 p.f1 p.f2 p.f3 p.f4 p.f5=some (r,firstE p p.f5)
 | 0,k,x,x4,hx,hk,hl=>by
  obtain ⟨k,rfl⟩:∃ j,k=j+1:=⟨k - 1,by omega⟩;have h16:=hf.2.1;have h256:=hf.2.2.1;rw [z0v.l0,if_neg (by omega),Option.bind_some,if_pos (by simp;omega)];exact enc_l1 p hf p.f5.length k 0 _ (by omega) (by omega) (by simp;omega)
 | d+1,k,x,x4,hx,hk,hl=>by
  obtain ⟨k,rfl⟩:∃ j,k=j+1:=⟨k - 1,by omega⟩;have h16:=hf.2.1;rw [z0v.l0,if_pos (by omega),if_pos (by omega),if_pos (by omega),Option.bind_some,if_pos (by simp;omega),show wrap64 ((x:Int)+1)=((x+1:Nat):Int) by unfold wrap64;omega];exact enc_l0 p hf d k (x+1) _ (by omega) (by omega) (by simp;omega)
def z2p (p:Im):Prop:=(0≤p.f0∧p.f0≤64)∧(0≤p.f1∧p.f1≤16)∧(0≤p.f2∧p.f2≤16)∧(p.f3.length:Int)≤p.f0∧(1≤p.f4.length∧p.f4.length≤16)∧rd p.f4 0=0 ∧
 (∀ j:Nat,j < p.f4.length - 1→rd p.f4 j < rd p.f4 (j+1))∧wrap64 (rd p.f4 ((p.f4.length:Int) - 1)+1)≤p.f5.length∧p.f5.length≤256
theorem within_f (a lo hi:Int):z0q.f a lo hi=some (decide (lo≤a∧a≤hi)):=by
 unfold z0q.f
 by_cases h:a ≥ lo
 ·rw [if_pos h];simp [h]
 ·rw [if_neg h];simp [h]
theorem rd_drop1 (l:List Int) (x:Nat) (h:x < l.length - 1):rd (l.drop 1) x=rd l ((x:Int)+1):=by
 unfold rd;rw [show ((x:Int)+1).toNat=x+1 by omega,Int.toNat_natCast,List.getD_eq_getElem?_getD,List.getD_eq_getElem?_getD,List.getElem?_drop,Nat.add_comm 1 x]
theorem sizes_l0 (p:Im) (h16:p.f4.length≤16) (h1:1≤p.f4.length):∀ (d k x:Nat),x+d=p.f4.length - 1→d < k →
  ∃ b,z0p.l0 k (p.f4.drop 1) ((p.f4.drop 1).length:Int) x p.f0 p.f1 p.f2 p.f3 p.f4 p.f5=some b ∧
   (b=true↔(∀ j:Nat,x≤j→j < p.f4.length - 1→rd p.f4 j < rd p.f4 (j+1))∧wrap64 (rd p.f4 ((p.f4.length:Int) - 1)+1)≤p.f5.length∧p.f5.length≤256)
 | 0,k,x,hx,hk=>by
  obtain ⟨k,rfl⟩:∃ j,k=j+1:=⟨k - 1,by omega⟩;rw [z0p.l0,if_neg (by rw [List.length_drop];omega),show wrap64 ((p.f4.length:Int) - 1)=(p.f4.length:Int) - 1 by unfold wrap64;omega,if_pos (by omega),if_pos (by omega),within_f,Option.bind_some];refine ⟨_,rfl,?_⟩;rw [decide_eq_true_eq];exact ⟨fun h=>⟨fun j h2 h3=>by omega,h.1,by omega⟩,fun h=>⟨h.2.1,by omega⟩⟩
 | d+1,k,x,hx,hk=>by
  obtain ⟨k,rfl⟩:∃ j,k=j+1:=⟨k - 1,by omega⟩;rw [z0p.l0,if_pos (by rw [List.length_drop];omega),if_pos (by omega),if_pos (by rw [List.length_drop];omega),if_pos (by omega),rd_drop1 p.f4 x (by omega)]
  by_cases h:rd p.f4 ((x:Int)+1)≤rd p.f4 x
  ·rw [if_pos h];refine ⟨_,rfl,fun h2=>by simp at h2,fun h2=>?_⟩;have:=h2.1 x (Nat.le_refl _) (by omega);omega
  ·rw [if_neg h,show wrap64 ((x:Int)+1)=((x+1:Nat):Int) by unfold wrap64;omega];obtain ⟨b,hb,hi⟩:=sizes_l0 p h16 h1 d k (x+1) (by omega) (by omega);refine ⟨b,hb,hi.trans ⟨fun h2=>⟨fun j h3 h4=>?_,h2.2⟩,fun h2=>⟨fun j h3 h4=>h2.1 j (by omega) h4,h2.2⟩⟩⟩
   by_cases e:j=x
   ·subst e;omega
   ·exact h2.1 j (by omega) h4
theorem sizes_f (p:Im) {k:Nat} (hk:20≤k):∃ b,z0p.f k p.f0 p.f1 p.f2 p.f3 p.f4 p.f5=some b∧(b=true↔z2p p):=by
 obtain ⟨k,rfl⟩:∃ j,k=j+1:=⟨k - 1,by omega⟩;have hj:z0p.j0 (k+1) true p.f0 p.f1 p.f2 p.f3 p.f4 p.f5=some false:=by rw [z0p.j0,if_pos rfl]
 have hno:¬ z2p p→∃ b,some false=some b∧(b=true↔z2p p):=fun h=>⟨false,rfl,fun e=>by simp at e,fun e=>absurd e h⟩
 unfold z0p.f;rw [within_f,Option.bind_some]
 by_cases c0:0≤p.f0∧p.f0≤64
 ·rw [if_pos (decide_eq_true c0),within_f,Option.bind_some]
  by_cases c1:0≤p.f1∧p.f1≤16
  ·rw [if_pos (decide_eq_true c1),within_f,Option.bind_some]
   by_cases c2:0≤p.f2∧p.f2≤16
   ·rw [if_pos (decide_eq_true c2)]
    by_cases c3:(p.f3.length:Int) > p.f0
    ·rw [if_pos c3,hj];exact hno fun h=>by have:=h.2.2.2.1;omega
    ·rw [if_neg c3,within_f,Option.bind_some]
     by_cases c4:1≤(p.f4.length:Int)∧(p.f4.length:Int)≤16
     ·rw [if_pos (decide_eq_true c4),if_pos (by omega),z0p.j0]
      by_cases c5:rd p.f4 0=0
      ·rw [if_neg (by simp [c5]),if_pos (by omega)];obtain ⟨b,hb,hi⟩:=sizes_l0 p (by omega) (by omega) (p.f4.length - 1) k 0 (by omega) (by omega);refine ⟨b,hb,hi.trans ⟨fun h=>⟨c0,c1,c2,by omega,⟨by omega,by omega⟩,c5,fun j hj=>h.1 j (by omega) hj,h.2.1,h.2.2⟩,fun h=>⟨fun j _ hj=>h.2.2.2.2.2.2.1 j hj,h.2.2.2.2.2.2.2.1,h.2.2.2.2.2.2.2.2⟩⟩⟩
      ·rw [if_pos (by simpa using c5)];exact hno fun h=>c5 h.2.2.2.2.2.1
     ·rw [if_neg (by simpa using c4),hj];exact hno fun h=>c4 ⟨by have:=h.2.2.2.2.1.1;omega,by have:=h.2.2.2.2.1.2;omega⟩
   ·rw [if_neg (by simpa using c2),hj];exact hno fun h=>c2 h.2.2.1
  ·rw [if_neg (by simpa using c1),hj];exact hno fun h=>c1 h.2.1
 ·rw [if_neg (by simpa using c0),hj];exact hno fun h=>c0 h.1
theorem z2p.mono {p:Im} (h:z2p p):∀ (d i:Nat),i+d < p.f4.length→rd p.f4 i≤rd p.f4 ((i+d:Nat):Int)
 | 0,i,_=>by simp
 | d+1,i,hi=>by
  have h1:=z2p.mono h d i (by omega);have h2:=h.2.2.2.2.2.2.1 (i+d) (by omega);rw [show ((i+(d+1):Nat):Int)=((i+d:Nat):Int)+1 by omega];omega
def wfF (p:Im):Prop:=∀ z ∈ p.f4,-9223372036854775808≤z∧z≤9223372036854775807
theorem z2p.fits {p:Im} (h:z2p p) (hw:wfF p):Fits p.f4 p.f5.length:=by
 refine ⟨h.2.2.2.2.1.1,h.2.2.2.2.1.2,h.2.2.2.2.2.2.2.2,h.2.2.2.2.2.1,fun j hj=>⟨?_,?_⟩⟩
 ·have:=z2p.mono h j 0 (by omega);rw [Nat.zero_add] at this;have h0:=h.2.2.2.2.2.1;simp only [Int.natCast_zero] at this;omega
 ·have:rd p.f4 j ∈ p.f4:=by
   unfold rd;rw [Int.toNat_natCast,List.getD_eq_getElem?_getD,List.getElem?_eq_getElem hj];exact List.getElem_mem hj
  exact (hw _ this).2
open Classical in
noncomputable def encV (p:Im):Int:=if z2p p then firstE p p.f5 else 3
theorem enc_f (p:Im) (hw:wfF p):∃ r,z0v.f 700 p.f0 p.f1 p.f2 p.f3 p.f4 p.f5=some (r,encV p):=by
 obtain ⟨b,hb,hi⟩:=sizes_f p (k:=700) (by omega);unfold z0v.f encV;rw [hb,Option.bind_some]
 by_cases h:z2p p
 ·rw [if_pos (hi.2 h),if_pos h,Option.bind_some,Option.bind_some];have h3:p.f3.length≤64:=by have:=h.1;have:=h.2.2.2.1;omega
  rw [if_pos (by simp),Option.bind_some,if_pos (by simp;omega),Option.bind_some,Option.bind_some,if_pos (by simp;omega)];have:=h.2.2.2.2.1;exact enc_l0 p (h.fits hw) p.f4.length 700 0 _ (by omega) (by omega) (by simp;omega)
 ·rw [if_neg (fun e=>h (hi.1 e)),if_neg h];exact ⟨_,rfl⟩
theorem firstP_none {α:Type} (q:α→Bool):∀ l:List α,z23 q l < 0→∀ x ∈ l,q x=false
 | [],_,x,hx=>by simp at hx
 | c :: r,h,x,hx=>by
  unfold z23 at h
  by_cases hc:q c=true
  ·rw [if_pos hc] at h;omega
  ·rw [if_neg hc] at h
   by_cases hr:z23 q r < 0
   ·rcases List.mem_cons.1 hx with e|e
    ·rw [e]
     simpa using hc
    ·exact firstP_none q r hr x e
   ·rw [if_neg hr] at h;omega
theorem firstP_some {α:Type} (q:α→Bool):∀ l:List α,(∀ x ∈ l,q x=false)→z23 q l < 0
 | [],_=>by simp [z23]
 | c :: r,h=>by
  unfold z23;rw [if_neg (by simp [h c (by simp)]),if_pos (firstP_some q r fun x hx=>h x (List.mem_cons_of_mem _ hx))];omega
theorem firstE_zero {p:Im}:∀ {l:List In},firstE p l=0↔(∀ i ∈ l,(putV i).2=0)∧∀ x ∈ z1s p.f5.length,z26 p.f4 p.f5 x=false
 | []=>by
  unfold firstE;constructor
  ·intro h
   split at h
   ·omega
   ·rename_i h1
    exact ⟨by simp,firstP_none _ _ (by omega)⟩
  ·intro h;rw [if_neg];have:=firstP_some _ _ h.2;omega
 | i :: r=>by
  unfold firstE;constructor
  ·intro h
   split at h
   ·rename_i h1
    have:=(firstE_zero (l:=r)).1 h;exact ⟨fun j hj=>(List.mem_cons.1 hj).elim (fun e=>e ▸ h1) (this.1 j),this.2⟩
   ·rename_i h1
    exact absurd h h1
  ·intro h;rw [if_pos (h.1 i (by simp))];exact (firstE_zero (l:=r)).2 ⟨fun j hj=>h.1 j (List.mem_cons_of_mem _ hj),h.2⟩
theorem z2v {p:Im}:encV p=0↔z2p p∧(∀ i ∈ p.f5,(putV i).2=0)∧∀ x ∈ z1s p.f5.length,z26 p.f4 p.f5 x=false:=by
 unfold encV
 by_cases h:z2p p
 ·rw [if_pos h,firstE_zero];exact ⟨fun h2=>⟨h,h2⟩,fun h2=>h2.2⟩
 ·rw [if_neg h];exact ⟨fun h2=>by omega,fun h2=>absurd h2.1 h⟩
def wfP (p:Im):Prop:=wfF p∧∀ i ∈ p.f5,0≤i.f4
theorem rdI_mem {l:List In} {x:Int} (h0:0≤x) (h1:x < l.length):z06 l x ∈ l:=by
 unfold z06;rw [List.getD_eq_getElem?_getD,List.getElem?_eq_getElem (by omega)];exact List.getElem_mem _
theorem encV_rt {p:Im} (hw:wfP p) (h:encV p=0):Rt p:=by
 obtain ⟨hs,hp,hst⟩:=z2v.1 h;have hf:=hs.fits hw.1;refine ⟨hf,fun x h0 h1 ho=>?_,fun x h0 h1 ho=>?_⟩
 ·have:=hst x (z2e.2 ⟨h0,h1⟩);unfold z26 z2s at this;rw [Bool.or_eq_false_iff] at this;have h2:=this.2;rw [if_pos ho] at h2;simp only [Bool.or_eq_false_iff,decide_eq_false_iff_not] at h2;have hfp:=funP_in hf h0 h1;have hlo:=rd_fits hf hfp.1 hfp.2;have hhi:=hiP_fits hf hfp.1;unfold loP at h2;show 0≤(z06 p.f5 x).f4∧(z06 p.f5 x).f4≤9223372036854775807;omega
 ·have:=hst x (z2e.2 ⟨h0,h1⟩);unfold z26 z2s at this;rw [Bool.or_eq_false_iff] at this;have h2:=this.2;have ho':(z06 p.f5 x).f0=23:=ho;rw [if_neg (by rw [ho'];decide),if_pos ho'] at h2;simp only [decide_eq_false_iff_not] at h2;have:=hw.2 _ (rdI_mem h0 h1);show 0≤(z06 p.f5 x).f4∧(z06 p.f5 x).f4 < _;omega
def z2l (p:Im):Prop:=rd p.f4 ((p.f4.length:Int) - 1) < p.f5.length
theorem fun_in {p:Im} (hs:z2p p) (hl:z2l p) {f:Int} (h0:0≤f) (h1:f < p.f4.length):rd p.f4 f < p.f5.length:=by
 have h:=hs.mono (p.f4.length - 1 - f.toNat) f.toNat (by omega);unfold z2l at hl;rw [show ((f.toNat:Nat):Int)=f by omega,show ((f.toNat+(p.f4.length - 1 - f.toNat):Nat):Int)=(p.f4.length:Int) - 1 by omega] at h;omega
theorem hi_in {p:Im} (hs:z2p p) (hl:z2l p) {f:Int} (h0:0≤f):hiP p.f4 p.f5.length f≤p.f5.length:=by
 unfold hiP
 split
 ·rename_i h
  exact Int.le_of_lt (fun_in hs hl (by omega) h)
 ·exact Int.le_refl _
theorem next_in {p:Im} (hw:wfP p) (h:encV p=0) (hl:z2l p) {v:Int} (hv:0≤v∧v < p.f5.length):∀ u ∈ nextL p v,0≤u∧u < p.f5.length:=by
 intro u hu;obtain ⟨hs,hp,hst⟩:=z2v.1 h;have hf:=hs.fits hw.1;have goes:∀ x:Int,0≤x→x < p.f5.length→goesB (z06 p.f5 x).f0=true→x+1 < p.f5.length:=fun x hx0 hx1 hg=>by
  have:=hst x (z2e.2 ⟨hx0,hx1⟩);unfold z26 z2s at this;rw [Bool.or_eq_false_iff,hg,Bool.true_and] at this;have h2:=this.1;simp only [decide_eq_false_iff_not] at h2;have:=hi_in hs hl (funP_in hf hx0 hx1).1;omega
 have jumps:(z06 p.f5 v).f0=21∨(z06 p.f5 v).f0=22→0≤(z06 p.f5 v).f4∧(z06 p.f5 v).f4 < p.f5.length:=fun ho=>by
  have:=hst v (z2e.2 hv);unfold z26 z2s at this;rw [Bool.or_eq_false_iff] at this;have h2:=this.2;rw [if_pos ho] at h2;simp only [Bool.or_eq_false_iff,decide_eq_false_iff_not] at h2;have hfp:=funP_in hf hv.1 hv.2;have hlo:=rd_fits hf hfp.1 hfp.2;have hhi:=hi_in hs hl hfp.1;unfold loP at h2;omega
 have hu:=(mem_uniq u _).1 hu;unfold outL at hu;rw [if_pos hv] at hu;simp only at hu
 by_cases h21:(z06 p.f5 v).f0=21
 ·rw [if_pos h21] at hu;have:u=(z06 p.f5 v).f4:=by simpa using hu
  have:=jumps (.inl h21);omega
 rw [if_neg h21] at hu
 by_cases h22:(z06 p.f5 v).f0=22
 ·rw [if_pos h22] at hu;have hj:=jumps (.inr h22);have hg:=goes v hv.1 hv.2 (by rw [h22];rfl);have:u=(z06 p.f5 v).f4∨u=v+1:=by simpa using hu
  omega
 rw [if_neg h22] at hu
 by_cases h23:(z06 p.f5 v).f0=23
 ·rw [if_pos h23] at hu;have hc:=(encV_rt hw h).cal v hv.1 hv.2 h23;have hc:0≤(z06 p.f5 v).f4∧(z06 p.f5 v).f4 < p.f4.length:=hc;have:u=rd p.f4 (z06 p.f5 v).f4:=by simpa using hu
  have h1:=rd_fits hf hc.1 hc.2;have h2:=fun_in hs hl hc.1 hc.2;omega
 rw [if_neg h23] at hu
 by_cases h24:(z06 p.f5 v).f0=24
 ·rw [if_pos h24] at hu;obtain ⟨z,hz,rfl⟩:=List.mem_map.1 hu;obtain ⟨h0,h1,h2,_⟩:=mem_sites.1 hz;have h2:(z06 p.f5 z).f0=23:=h2;have:=goes z h0 h1 (by rw [h2];rfl);omega
 rw [if_neg h24] at hu
 by_cases hg:goesB (z06 p.f5 v).f0=true
 ·rw [if_pos hg] at hu;have:=goes v hv.1 hv.2 hg;have:u=v+1:=by simpa using hu
  omega
 ·rw [if_neg hg] at hu;simp at hu
theorem mem_prev {p:Im} {v u:Int}:u ∈ prevL p v↔(0≤u∧u < p.f5.length)∧v ∈ nextL p u:=by
 unfold prevL nextL;rw [List.mem_filter,z2e,z2y,mem_uniq]
theorem prev_in {p:Im} {v:Int}:∀ u ∈ prevL p v,0≤u∧u < p.f5.length:=fun u hu=>(mem_prev.1 hu).1
theorem far_next_prev {p:Im} (u v:Int) (hu:0≤u∧u < p.f5.length):v ∈ nextL p u↔u ∈ prevL p v:=by
 rw [mem_prev];exact ⟨fun h=>⟨hu,h⟩,fun h=>h.2⟩
end Go.Proofs.YtcbnhfnnjkkceaaGreat.X
end
section
namespace Go.Proofs.YtcbnhfnnjkkceaaGreat.X
open Go.RowKit Go.Proofs.YtcbnhfnnjkkceaaGreatW.PrintWords Go.Proofs.YtcbnhfnnjkkceaaGreatW.PrintLast Go.Proofs.YtcbnhfnnjkkceaaGreatW.PrintMore
attribute [local go_sem] z29 z2b z2g z2h z1y z1x z2a z27
def z0s.j0:Nat→Int→Int→Bool→Int→Int→Int→List Int→List Int→List (S79)→Option (Bool)
 | 0,_,_,_,_,_,_,_,_,_=>none
 | k+1,x1,x2,x27,xaa,xab,xac,xad,xae,xaf=>if x27=true then (some false) else (if 0≤x1 then (if x1 < (xaf.length:Int) then (if ((z06 xaf x1).f0)=21 then (some (x2 == (wrap64 ((z06 xaf x1).f4)))) else (if ((z06 xaf x1).f0)=22 then (if x2=(wrap64 ((z06 xaf x1).f4)) then (some true) else (some (x2 == (wrap64 (x1+1))))) else (if ((z06 xaf x1).f0)=23 then (if 0≤((z06 xaf x1).f4) then (if ((z06 xaf x1).f4) < (xae.length:Int) then (some (x2 == (rd xae ((z06 xaf x1).f4)))) else (none)) else (none)) else (if ((z06 xaf x1).f0)=24 then (if x2 > 0 then (if 0≤(wrap64 (x2 - 1)) then (if (wrap64 (x2 - 1)) < (xaf.length:Int) then (if ((z06 xaf (wrap64 (x2 - 1))).f0)=23 then ((z0i.f k xaa xab xac xad xae xaf x1).bind fun t253=>(some ((wrap64 ((z06 xaf (wrap64 (x2 - 1))).f4)) == t253))) else (some false)) else (none)) else (none)) else (some false)) else ((z1n.f ((z06 xaf x1).f0)).bind fun t254=>(if t254=true then (some (x2 == (wrap64 (x1+1)))) else (some false))))))) else (none)) else (none))
def z0s.f (k:Nat) (a0_0:Int) (a0_1:Int) (a0_2:Int) (l0_3:List Int) (l0_4:List Int) (l0_5:List (S79)) (a1:Int) (a2:Int):Option (Bool):=if a1 < 0 then (z0s.j0 k a1 a2 true a0_0 a0_1 a0_2 l0_3 l0_4 l0_5) else (if a1 ≥ (l0_5.length:Int) then (z0s.j0 k a1 a2 true a0_0 a0_1 a0_2 l0_3 l0_4 l0_5) else (if a2 < 0 then (z0s.j0 k a1 a2 true a0_0 a0_1 a0_2 l0_3 l0_4 l0_5) else (z0s.j0 k a1 a2 (decide (a2 ≥ (l0_5.length:Int))) a0_0 a0_1 a0_2 l0_3 l0_4 l0_5)))
theorem z0s.mono_l:∀ k,(∀ y0 y1 y2 y3 y4 y5 y6 y7 y8,LeO (z0s.j0 k y0 y1 y2 y3 y4 y5 y6 y7 y8) (z0s.j0 (k+1) y0 y1 y2 y3 y4 y5 y6 y7 y8))
 | 0=>fun _ _ _ _ _ _ _ _ _ r h=>by simp [z0s.j0] at h
 | k+1=>by
  have ih0:=z0s.mono_l k
  ·intro y0 y1 y2 y3 y4 y5 y6 y7 y8;unfold z0s.j0
   repeat' first|exact ih0 _ _ _ _ _ _ _ _ _|exact z0i.mono _ _ _ _ _ _ _ _|exact LeO.none _|refine LeO.ite ?_ ?_|refine LeO.bind ?_ (fun _=>?_)|exact LeO.refl _
theorem z0s.mono:∀ a0 a1 a2 a3 a4 a5 a6 a7 k,LeO (z0s.f k a0 a1 a2 a3 a4 a5 a6 a7) (z0s.f (k+1) a0 a1 a2 a3 a4 a5 a6 a7):=by
 intro a0 a1 a2 a3 a4 a5 a6 a7 k;have ih0:=z0s.mono_l k;unfold z0s.f
 repeat' first|exact ih0 _ _ _ _ _ _ _ _ _|exact z0i.mono _ _ _ _ _ _ _ _|exact LeO.none _|refine LeO.ite ?_ ?_|refine LeO.bind ?_ (fun _=>?_)|exact LeO.refl _
def z0s.T12:Bool × List (List Nat × List Nat):=(true,[([],[]),([0],[0]),([1],[1]),([2],[2]),([3,2],[2,3]),([2],[2]),([5,2],[2,5]),([4,6,2],[2,4,6]),([7,2],[2,7]),([8,2],[2,8]),([9,2],[2,9]),([2,10],[2,10]),([11,2],[11]),([12],[12]),([13,12],[12,13]),([12],[12]),([15,12],[12,15]),([14,16,12],[12,14,16]),([17,12],[12,17]),([18,12],[12,18]),([19,12],[12,19]),([12],[12]),([12],[12]),([21,22,12,12],[12,21,22]),([20,23,12],[12,20,23]),([12,24],[12,24]),([25,23,0,1,2,3,4,5,6,7,8,9,10,11,12,13,14,15,16,17,18,19,20,21,22,23,24,25],[25])])
def z0s.B12:List Nat:=[0,1,3,7,15,7,39,127,255,511,1023,2047,4095,8191,16383,8191,40959,131071,262143,524287,1048575,8191,8191,6299647,16777215,33554431,67108863]
theorem z0s.tab12:rtab .any (opsOf Tryz.f61 12)=z0s.T12:=by kernel_rfl
theorem z0s.bits12:waitsOk z0s.T12.2 z0s.B12=true:=by kernel_rfl
theorem z0s.calls (k:Nat) (a0_0:Int) (a0_1:Int) (a0_2:Int) (A0_3:Option Addr) (c0_3:Nat) (l0_3:List Int) (A0_4:Option Addr) (c0_4:Nat) (l0_4:List Int) (A0_5:Option Addr) (c0_5:Nat) (l0_5:List (S79)) (a1:Int) (a2:Int) (r:Bool) (w:World) (hr0_3:Kd.C (Kd.int .u8) w A0_3 l0_3.length l0_3) (hc0_3:l0_3.length≤c0_3) (hr0_4:Kd.C (Kd.int .i64) w A0_4 l0_4.length l0_4) (hc0_4:l0_4.length≤c0_4) (hr0_5:Kd.C k79 w A0_5 l0_5.length l0_5) (hc0_5:l0_5.length≤c0_5) (h:z0s.f k a0_0 a0_1 a0_2 l0_3 l0_4 l0_5 a1 a2=some r) :
  Calls Tryz.prog 61 #[.agg #[.int .i64 a0_0,.int .i64 a0_1,.int .i64 a0_2,.slice A0_3 l0_3.length c0_3,.slice A0_4 l0_4.length c0_4,.slice A0_5 l0_5.length c0_5],.int .i64 a1,.int .i64 a2] w fun e w'=>e=.returned (.bool r)∧Below w.heap.size w w':=by
 have hu26:=Tryz.underlying26;have hu79:=Tryz.underlying79;have HR0_3:=Aside0.mk hr0_3;have HC0_3:=Aside0.mk hc0_3;clear hr0_3 hc0_3;have HR0_4:=Aside0.mk hr0_4;have HC0_4:=Aside0.mk hc0_4;clear hr0_4 hc0_4;have HR0_5:=Aside0.mk hr0_5;have HC0_5:=Aside0.mk hc0_5;clear hr0_5 hc0_5;have HB:=Aside0.mk (Below.refl w.heap.size w);have H:(if a1 < 0 then (z0s.j0 k a1 a2 true a0_0 a0_1 a0_2 l0_3 l0_4 l0_5) else (if a1 ≥ (l0_5.length:Int) then (z0s.j0 k a1 a2 true a0_0 a0_1 a0_2 l0_3 l0_4 l0_5) else (if a2 < 0 then (z0s.j0 k a1 a2 true a0_0 a0_1 a0_2 l0_3 l0_4 l0_5) else (z0s.j0 k a1 a2 (decide (a2 ≥ (l0_5.length:Int))) a0_0 a0_1 a0_2 l0_3 l0_4 l0_5))))=some r:=h;clear h;have HC4:=Aside0.mk H;clear H
 go_enter Tryz.func61,Tryz.ntmps61
 go_upto_region 1 with (first|((with_reducible refine z12 (N:=3) rfl ?_);(try (refine z1p (by rfl) ?_;dsimp only));refine z17 ?hg (N:=3) ?hd (cs:=#[.int .i64 a0_0,.int .i64 a0_1,.int .i64 a0_2,.slice A0_3 l0_3.length c0_3,.slice A0_4 l0_4.length c0_4,.slice A0_5 l0_5.length c0_5]) (t:=26) ?hr ?_;(case hd=>rfl);(case hg=>rfl);(case hr=>first|(go_simp;done)|(go_simp;rfl));intro gb247 hg w5 hbox hb;have n0_:=Aside0.mk (z0o (by repeat (first|exact HB.out|apply z04|apply z03|apply z05)) hb);have n1_:=Aside0.mk (hbox);have n2_:=Aside0.mk ((by rw [hg];exact (z0h (by repeat (first|exact HB.out|apply z04|apply z03|apply z05))):w.heap.size≤gb247));have n3_:=Aside0.mk ((by rw [hg];exact (z0h (by repeat (first|exact HB.out|apply z04|apply z03|apply z05))):w.heap.size≤gb247));clear HB;have HB:=n0_;have BK247:=n1_;have GW247:=n2_;have GE247:=n3_;clear n0_ n1_ n2_ n3_;clear hb hbox hg))
 (try simp only [Act.put,zq1,zq2,zq3])
 go_cut [27] (fun v27 wc=>∃ (kq:Nat) (x27_3:Bool),v27=.bool x27_3∧Aside0 (z0s.j0 kq a1 a2 x27_3 a0_0 a0_1 a0_2 l0_3 l0_4 l0_5=some r)∧Aside0 (kq≤k)∧Aside0 (wc.heap[gb247]?=some (.cells #[.int .i64 a0_0,.int .i64 a0_1,.int .i64 a0_2,(.slice A0_3 l0_3.length c0_3),(.slice A0_4 l0_4.length c0_4),(.slice A0_5 l0_5.length c0_5)] 26 (0,0)))∧Aside0 (Below w.heap.size w wc))
 case first =>
  have H:=HC4.out;clear HC4
  by_cases c6:a1 < 0
  ·rw [if_pos c6] at H;have c6b0:decide (a1 < 0)=true:=decide_eq_true c6;clear c6
   (first|rw [c6b0]|(simp only [i64_w,i32_w];rw [c6b0])|skip)
   have H':=Aside0.mk H;clear H;go_wp2
   go_meet
   case rel=>exact ⟨_,(true),(by first|rfl|(simp;done)|(simp [*];done)),H',⟨by first|omega|exact Nat.le_refl _⟩,⟨by (with_reducible repeat (first|refine z09 ?_ _|refine z0a ?_|refine z08 ?_ _));exact BK247.out⟩,⟨by repeat (first|(with_reducible first|exact HB.out|apply z04|apply z03|apply z05|refine z07 ?_ GE247.out)|exact HB.out)⟩⟩
  ·rw [if_neg c6] at H;have c6b0:decide (a1 < 0)=false:=decide_eq_false c6;clear c6
   (first|rw [c6b0]|(simp only [i64_w,i32_w];rw [c6b0])|skip)
   by_cases c7:a1 ≥ (l0_5.length:Int)
   ·rw [if_pos c7] at H;have c7b0:decide ((l0_5.length:Int)≤a1)=true:=decide_eq_true c7;clear c7;have H':=Aside0.mk H;clear H;have hcz8_0:w5.cell? ⟨gb247,0,none⟩=some (.int .i64 a0_0):=(z02 BK247.out 0).trans rfl;have hcz8_1:w5.cell? ⟨gb247,1,none⟩=some (.int .i64 a0_1):=(z02 BK247.out 1).trans rfl;have hcz8_2:w5.cell? ⟨gb247,2,none⟩=some (.int .i64 a0_2):=(z02 BK247.out 2).trans rfl;have hcz8_3:w5.cell? ⟨gb247,3,none⟩=some (.slice A0_3 l0_3.length c0_3):=(z02 BK247.out 3).trans rfl;have hcz8_4:w5.cell? ⟨gb247,4,none⟩=some (.slice A0_4 l0_4.length c0_4):=(z02 BK247.out 4).trans rfl;have hcz8_5:w5.cell? ⟨gb247,5,none⟩=some (.slice A0_5 l0_5.length c0_5):=(z02 BK247.out 5).trans rfl;have hfz8_0:=z01 BK247.out 0;have hfz8_1:=z01 BK247.out 1;have hfz8_2:=z01 BK247.out 2;have hfz8_3:=z01 BK247.out 3;have hfz8_4:=z01 BK247.out 4;have hfz8_5:=z01 BK247.out 5;go_wp2
    go_meet
    case rel=>exact ⟨_,(true),(by first|rfl|(simp;done)|(simp [*];done)),H',⟨by first|omega|exact Nat.le_refl _⟩,⟨by (with_reducible repeat (first|refine z09 ?_ _|refine z0a ?_|refine z08 ?_ _));exact BK247.out⟩,⟨by repeat (first|(with_reducible first|exact HB.out|apply z04|apply z03|apply z05|refine z07 ?_ GE247.out)|exact HB.out)⟩⟩
   ·rw [if_neg c7] at H;have c7b0:decide ((l0_5.length:Int)≤a1)=false:=decide_eq_false c7;clear c7
    by_cases c9:a2 < 0
    ·rw [if_pos c9] at H;have c9b0:decide (a2 < 0)=true:=decide_eq_true c9;clear c9;have H':=Aside0.mk H;clear H;have hcz10_0:w5.cell? ⟨gb247,0,none⟩=some (.int .i64 a0_0):=(z02 BK247.out 0).trans rfl;have hcz10_1:w5.cell? ⟨gb247,1,none⟩=some (.int .i64 a0_1):=(z02 BK247.out 1).trans rfl;have hcz10_2:w5.cell? ⟨gb247,2,none⟩=some (.int .i64 a0_2):=(z02 BK247.out 2).trans rfl;have hcz10_3:w5.cell? ⟨gb247,3,none⟩=some (.slice A0_3 l0_3.length c0_3):=(z02 BK247.out 3).trans rfl;have hcz10_4:w5.cell? ⟨gb247,4,none⟩=some (.slice A0_4 l0_4.length c0_4):=(z02 BK247.out 4).trans rfl;have hcz10_5:w5.cell? ⟨gb247,5,none⟩=some (.slice A0_5 l0_5.length c0_5):=(z02 BK247.out 5).trans rfl;have hfz10_0:=z01 BK247.out 0;have hfz10_1:=z01 BK247.out 1;have hfz10_2:=z01 BK247.out 2;have hfz10_3:=z01 BK247.out 3;have hfz10_4:=z01 BK247.out 4;have hfz10_5:=z01 BK247.out 5;go_wp2
     go_meet
     case rel=>exact ⟨_,(true),(by first|rfl|(simp;done)|(simp [*];done)),H',⟨by first|omega|exact Nat.le_refl _⟩,⟨by (with_reducible repeat (first|refine z09 ?_ _|refine z0a ?_|refine z08 ?_ _));exact BK247.out⟩,⟨by repeat (first|(with_reducible first|exact HB.out|apply z04|apply z03|apply z05|refine z07 ?_ GE247.out)|exact HB.out)⟩⟩
    ·rw [if_neg c9] at H;have c9b0:decide (a2 < 0)=false:=decide_eq_false c9;clear c9;have H':=Aside0.mk H;clear H;have hcz11_0:w5.cell? ⟨gb247,0,none⟩=some (.int .i64 a0_0):=(z02 BK247.out 0).trans rfl;have hcz11_1:w5.cell? ⟨gb247,1,none⟩=some (.int .i64 a0_1):=(z02 BK247.out 1).trans rfl;have hcz11_2:w5.cell? ⟨gb247,2,none⟩=some (.int .i64 a0_2):=(z02 BK247.out 2).trans rfl;have hcz11_3:w5.cell? ⟨gb247,3,none⟩=some (.slice A0_3 l0_3.length c0_3):=(z02 BK247.out 3).trans rfl;have hcz11_4:w5.cell? ⟨gb247,4,none⟩=some (.slice A0_4 l0_4.length c0_4):=(z02 BK247.out 4).trans rfl;have hcz11_5:w5.cell? ⟨gb247,5,none⟩=some (.slice A0_5 l0_5.length c0_5):=(z02 BK247.out 5).trans rfl;have hfz11_0:=z01 BK247.out 0;have hfz11_1:=z01 BK247.out 1;have hfz11_2:=z01 BK247.out 2;have hfz11_3:=z01 BK247.out 3;have hfz11_4:=z01 BK247.out 4;have hfz11_5:=z01 BK247.out 5;go_wp2
     go_meet
     case rel=>exact ⟨_,(decide (a2 ≥ (l0_5.length:Int))),(by first|rfl|(simp;done)|(simp [*];done)),H',⟨by first|omega|exact Nat.le_refl _⟩,⟨by (with_reducible repeat (first|refine z09 ?_ _|refine z0a ?_|refine z08 ?_ _));exact BK247.out⟩,⟨by repeat (first|(with_reducible first|exact HB.out|apply z04|apply z03|apply z05|refine z07 ?_ GE247.out)|exact HB.out)⟩⟩
 case rest =>
  clear HC4;obtain ⟨kq,x27_3,rfl,HA,HJ3,BK247,HB⟩:=hcut;cases kq with
  | zero=>exact absurd HA.out (by simp [z0s.j0])
  | succ kj3 =>
   have H:=HA.out;clear HA;simp only [z0s.j0] at H
   by_cases c12:x27_3=true
   ·subst c12;have H1:(some false)=some r:=(by rw [if_pos rfl] at H;exact H);clear H;have H:=H1;clear H1;obtain rfl:=Option.some.inj H;go_wp2;go_ret
    exact ⟨by first|rfl|(simp [z0g,z0f] <;> rfl)|(simp [*,z0g,z0f] <;> rfl),by repeat (first|(with_reducible first|exact HB.out|apply z04|apply z03|apply z05|refine z07 ?_ GE247.out)|exact HB.out)⟩
   ·replace c12:=Bool.eq_false_iff.mpr c12;subst c12;have H1:(if 0≤a1 then (if a1 < (l0_5.length:Int) then (if ((z06 l0_5 a1).f0)=21 then (some (a2 == (wrap64 ((z06 l0_5 a1).f4)))) else (if ((z06 l0_5 a1).f0)=22 then (if a2=(wrap64 ((z06 l0_5 a1).f4)) then (some true) else (some (a2 == (wrap64 (a1+1))))) else (if ((z06 l0_5 a1).f0)=23 then (if 0≤((z06 l0_5 a1).f4) then (if ((z06 l0_5 a1).f4) < (l0_4.length:Int) then (some (a2 == (rd l0_4 ((z06 l0_5 a1).f4)))) else (none)) else (none)) else (if ((z06 l0_5 a1).f0)=24 then (if a2 > 0 then (if 0≤(wrap64 (a2 - 1)) then (if (wrap64 (a2 - 1)) < (l0_5.length:Int) then (if ((z06 l0_5 (wrap64 (a2 - 1))).f0)=23 then ((z0i.f kj3 a0_0 a0_1 a0_2 l0_3 l0_4 l0_5 a1).bind fun t253=>(some ((wrap64 ((z06 l0_5 (wrap64 (a2 - 1))).f4)) == t253))) else (some false)) else (none)) else (none)) else (some false)) else ((z1n.f ((z06 l0_5 a1).f0)).bind fun t254=>(if t254=true then (some (a2 == (wrap64 (a1+1)))) else (some false))))))) else (none)) else (none))=some r:=(by rw [if_neg (show ¬ (false=true) by decide)] at H;exact H);clear H;have H:=H1;clear H1
    by_cases c13:0≤a1
    ·rw [if_pos c13] at H;have c13b0:decide (0≤a1)=true:=decide_eq_true c13;clear c13
     by_cases c14:a1 < (l0_5.length:Int)
     ·rw [if_pos c14] at H;have c14b0:decide (a1 < (l0_5.length:Int))=true:=decide_eq_true c14;clear c14
      by_cases c15:((z06 l0_5 a1).f0)=21
      ·rw [if_pos c15] at H;have c15b0:(((z06 l0_5 a1).f0) == 21)=true:=beq_iff_eq.mpr c15;have c15b1:(((z06 l0_5 a1).f0) != 21)=false:=bne_eq_false_iff_eq.mpr c15;clear c15;obtain rfl:=Option.some.inj H;have hcz16_0:wc.cell? ⟨gb247,0,none⟩=some (.int .i64 a0_0):=(z02 BK247.out 0).trans rfl;have hcz16_1:wc.cell? ⟨gb247,1,none⟩=some (.int .i64 a0_1):=(z02 BK247.out 1).trans rfl;have hcz16_2:wc.cell? ⟨gb247,2,none⟩=some (.int .i64 a0_2):=(z02 BK247.out 2).trans rfl;have hcz16_3:wc.cell? ⟨gb247,3,none⟩=some (.slice A0_3 l0_3.length c0_3):=(z02 BK247.out 3).trans rfl;have hcz16_4:wc.cell? ⟨gb247,4,none⟩=some (.slice A0_4 l0_4.length c0_4):=(z02 BK247.out 4).trans rfl;have hcz16_5:wc.cell? ⟨gb247,5,none⟩=some (.slice A0_5 l0_5.length c0_5):=(z02 BK247.out 5).trans rfl;have hfz16_0:=z01 BK247.out 0;have hfz16_1:=z01 BK247.out 1;have hfz16_2:=z01 BK247.out 2;have hfz16_3:=z01 BK247.out 3;have hfz16_4:=z01 BK247.out 4;have hfz16_5:=z01 BK247.out 5;have p248:0≤(a1:Int):=of_decide_eq_true (by assumption);have q248:a1 < (l0_5.length:Int):=of_decide_eq_true (by assumption);obtain ⟨ad248,e248,hx248_0,hx248_1,hx248_2,hx248_3,hx248_4⟩:=z22 HR0_5.out a1 p248 q248;cases e248;replace hx248_0:=(HB.out.cell (World.block_lt_of_cell? w _ hx248_0)).trans hx248_0;replace hx248_1:=(HB.out.cell (World.block_lt_of_cell? w _ hx248_1)).trans hx248_1;replace hx248_2:=(HB.out.cell (World.block_lt_of_cell? w _ hx248_2)).trans hx248_2;replace hx248_3:=(HB.out.cell (World.block_lt_of_cell? w _ hx248_3)).trans hx248_3;replace hx248_4:=(HB.out.cell (World.block_lt_of_cell? w _ hx248_4)).trans hx248_4;replace p248:=eq_true p248;replace q248:=eq_true q248
       go_wp2_with (first|((with_reducible refine z12 (N:=7) rfl ?_);(try (refine z1p (by rfl) ?_;dsimp only));refine z17 ?hg (N:=7) ?hd (cs:=#[.int .i64 0,.int .i64 0,.int .i64 0,.int .i64 0,.int .u64 0]) (t:=79) ?hr ?_;(case hd=>rfl);(case hg=>rfl);(case hr=>first|(go_simp;done)|(go_simp;rfl));intro gb249 hg w17 hbox hb;have n0_:=Aside0.mk (z0z (g:=gb247) (o:=.cells #[.int .i64 a0_0,.int .i64 a0_1,.int .i64 a0_2,.slice A0_3 l0_3.length c0_3,.slice A0_4 l0_4.length c0_4,.slice (some ad248) l0_5.length c0_5] 26 (0,0)) (by (with_reducible repeat (first|refine z09 ?_ _|refine z0a ?_|refine z08 ?_ _));exact BK247.out) hb);have n1_:=Aside0.mk (z0o (by repeat (first|(with_reducible first|exact HB.out|apply z04|apply z03|apply z05|refine z07 ?_ GE247.out)|exact HB.out)) hb);have n2_:=Aside0.mk (hbox);have n3_:=Aside0.mk ((by rw [hg];exact (z0h (by repeat (first|(with_reducible first|exact HB.out|apply z04|apply z03|apply z05|refine z07 ?_ GE247.out)|exact HB.out))):w.heap.size≤gb249));have n4_:=Aside0.mk ((by rw [hg];exact (z0h (by repeat (first|(with_reducible first|exact HB.out|apply z04|apply z03|apply z05|refine z07 ?_ GE247.out)|exact HB.out))):w.heap.size≤gb249));have n5_:=Aside0.mk ((by rw [hg];exact Nat.ne_of_lt (z15 (g:=gb247) (o:=.cells #[.int .i64 a0_0,.int .i64 a0_1,.int .i64 a0_2,.slice A0_3 l0_3.length c0_3,.slice A0_4 l0_4.length c0_4,.slice (some ad248) l0_5.length c0_5] 26 (0,0)) (by (with_reducible repeat (first|refine z09 ?_ _|refine z0a ?_|refine z08 ?_ _));exact BK247.out)):gb247≠gb249));have n6_:=Aside0.mk ((by rw [hg];exact Nat.ne_of_gt (z15 (g:=gb247) (o:=.cells #[.int .i64 a0_0,.int .i64 a0_1,.int .i64 a0_2,.slice A0_3 l0_3.length c0_3,.slice A0_4 l0_4.length c0_4,.slice (some ad248) l0_5.length c0_5] 26 (0,0)) (by (with_reducible repeat (first|refine z09 ?_ _|refine z0a ?_|refine z08 ?_ _));exact BK247.out)):gb249≠gb247));clear BK247;clear HB;have BK247:=n0_;have HB:=n1_;have BK249:=n2_;have GW249:=n3_;have GE249:=n4_;have NB247_249:=n5_;have NB249_247:=n6_;clear n0_ n1_ n2_ n3_ n4_ n5_ n6_;clear hb hbox hg;have hnb18:=NB249_247.out;have hnc18:=NB247_249.out;have hcz19_0:w17.cell? ⟨gb249,0,none⟩=some (.int .i64 0):=(z02 BK249.out 0).trans rfl;have hcz19_1:w17.cell? ⟨gb249,1,none⟩=some (.int .i64 0):=(z02 BK249.out 1).trans rfl;have hcz19_2:w17.cell? ⟨gb249,2,none⟩=some (.int .i64 0):=(z02 BK249.out 2).trans rfl;have hcz19_3:w17.cell? ⟨gb249,3,none⟩=some (.int .i64 0):=(z02 BK249.out 3).trans rfl;have hcz19_4:w17.cell? ⟨gb249,4,none⟩=some (.int .u64 0):=(z02 BK249.out 4).trans rfl;have hfz19_0:=z01 BK249.out 0;have hfz19_1:=z01 BK249.out 1;have hfz19_2:=z01 BK249.out 2;have hfz19_3:=z01 BK249.out 3;have hfz19_4:=z01 BK249.out 4))
       go_ret
       exact ⟨by first|rfl|(simp [z0g,z0f] <;> rfl)|(simp [*,z0g,z0f] <;> rfl),by repeat (first|(with_reducible first|exact HB.out|apply z04|apply z03|apply z05|refine z07 ?_ GE247.out|refine z07 ?_ GE249.out)|exact HB.out)⟩
      ·rw [if_neg c15] at H;have c15b0:(((z06 l0_5 a1).f0) == 21)=false:=beq_eq_false_iff_ne.mpr c15;have c15b1:(((z06 l0_5 a1).f0) != 21)=true:=bne_iff_ne.mpr c15
       by_cases c20:((z06 l0_5 a1).f0)=22
       ·rw [if_pos c20] at H;have c20b0:(((z06 l0_5 a1).f0) == 22)=true:=beq_iff_eq.mpr c20;have c20b1:(((z06 l0_5 a1).f0) != 22)=false:=bne_eq_false_iff_eq.mpr c20;clear c20
        by_cases c21:a2=(wrap64 ((z06 l0_5 a1).f4))
        ·rw [if_pos c21] at H;have c21b0:(a2 == (wrap64 ((z06 l0_5 a1).f4)))=true:=beq_iff_eq.mpr c21;have c21b1:(a2 != (wrap64 ((z06 l0_5 a1).f4)))=false:=bne_eq_false_iff_eq.mpr c21;clear c21;obtain rfl:=Option.some.inj H;have hcz22_0:wc.cell? ⟨gb247,0,none⟩=some (.int .i64 a0_0):=(z02 BK247.out 0).trans rfl;have hcz22_1:wc.cell? ⟨gb247,1,none⟩=some (.int .i64 a0_1):=(z02 BK247.out 1).trans rfl;have hcz22_2:wc.cell? ⟨gb247,2,none⟩=some (.int .i64 a0_2):=(z02 BK247.out 2).trans rfl;have hcz22_3:wc.cell? ⟨gb247,3,none⟩=some (.slice A0_3 l0_3.length c0_3):=(z02 BK247.out 3).trans rfl;have hcz22_4:wc.cell? ⟨gb247,4,none⟩=some (.slice A0_4 l0_4.length c0_4):=(z02 BK247.out 4).trans rfl;have hcz22_5:wc.cell? ⟨gb247,5,none⟩=some (.slice A0_5 l0_5.length c0_5):=(z02 BK247.out 5).trans rfl;have hfz22_0:=z01 BK247.out 0;have hfz22_1:=z01 BK247.out 1;have hfz22_2:=z01 BK247.out 2;have hfz22_3:=z01 BK247.out 3;have hfz22_4:=z01 BK247.out 4;have hfz22_5:=z01 BK247.out 5;have p248:0≤(a1:Int):=of_decide_eq_true (by assumption);have q248:a1 < (l0_5.length:Int):=of_decide_eq_true (by assumption);obtain ⟨ad248,e248,hx248_0,hx248_1,hx248_2,hx248_3,hx248_4⟩:=z22 HR0_5.out a1 p248 q248;cases e248;replace hx248_0:=(HB.out.cell (World.block_lt_of_cell? w _ hx248_0)).trans hx248_0;replace hx248_1:=(HB.out.cell (World.block_lt_of_cell? w _ hx248_1)).trans hx248_1;replace hx248_2:=(HB.out.cell (World.block_lt_of_cell? w _ hx248_2)).trans hx248_2;replace hx248_3:=(HB.out.cell (World.block_lt_of_cell? w _ hx248_3)).trans hx248_3;replace hx248_4:=(HB.out.cell (World.block_lt_of_cell? w _ hx248_4)).trans hx248_4;replace p248:=eq_true p248;replace q248:=eq_true q248
         go_wp2_with (first|((with_reducible refine z12 (N:=7) rfl ?_);(try (refine z1p (by rfl) ?_;dsimp only));refine z17 ?hg (N:=7) ?hd (cs:=#[.int .i64 0,.int .i64 0,.int .i64 0,.int .i64 0,.int .u64 0]) (t:=79) ?hr ?_;(case hd=>rfl);(case hg=>rfl);(case hr=>first|(go_simp;done)|(go_simp;rfl));intro gb249 hg w23 hbox hb;have n0_:=Aside0.mk (z0z (g:=gb247) (o:=.cells #[.int .i64 a0_0,.int .i64 a0_1,.int .i64 a0_2,.slice A0_3 l0_3.length c0_3,.slice A0_4 l0_4.length c0_4,.slice (some ad248) l0_5.length c0_5] 26 (0,0)) (by (with_reducible repeat (first|refine z09 ?_ _|refine z0a ?_|refine z08 ?_ _));exact BK247.out) hb);have n1_:=Aside0.mk (z0o (by repeat (first|(with_reducible first|exact HB.out|apply z04|apply z03|apply z05|refine z07 ?_ GE247.out)|exact HB.out)) hb);have n2_:=Aside0.mk (hbox);have n3_:=Aside0.mk ((by rw [hg];exact (z0h (by repeat (first|(with_reducible first|exact HB.out|apply z04|apply z03|apply z05|refine z07 ?_ GE247.out)|exact HB.out))):w.heap.size≤gb249));have n4_:=Aside0.mk ((by rw [hg];exact (z0h (by repeat (first|(with_reducible first|exact HB.out|apply z04|apply z03|apply z05|refine z07 ?_ GE247.out)|exact HB.out))):w.heap.size≤gb249));have n5_:=Aside0.mk ((by rw [hg];exact Nat.ne_of_lt (z15 (g:=gb247) (o:=.cells #[.int .i64 a0_0,.int .i64 a0_1,.int .i64 a0_2,.slice A0_3 l0_3.length c0_3,.slice A0_4 l0_4.length c0_4,.slice (some ad248) l0_5.length c0_5] 26 (0,0)) (by (with_reducible repeat (first|refine z09 ?_ _|refine z0a ?_|refine z08 ?_ _));exact BK247.out)):gb247≠gb249));have n6_:=Aside0.mk ((by rw [hg];exact Nat.ne_of_gt (z15 (g:=gb247) (o:=.cells #[.int .i64 a0_0,.int .i64 a0_1,.int .i64 a0_2,.slice A0_3 l0_3.length c0_3,.slice A0_4 l0_4.length c0_4,.slice (some ad248) l0_5.length c0_5] 26 (0,0)) (by (with_reducible repeat (first|refine z09 ?_ _|refine z0a ?_|refine z08 ?_ _));exact BK247.out)):gb249≠gb247));clear BK247;clear HB;have BK247:=n0_;have HB:=n1_;have BK249:=n2_;have GW249:=n3_;have GE249:=n4_;have NB247_249:=n5_;have NB249_247:=n6_;clear n0_ n1_ n2_ n3_ n4_ n5_ n6_;clear hb hbox hg;have hnb24:=NB249_247.out;have hnc24:=NB247_249.out;have hcz25_0:w23.cell? ⟨gb249,0,none⟩=some (.int .i64 0):=(z02 BK249.out 0).trans rfl;have hcz25_1:w23.cell? ⟨gb249,1,none⟩=some (.int .i64 0):=(z02 BK249.out 1).trans rfl;have hcz25_2:w23.cell? ⟨gb249,2,none⟩=some (.int .i64 0):=(z02 BK249.out 2).trans rfl;have hcz25_3:w23.cell? ⟨gb249,3,none⟩=some (.int .i64 0):=(z02 BK249.out 3).trans rfl;have hcz25_4:w23.cell? ⟨gb249,4,none⟩=some (.int .u64 0):=(z02 BK249.out 4).trans rfl;have hfz25_0:=z01 BK249.out 0;have hfz25_1:=z01 BK249.out 1;have hfz25_2:=z01 BK249.out 2;have hfz25_3:=z01 BK249.out 3;have hfz25_4:=z01 BK249.out 4))
         go_ret
         exact ⟨by first|rfl|(simp [z0g,z0f] <;> rfl)|(simp [*,z0g,z0f] <;> rfl),by repeat (first|(with_reducible first|exact HB.out|apply z04|apply z03|apply z05|refine z07 ?_ GE247.out|refine z07 ?_ GE249.out)|exact HB.out)⟩
        ·rw [if_neg c21] at H;have c21b0:(a2 == (wrap64 ((z06 l0_5 a1).f4)))=false:=beq_eq_false_iff_ne.mpr c21;have c21b1:(a2 != (wrap64 ((z06 l0_5 a1).f4)))=true:=bne_iff_ne.mpr c21;obtain rfl:=Option.some.inj H;have hcz26_0:wc.cell? ⟨gb247,0,none⟩=some (.int .i64 a0_0):=(z02 BK247.out 0).trans rfl;have hcz26_1:wc.cell? ⟨gb247,1,none⟩=some (.int .i64 a0_1):=(z02 BK247.out 1).trans rfl;have hcz26_2:wc.cell? ⟨gb247,2,none⟩=some (.int .i64 a0_2):=(z02 BK247.out 2).trans rfl;have hcz26_3:wc.cell? ⟨gb247,3,none⟩=some (.slice A0_3 l0_3.length c0_3):=(z02 BK247.out 3).trans rfl;have hcz26_4:wc.cell? ⟨gb247,4,none⟩=some (.slice A0_4 l0_4.length c0_4):=(z02 BK247.out 4).trans rfl;have hcz26_5:wc.cell? ⟨gb247,5,none⟩=some (.slice A0_5 l0_5.length c0_5):=(z02 BK247.out 5).trans rfl;have hfz26_0:=z01 BK247.out 0;have hfz26_1:=z01 BK247.out 1;have hfz26_2:=z01 BK247.out 2;have hfz26_3:=z01 BK247.out 3;have hfz26_4:=z01 BK247.out 4;have hfz26_5:=z01 BK247.out 5;have p248:0≤(a1:Int):=of_decide_eq_true (by assumption);have q248:a1 < (l0_5.length:Int):=of_decide_eq_true (by assumption);obtain ⟨ad248,e248,hx248_0,hx248_1,hx248_2,hx248_3,hx248_4⟩:=z22 HR0_5.out a1 p248 q248;cases e248;replace hx248_0:=(HB.out.cell (World.block_lt_of_cell? w _ hx248_0)).trans hx248_0;replace hx248_1:=(HB.out.cell (World.block_lt_of_cell? w _ hx248_1)).trans hx248_1;replace hx248_2:=(HB.out.cell (World.block_lt_of_cell? w _ hx248_2)).trans hx248_2;replace hx248_3:=(HB.out.cell (World.block_lt_of_cell? w _ hx248_3)).trans hx248_3;replace hx248_4:=(HB.out.cell (World.block_lt_of_cell? w _ hx248_4)).trans hx248_4;replace p248:=eq_true p248;replace q248:=eq_true q248
         go_wp2_with (first|((with_reducible refine z12 (N:=7) rfl ?_);(try (refine z1p (by rfl) ?_;dsimp only));refine z17 ?hg (N:=7) ?hd (cs:=#[.int .i64 0,.int .i64 0,.int .i64 0,.int .i64 0,.int .u64 0]) (t:=79) ?hr ?_;(case hd=>rfl);(case hg=>rfl);(case hr=>first|(go_simp;done)|(go_simp;rfl));intro gb249 hg w27 hbox hb;have n0_:=Aside0.mk (z0z (g:=gb247) (o:=.cells #[.int .i64 a0_0,.int .i64 a0_1,.int .i64 a0_2,.slice A0_3 l0_3.length c0_3,.slice A0_4 l0_4.length c0_4,.slice (some ad248) l0_5.length c0_5] 26 (0,0)) (by (with_reducible repeat (first|refine z09 ?_ _|refine z0a ?_|refine z08 ?_ _));exact BK247.out) hb);have n1_:=Aside0.mk (z0o (by repeat (first|(with_reducible first|exact HB.out|apply z04|apply z03|apply z05|refine z07 ?_ GE247.out)|exact HB.out)) hb);have n2_:=Aside0.mk (hbox);have n3_:=Aside0.mk ((by rw [hg];exact (z0h (by repeat (first|(with_reducible first|exact HB.out|apply z04|apply z03|apply z05|refine z07 ?_ GE247.out)|exact HB.out))):w.heap.size≤gb249));have n4_:=Aside0.mk ((by rw [hg];exact (z0h (by repeat (first|(with_reducible first|exact HB.out|apply z04|apply z03|apply z05|refine z07 ?_ GE247.out)|exact HB.out))):w.heap.size≤gb249));have n5_:=Aside0.mk ((by rw [hg];exact Nat.ne_of_lt (z15 (g:=gb247) (o:=.cells #[.int .i64 a0_0,.int .i64 a0_1,.int .i64 a0_2,.slice A0_3 l0_3.length c0_3,.slice A0_4 l0_4.length c0_4,.slice (some ad248) l0_5.length c0_5] 26 (0,0)) (by (with_reducible repeat (first|refine z09 ?_ _|refine z0a ?_|refine z08 ?_ _));exact BK247.out)):gb247≠gb249));have n6_:=Aside0.mk ((by rw [hg];exact Nat.ne_of_gt (z15 (g:=gb247) (o:=.cells #[.int .i64 a0_0,.int .i64 a0_1,.int .i64 a0_2,.slice A0_3 l0_3.length c0_3,.slice A0_4 l0_4.length c0_4,.slice (some ad248) l0_5.length c0_5] 26 (0,0)) (by (with_reducible repeat (first|refine z09 ?_ _|refine z0a ?_|refine z08 ?_ _));exact BK247.out)):gb249≠gb247));clear BK247;clear HB;have BK247:=n0_;have HB:=n1_;have BK249:=n2_;have GW249:=n3_;have GE249:=n4_;have NB247_249:=n5_;have NB249_247:=n6_;clear n0_ n1_ n2_ n3_ n4_ n5_ n6_;clear hb hbox hg;have hnb28:=NB249_247.out;have hnc28:=NB247_249.out;have hcz29_0:w27.cell? ⟨gb249,0,none⟩=some (.int .i64 0):=(z02 BK249.out 0).trans rfl;have hcz29_1:w27.cell? ⟨gb249,1,none⟩=some (.int .i64 0):=(z02 BK249.out 1).trans rfl;have hcz29_2:w27.cell? ⟨gb249,2,none⟩=some (.int .i64 0):=(z02 BK249.out 2).trans rfl;have hcz29_3:w27.cell? ⟨gb249,3,none⟩=some (.int .i64 0):=(z02 BK249.out 3).trans rfl;have hcz29_4:w27.cell? ⟨gb249,4,none⟩=some (.int .u64 0):=(z02 BK249.out 4).trans rfl;have hfz29_0:=z01 BK249.out 0;have hfz29_1:=z01 BK249.out 1;have hfz29_2:=z01 BK249.out 2;have hfz29_3:=z01 BK249.out 3;have hfz29_4:=z01 BK249.out 4))
         go_ret
         exact ⟨by first|rfl|(simp [z0g,z0f] <;> rfl)|(simp [*,z0g,z0f] <;> rfl),by repeat (first|(with_reducible first|exact HB.out|apply z04|apply z03|apply z05|refine z07 ?_ GE247.out|refine z07 ?_ GE249.out)|exact HB.out)⟩
       ·rw [if_neg c20] at H;have c20b0:(((z06 l0_5 a1).f0) == 22)=false:=beq_eq_false_iff_ne.mpr c20;have c20b1:(((z06 l0_5 a1).f0) != 22)=true:=bne_iff_ne.mpr c20
        by_cases c30:((z06 l0_5 a1).f0)=23
        ·rw [if_pos c30] at H;have c30b0:(((z06 l0_5 a1).f0) == 23)=true:=beq_iff_eq.mpr c30;have c30b1:(((z06 l0_5 a1).f0) != 23)=false:=bne_eq_false_iff_eq.mpr c30;clear c30
         by_cases c31:0≤((z06 l0_5 a1).f4)
         ·rw [if_pos c31] at H;have c31b0:decide (0≤((z06 l0_5 a1).f4))=true:=decide_eq_true c31;clear c31
          by_cases c32:((z06 l0_5 a1).f4) < (l0_4.length:Int)
          ·rw [if_pos c32] at H;have c32b0:decide (((z06 l0_5 a1).f4) < (l0_4.length:Int))=true:=decide_eq_true c32;clear c32;obtain rfl:=Option.some.inj H;have hcz33_0:wc.cell? ⟨gb247,0,none⟩=some (.int .i64 a0_0):=(z02 BK247.out 0).trans rfl;have hcz33_1:wc.cell? ⟨gb247,1,none⟩=some (.int .i64 a0_1):=(z02 BK247.out 1).trans rfl;have hcz33_2:wc.cell? ⟨gb247,2,none⟩=some (.int .i64 a0_2):=(z02 BK247.out 2).trans rfl;have hcz33_3:wc.cell? ⟨gb247,3,none⟩=some (.slice A0_3 l0_3.length c0_3):=(z02 BK247.out 3).trans rfl;have hcz33_4:wc.cell? ⟨gb247,4,none⟩=some (.slice A0_4 l0_4.length c0_4):=(z02 BK247.out 4).trans rfl;have hcz33_5:wc.cell? ⟨gb247,5,none⟩=some (.slice A0_5 l0_5.length c0_5):=(z02 BK247.out 5).trans rfl;have hfz33_0:=z01 BK247.out 0;have hfz33_1:=z01 BK247.out 1;have hfz33_2:=z01 BK247.out 2;have hfz33_3:=z01 BK247.out 3;have hfz33_4:=z01 BK247.out 4;have hfz33_5:=z01 BK247.out 5;have p248:0≤(a1:Int):=of_decide_eq_true (by assumption);have q248:a1 < (l0_5.length:Int):=of_decide_eq_true (by assumption);obtain ⟨ad248,e248,hx248_0,hx248_1,hx248_2,hx248_3,hx248_4⟩:=z22 HR0_5.out a1 p248 q248;cases e248;replace hx248_0:=(HB.out.cell (World.block_lt_of_cell? w _ hx248_0)).trans hx248_0;replace hx248_1:=(HB.out.cell (World.block_lt_of_cell? w _ hx248_1)).trans hx248_1;replace hx248_2:=(HB.out.cell (World.block_lt_of_cell? w _ hx248_2)).trans hx248_2;replace hx248_3:=(HB.out.cell (World.block_lt_of_cell? w _ hx248_3)).trans hx248_3;replace hx248_4:=(HB.out.cell (World.block_lt_of_cell? w _ hx248_4)).trans hx248_4;replace p248:=eq_true p248;replace q248:=eq_true q248
           go_wp2_with (first|((with_reducible refine z12 (N:=7) rfl ?_);(try (refine z1p (by rfl) ?_;dsimp only));refine z17 ?hg (N:=7) ?hd (cs:=#[.int .i64 0,.int .i64 0,.int .i64 0,.int .i64 0,.int .u64 0]) (t:=79) ?hr ?_;(case hd=>rfl);(case hg=>rfl);(case hr=>first|(go_simp;done)|(go_simp;rfl));intro gb249 hg w34 hbox hb;have n0_:=Aside0.mk (z0z (g:=gb247) (o:=.cells #[.int .i64 a0_0,.int .i64 a0_1,.int .i64 a0_2,.slice A0_3 l0_3.length c0_3,.slice A0_4 l0_4.length c0_4,.slice (some ad248) l0_5.length c0_5] 26 (0,0)) (by (with_reducible repeat (first|refine z09 ?_ _|refine z0a ?_|refine z08 ?_ _));exact BK247.out) hb);have n1_:=Aside0.mk (z0o (by repeat (first|(with_reducible first|exact HB.out|apply z04|apply z03|apply z05|refine z07 ?_ GE247.out)|exact HB.out)) hb);have n2_:=Aside0.mk (hbox);have n3_:=Aside0.mk ((by rw [hg];exact (z0h (by repeat (first|(with_reducible first|exact HB.out|apply z04|apply z03|apply z05|refine z07 ?_ GE247.out)|exact HB.out))):w.heap.size≤gb249));have n4_:=Aside0.mk ((by rw [hg];exact (z0h (by repeat (first|(with_reducible first|exact HB.out|apply z04|apply z03|apply z05|refine z07 ?_ GE247.out)|exact HB.out))):w.heap.size≤gb249));have n5_:=Aside0.mk ((by rw [hg];exact Nat.ne_of_lt (z15 (g:=gb247) (o:=.cells #[.int .i64 a0_0,.int .i64 a0_1,.int .i64 a0_2,.slice A0_3 l0_3.length c0_3,.slice A0_4 l0_4.length c0_4,.slice (some ad248) l0_5.length c0_5] 26 (0,0)) (by (with_reducible repeat (first|refine z09 ?_ _|refine z0a ?_|refine z08 ?_ _));exact BK247.out)):gb247≠gb249));have n6_:=Aside0.mk ((by rw [hg];exact Nat.ne_of_gt (z15 (g:=gb247) (o:=.cells #[.int .i64 a0_0,.int .i64 a0_1,.int .i64 a0_2,.slice A0_3 l0_3.length c0_3,.slice A0_4 l0_4.length c0_4,.slice (some ad248) l0_5.length c0_5] 26 (0,0)) (by (with_reducible repeat (first|refine z09 ?_ _|refine z0a ?_|refine z08 ?_ _));exact BK247.out)):gb249≠gb247));clear BK247;clear HB;have BK247:=n0_;have HB:=n1_;have BK249:=n2_;have GW249:=n3_;have GE249:=n4_;have NB247_249:=n5_;have NB249_247:=n6_;clear n0_ n1_ n2_ n3_ n4_ n5_ n6_;clear hb hbox hg;have hnb35:=NB249_247.out;have hnc35:=NB247_249.out;have hcz36_0:w34.cell? ⟨gb249,0,none⟩=some (.int .i64 0):=(z02 BK249.out 0).trans rfl;have hcz36_1:w34.cell? ⟨gb249,1,none⟩=some (.int .i64 0):=(z02 BK249.out 1).trans rfl;have hcz36_2:w34.cell? ⟨gb249,2,none⟩=some (.int .i64 0):=(z02 BK249.out 2).trans rfl;have hcz36_3:w34.cell? ⟨gb249,3,none⟩=some (.int .i64 0):=(z02 BK249.out 3).trans rfl;have hcz36_4:w34.cell? ⟨gb249,4,none⟩=some (.int .u64 0):=(z02 BK249.out 4).trans rfl;have hfz36_0:=z01 BK249.out 0;have hfz36_1:=z01 BK249.out 1;have hfz36_2:=z01 BK249.out 2;have hfz36_3:=z01 BK249.out 3;have hfz36_4:=z01 BK249.out 4;have hcz37_0:w34.cell? ⟨gb247,0,none⟩=some (.int .i64 a0_0):=(z02 BK247.out 0).trans rfl;have hcz37_1:w34.cell? ⟨gb247,1,none⟩=some (.int .i64 a0_1):=(z02 BK247.out 1).trans rfl;have hcz37_2:w34.cell? ⟨gb247,2,none⟩=some (.int .i64 a0_2):=(z02 BK247.out 2).trans rfl;have hcz37_3:w34.cell? ⟨gb247,3,none⟩=some (.slice A0_3 l0_3.length c0_3):=(z02 BK247.out 3).trans rfl;have hcz37_4:w34.cell? ⟨gb247,4,none⟩=some (.slice A0_4 l0_4.length c0_4):=(z02 BK247.out 4).trans rfl;have hcz37_5:w34.cell? ⟨gb247,5,none⟩=some (.slice (some ad248) l0_5.length c0_5):=(z02 BK247.out 5).trans rfl;have hfz37_0:=z01 BK247.out 0;have hfz37_1:=z01 BK247.out 1;have hfz37_2:=z01 BK247.out 2;have hfz37_3:=z01 BK247.out 3;have hfz37_4:=z01 BK247.out 4;have hfz37_5:=z01 BK247.out 5;have p250:0≤(((z06 l0_5 a1).f4):Int):=of_decide_eq_true (by assumption);have q250:((z06 l0_5 a1).f4) < (l0_4.length:Int):=of_decide_eq_true (by assumption);obtain ⟨ad250,e250,hx250_0⟩:=Kd.at_int HR0_4.out ((z06 l0_5 a1).f4) p250 q250;cases e250;have hn250_0:ad250.block≠gb249:=Nat.ne_of_lt (Nat.lt_of_lt_of_le (by have:=World.block_lt_of_cell? _ _ hx250_0;first|rwa [z25] at this|exact this) GW249.out);have hn250_1:ad250.block≠gb249:=Nat.ne_of_lt (Nat.lt_of_lt_of_le (by have:=World.block_lt_of_cell? _ _ hx250_0;first|rwa [z25] at this|exact this) GW249.out);have hn250_2:ad250.block≠gb249:=Nat.ne_of_lt (Nat.lt_of_lt_of_le (by have:=World.block_lt_of_cell? _ _ hx250_0;first|rwa [z25] at this|exact this) GW249.out);have hn250_3:ad250.block≠gb249:=Nat.ne_of_lt (Nat.lt_of_lt_of_le (by have:=World.block_lt_of_cell? _ _ hx250_0;first|rwa [z25] at this|exact this) GW249.out);have hn250_4:ad250.block≠gb249:=Nat.ne_of_lt (Nat.lt_of_lt_of_le (by have:=World.block_lt_of_cell? _ _ hx250_0;first|rwa [z25] at this|exact this) GW249.out);replace hx250_0:=(HB.out.cell (World.block_lt_of_cell? w _ hx250_0)).trans hx250_0;replace hx250_0:=(cell_far (p:=⟨gb249,0,none⟩) (by first|(rw [z25];exact hn250_0)|(show (Addr.add _ _).block≠_;rw [z25];exact hn250_0)|exact hn250_0) (.int .i64 ((z06 l0_5 a1).f0))).trans hx250_0;replace hx250_0:=(cell_far (p:=⟨gb249,1,none⟩) (by first|(rw [z25];exact hn250_1)|(show (Addr.add _ _).block≠_;rw [z25];exact hn250_1)|exact hn250_1) (.int .i64 ((z06 l0_5 a1).f1))).trans hx250_0;replace hx250_0:=(cell_far (p:=⟨gb249,2,none⟩) (by first|(rw [z25];exact hn250_2)|(show (Addr.add _ _).block≠_;rw [z25];exact hn250_2)|exact hn250_2) (.int .i64 ((z06 l0_5 a1).f2))).trans hx250_0;replace hx250_0:=(cell_far (p:=⟨gb249,3,none⟩) (by first|(rw [z25];exact hn250_3)|(show (Addr.add _ _).block≠_;rw [z25];exact hn250_3)|exact hn250_3) (.int .i64 ((z06 l0_5 a1).f3))).trans hx250_0;replace hx250_0:=(cell_far (p:=⟨gb249,4,none⟩) (by first|(rw [z25];exact hn250_4)|(show (Addr.add _ _).block≠_;rw [z25];exact hn250_4)|exact hn250_4) (.int .u64 ((z06 l0_5 a1).f4))).trans hx250_0;clear hn250_0;clear hn250_1;clear hn250_2;clear hn250_3;clear hn250_4;replace p250:=eq_true p250;replace q250:=eq_true q250))
           go_ret
           exact ⟨by first|rfl|(simp [z0g,z0f] <;> rfl)|(simp [*,z0g,z0f] <;> rfl),by repeat (first|(with_reducible first|exact HB.out|apply z04|apply z03|apply z05|refine z07 ?_ GE247.out|refine z07 ?_ GE249.out)|exact HB.out)⟩
          ·rw [if_neg c32] at H;exact absurd H (by simp)
         ·rw [if_neg c31] at H;exact absurd H (by simp)
        ·rw [if_neg c30] at H;have c30b0:(((z06 l0_5 a1).f0) == 23)=false:=beq_eq_false_iff_ne.mpr c30;have c30b1:(((z06 l0_5 a1).f0) != 23)=true:=bne_iff_ne.mpr c30
         by_cases c38:((z06 l0_5 a1).f0)=24
         ·rw [if_pos c38] at H;have c38b0:(((z06 l0_5 a1).f0) == 24)=true:=beq_iff_eq.mpr c38;have c38b1:(((z06 l0_5 a1).f0) != 24)=false:=bne_eq_false_iff_eq.mpr c38;clear c38
          by_cases c39:a2 > 0
          ·rw [if_pos c39] at H;have c39b0:decide (0 < a2)=true:=decide_eq_true c39;clear c39;obtain ⟨ji40,hji40⟩:∃ j_:Int,(wrap64 (a2 - 1))=j_:=⟨_,rfl⟩;replace H:(if 0≤(ji40) then (if (ji40) < (l0_5.length:Int) then (if ((z06 l0_5 (ji40)).f0)=23 then ((z0i.f kj3 a0_0 a0_1 a0_2 l0_3 l0_4 l0_5 a1).bind fun t253=>(some ((wrap64 ((z06 l0_5 (ji40)).f4)) == t253))) else (some false)) else (none)) else (none))=some r:=by first|(rw [hji40] at H;exact H)|(simp only [hji40] at H ⊢;exact H)
           have hji40w:(IntKind.i64.wrap (a2 - 1))=ji40:=(i64_w _).trans hji40
           by_cases c41:0≤(ji40)
           ·rw [if_pos c41] at H;have c41b0:decide (0≤(ji40))=true:=decide_eq_true c41;clear c41
            by_cases c42:(ji40) < (l0_5.length:Int)
            ·rw [if_pos c42] at H;have c42b0:decide ((ji40) < (l0_5.length:Int))=true:=decide_eq_true c42;clear c42
             by_cases c43:((z06 l0_5 (ji40)).f0)=23
             ·rw [if_pos c43] at H;have c43b0:(((z06 l0_5 (ji40)).f0) == 23)=true:=beq_iff_eq.mpr c43;have c43b1:(((z06 l0_5 (ji40)).f0) != 23)=false:=bne_eq_false_iff_eq.mpr c43;clear c43;replace H:=Option.bind_eq_some_iff.mp H;obtain ⟨t253,A440,H⟩:=H;skip;have A44:=Aside0.mk A440;clear A440;obtain rfl:=Option.some.inj H;have hcz45_0:wc.cell? ⟨gb247,0,none⟩=some (.int .i64 a0_0):=(z02 BK247.out 0).trans rfl;have hcz45_1:wc.cell? ⟨gb247,1,none⟩=some (.int .i64 a0_1):=(z02 BK247.out 1).trans rfl;have hcz45_2:wc.cell? ⟨gb247,2,none⟩=some (.int .i64 a0_2):=(z02 BK247.out 2).trans rfl;have hcz45_3:wc.cell? ⟨gb247,3,none⟩=some (.slice A0_3 l0_3.length c0_3):=(z02 BK247.out 3).trans rfl;have hcz45_4:wc.cell? ⟨gb247,4,none⟩=some (.slice A0_4 l0_4.length c0_4):=(z02 BK247.out 4).trans rfl;have hcz45_5:wc.cell? ⟨gb247,5,none⟩=some (.slice A0_5 l0_5.length c0_5):=(z02 BK247.out 5).trans rfl;have hfz45_0:=z01 BK247.out 0;have hfz45_1:=z01 BK247.out 1;have hfz45_2:=z01 BK247.out 2;have hfz45_3:=z01 BK247.out 3;have hfz45_4:=z01 BK247.out 4;have hfz45_5:=z01 BK247.out 5;have p248:0≤(a1:Int):=of_decide_eq_true (by assumption);have q248:a1 < (l0_5.length:Int):=of_decide_eq_true (by assumption);obtain ⟨ad248,e248,hx248_0,hx248_1,hx248_2,hx248_3,hx248_4⟩:=z22 HR0_5.out a1 p248 q248;cases e248;replace hx248_0:=(HB.out.cell (World.block_lt_of_cell? w _ hx248_0)).trans hx248_0;replace hx248_1:=(HB.out.cell (World.block_lt_of_cell? w _ hx248_1)).trans hx248_1;replace hx248_2:=(HB.out.cell (World.block_lt_of_cell? w _ hx248_2)).trans hx248_2;replace hx248_3:=(HB.out.cell (World.block_lt_of_cell? w _ hx248_3)).trans hx248_3;replace hx248_4:=(HB.out.cell (World.block_lt_of_cell? w _ hx248_4)).trans hx248_4;replace p248:=eq_true p248;replace q248:=eq_true q248;try go_wp2_with (first|((with_reducible refine z12 (N:=7) rfl ?_);(try (refine z1p (by rfl) ?_;dsimp only));refine z17 ?hg (N:=7) ?hd (cs:=#[.int .i64 0,.int .i64 0,.int .i64 0,.int .i64 0,.int .u64 0]) (t:=79) ?hr ?_;(case hd=>rfl);(case hg=>rfl);(case hr=>first|(go_simp;done)|(go_simp;rfl));intro gb249 hg w46 hbox hb;have n0_:=Aside0.mk (z0z (g:=gb247) (o:=.cells #[.int .i64 a0_0,.int .i64 a0_1,.int .i64 a0_2,.slice A0_3 l0_3.length c0_3,.slice A0_4 l0_4.length c0_4,.slice (some ad248) l0_5.length c0_5] 26 (0,0)) (by (with_reducible repeat (first|refine z09 ?_ _|refine z0a ?_|refine z08 ?_ _));exact BK247.out) hb);have n1_:=Aside0.mk (z0o (by repeat (first|(with_reducible first|exact HB.out|apply z04|apply z03|apply z05|refine z07 ?_ GE247.out)|exact HB.out)) hb);have n2_:=Aside0.mk (hbox);have n3_:=Aside0.mk ((by rw [hg];exact (z0h (by repeat (first|(with_reducible first|exact HB.out|apply z04|apply z03|apply z05|refine z07 ?_ GE247.out)|exact HB.out))):w.heap.size≤gb249));have n4_:=Aside0.mk ((by rw [hg];exact (z0h (by repeat (first|(with_reducible first|exact HB.out|apply z04|apply z03|apply z05|refine z07 ?_ GE247.out)|exact HB.out))):w.heap.size≤gb249));have n5_:=Aside0.mk ((by rw [hg];exact Nat.ne_of_lt (z15 (g:=gb247) (o:=.cells #[.int .i64 a0_0,.int .i64 a0_1,.int .i64 a0_2,.slice A0_3 l0_3.length c0_3,.slice A0_4 l0_4.length c0_4,.slice (some ad248) l0_5.length c0_5] 26 (0,0)) (by (with_reducible repeat (first|refine z09 ?_ _|refine z0a ?_|refine z08 ?_ _));exact BK247.out)):gb247≠gb249));have n6_:=Aside0.mk ((by rw [hg];exact Nat.ne_of_gt (z15 (g:=gb247) (o:=.cells #[.int .i64 a0_0,.int .i64 a0_1,.int .i64 a0_2,.slice A0_3 l0_3.length c0_3,.slice A0_4 l0_4.length c0_4,.slice (some ad248) l0_5.length c0_5] 26 (0,0)) (by (with_reducible repeat (first|refine z09 ?_ _|refine z0a ?_|refine z08 ?_ _));exact BK247.out)):gb249≠gb247));clear BK247;clear HB;have BK247:=n0_;have HB:=n1_;have BK249:=n2_;have GW249:=n3_;have GE249:=n4_;have NB247_249:=n5_;have NB249_247:=n6_;clear n0_ n1_ n2_ n3_ n4_ n5_ n6_;clear hb hbox hg;have hnb47:=NB249_247.out;have hnc47:=NB247_249.out;have hcz48_0:w46.cell? ⟨gb249,0,none⟩=some (.int .i64 0):=(z02 BK249.out 0).trans rfl;have hcz48_1:w46.cell? ⟨gb249,1,none⟩=some (.int .i64 0):=(z02 BK249.out 1).trans rfl;have hcz48_2:w46.cell? ⟨gb249,2,none⟩=some (.int .i64 0):=(z02 BK249.out 2).trans rfl;have hcz48_3:w46.cell? ⟨gb249,3,none⟩=some (.int .i64 0):=(z02 BK249.out 3).trans rfl;have hcz48_4:w46.cell? ⟨gb249,4,none⟩=some (.int .u64 0):=(z02 BK249.out 4).trans rfl;have hfz48_0:=z01 BK249.out 0;have hfz48_1:=z01 BK249.out 1;have hfz48_2:=z01 BK249.out 2;have hfz48_3:=z01 BK249.out 3;have hfz48_4:=z01 BK249.out 4))
              have n0_:Aside0 ((((((w46.setCell ⟨gb249,0,none⟩ (.int .i64 ((z06 l0_5 a1).f0))).setCell ⟨gb249,1,none⟩ (.int .i64 ((z06 l0_5 a1).f1))).setCell ⟨gb249,2,none⟩ (.int .i64 ((z06 l0_5 a1).f2))).setCell ⟨gb249,3,none⟩ (.int .i64 ((z06 l0_5 a1).f3))).setCell ⟨gb249,4,none⟩ (.int .u64 ((z06 l0_5 a1).f4))).heap[gb247]?=some (.cells #[.int .i64 a0_0,.int .i64 a0_1,.int .i64 a0_2,.slice A0_3 l0_3.length c0_3,.slice A0_4 l0_4.length c0_4,.slice (some ad248) l0_5.length c0_5] 26 (0,0))):=⟨by (repeat first|(with_reducible first|refine z09 ?_ _|refine z0a ?_|refine z08 ?_ _)|refine z11 ?_ NB247_249.out _);exact BK247.out⟩;have n1_:Aside0 ((((((w46.setCell ⟨gb249,0,none⟩ (.int .i64 ((z06 l0_5 a1).f0))).setCell ⟨gb249,1,none⟩ (.int .i64 ((z06 l0_5 a1).f1))).setCell ⟨gb249,2,none⟩ (.int .i64 ((z06 l0_5 a1).f2))).setCell ⟨gb249,3,none⟩ (.int .i64 ((z06 l0_5 a1).f3))).setCell ⟨gb249,4,none⟩ (.int .u64 ((z06 l0_5 a1).f4))).heap[gb249]?=some (.cells #[.int .i64 ((z06 l0_5 a1).f0),.int .i64 ((z06 l0_5 a1).f1),.int .i64 ((z06 l0_5 a1).f2),.int .i64 ((z06 l0_5 a1).f3),.int .u64 ((z06 l0_5 a1).f4)] 79 (0,0))):=⟨by (with_reducible repeat (first|refine z09 ?_ _|refine z0a ?_|refine z08 ?_ _));refine z10 (cs:=#[.int .i64 ((z06 l0_5 a1).f0),.int .i64 ((z06 l0_5 a1).f1),.int .i64 ((z06 l0_5 a1).f2),.int .i64 ((z06 l0_5 a1).f3),.int .u64 0]) ?_ 4 _ rfl;(with_reducible repeat (first|refine z09 ?_ _|refine z0a ?_|refine z08 ?_ _));refine z10 (cs:=#[.int .i64 ((z06 l0_5 a1).f0),.int .i64 ((z06 l0_5 a1).f1),.int .i64 ((z06 l0_5 a1).f2),.int .i64 0,.int .u64 0]) ?_ 3 _ rfl;(with_reducible repeat (first|refine z09 ?_ _|refine z0a ?_|refine z08 ?_ _));refine z10 (cs:=#[.int .i64 ((z06 l0_5 a1).f0),.int .i64 ((z06 l0_5 a1).f1),.int .i64 0,.int .i64 0,.int .u64 0]) ?_ 2 _ rfl;(with_reducible repeat (first|refine z09 ?_ _|refine z0a ?_|refine z08 ?_ _));refine z10 (cs:=#[.int .i64 ((z06 l0_5 a1).f0),.int .i64 0,.int .i64 0,.int .i64 0,.int .u64 0]) ?_ 1 _ rfl;(with_reducible repeat (first|refine z09 ?_ _|refine z0a ?_|refine z08 ?_ _));refine z10 (cs:=#[.int .i64 0,.int .i64 0,.int .i64 0,.int .i64 0,.int .u64 0]) ?_ 0 _ rfl;(with_reducible repeat (first|refine z09 ?_ _|refine z0a ?_|refine z08 ?_ _));exact BK249.out⟩;have n2_:Aside0 (Below w.heap.size w (((((w46.setCell ⟨gb249,0,none⟩ (.int .i64 ((z06 l0_5 a1).f0))).setCell ⟨gb249,1,none⟩ (.int .i64 ((z06 l0_5 a1).f1))).setCell ⟨gb249,2,none⟩ (.int .i64 ((z06 l0_5 a1).f2))).setCell ⟨gb249,3,none⟩ (.int .i64 ((z06 l0_5 a1).f3))).setCell ⟨gb249,4,none⟩ (.int .u64 ((z06 l0_5 a1).f4)))):=⟨by repeat (first|(with_reducible first|exact HB.out|apply z04|apply z03|apply z05|refine z07 ?_ GE247.out|refine z07 ?_ GE249.out)|exact HB.out)⟩
              (try clear BK247)
              (try clear BK249)
              (try clear HB)
              generalize (((((w46.setCell ⟨gb249,0,none⟩ (.int .i64 ((z06 l0_5 a1).f0))).setCell ⟨gb249,1,none⟩ (.int .i64 ((z06 l0_5 a1).f1))).setCell ⟨gb249,2,none⟩ (.int .i64 ((z06 l0_5 a1).f2))).setCell ⟨gb249,3,none⟩ (.int .i64 ((z06 l0_5 a1).f3))).setCell ⟨gb249,4,none⟩ (.int .u64 ((z06 l0_5 a1).f4)))=w49 at n0_ n1_ n2_ ⊢;have BK247:=n0_;have BK249:=n1_;have HB:=n2_;clear n0_ n1_ n2_;have n0_:=Aside0.mk (z0a BK247.out);have n1_:=Aside0.mk (z0a BK249.out);have n2_:=Aside0.mk (z05 HB.out);clear BK247;clear BK249;clear HB;have BK247:=n0_;have BK249:=n1_;have HB:=n2_;clear n0_ n1_ n2_;have p251:0≤((ji40):Int):=of_decide_eq_true (by assumption);have q251:(ji40) < (l0_5.length:Int):=of_decide_eq_true (by assumption);obtain ⟨ad251,e251,hx251_0,hx251_1,hx251_2,hx251_3,hx251_4⟩:=z22 HR0_5.out (ji40) p251 q251;have hw251_4:=hx251_4;have hw251_3:=hx251_3;have hw251_2:=hx251_2;have hw251_1:=hx251_1;have hw251_0:=hx251_0;obtain rfl:ad248=ad251:=(by injection e251);replace hx251_0:=(HB.out.cell (World.block_lt_of_cell? w _ hx251_0)).trans hx251_0;replace hx251_1:=(HB.out.cell (World.block_lt_of_cell? w _ hx251_1)).trans hx251_1;replace hx251_2:=(HB.out.cell (World.block_lt_of_cell? w _ hx251_2)).trans hx251_2;replace hx251_3:=(HB.out.cell (World.block_lt_of_cell? w _ hx251_3)).trans hx251_3;replace hx251_4:=(HB.out.cell (World.block_lt_of_cell? w _ hx251_4)).trans hx251_4;replace p251:=eq_true p251;replace q251:=eq_true q251;have p252:0≤((ji40):Int):=of_decide_eq_true (by assumption);have q252:(ji40) < (l0_5.length:Int):=of_decide_eq_true (by assumption);obtain ⟨ad252,e252,hx252_0,hx252_1,hx252_2,hx252_3,hx252_4⟩:=z22 HR0_5.out (ji40) p252 q252;have hw252_4:=hx252_4;have hw252_3:=hx252_3;have hw252_2:=hx252_2;have hw252_1:=hx252_1;have hw252_0:=hx252_0;obtain rfl:ad248=ad252:=(by injection e252);replace hx252_0:=(HB.out.cell (World.block_lt_of_cell? w _ hx252_0)).trans hx252_0;replace hx252_1:=(HB.out.cell (World.block_lt_of_cell? w _ hx252_1)).trans hx252_1;replace hx252_2:=(HB.out.cell (World.block_lt_of_cell? w _ hx252_2)).trans hx252_2;replace hx252_3:=(HB.out.cell (World.block_lt_of_cell? w _ hx252_3)).trans hx252_3;replace hx252_4:=(HB.out.cell (World.block_lt_of_cell? w _ hx252_4)).trans hx252_4;replace p252:=eq_true p252;replace q252:=eq_true q252;refine z2u (n:=27) (S:=fun w'=>w'.cell? ⟨gb247,0,none⟩=some (.int .i64 a0_0)∧w'.cell? ⟨gb247,1,none⟩=some (.int .i64 a0_1)∧w'.cell? ⟨gb247,2,none⟩=some (.int .i64 a0_2)∧w'.cell? ⟨gb247,3,none⟩=some (.slice A0_3 l0_3.length c0_3)∧w'.cell? ⟨gb247,4,none⟩=some (.slice A0_4 l0_4.length c0_4)∧w'.cell? ⟨gb247,5,none⟩=some (.slice (some ad248) l0_5.length c0_5)∧w'.cell? (ad248.add (((ji40)).toNat * 5))=some (.int .i64 ((z06 l0_5 (ji40)).f0))∧w'.cell? ⟨(ad248.add (((ji40)).toNat * 5)).block,(ad248.add (((ji40)).toNat * 5)).off+1,none⟩=some (.int .i64 ((z06 l0_5 (ji40)).f1))∧w'.cell? ⟨(ad248.add (((ji40)).toNat * 5)).block,(ad248.add (((ji40)).toNat * 5)).off+2,none⟩=some (.int .i64 ((z06 l0_5 (ji40)).f2))∧w'.cell? ⟨(ad248.add (((ji40)).toNat * 5)).block,(ad248.add (((ji40)).toNat * 5)).off+3,none⟩=some (.int .i64 ((z06 l0_5 (ji40)).f3))∧w'.cell? ⟨(ad248.add (((ji40)).toNat * 5)).block,(ad248.add (((ji40)).toNat * 5)).off+4,none⟩=some (.int .u64 ((z06 l0_5 (ji40)).f4))∧w'.cell? (ad248.add (((ji40)).toNat * 5))=some (.int .i64 ((z06 l0_5 (ji40)).f0))∧w'.cell? ⟨(ad248.add (((ji40)).toNat * 5)).block,(ad248.add (((ji40)).toNat * 5)).off+1,none⟩=some (.int .i64 ((z06 l0_5 (ji40)).f1))∧w'.cell? ⟨(ad248.add (((ji40)).toNat * 5)).block,(ad248.add (((ji40)).toNat * 5)).off+2,none⟩=some (.int .i64 ((z06 l0_5 (ji40)).f2))∧w'.cell? ⟨(ad248.add (((ji40)).toNat * 5)).block,(ad248.add (((ji40)).toNat * 5)).off+3,none⟩=some (.int .i64 ((z06 l0_5 (ji40)).f3))∧w'.cell? ⟨(ad248.add (((ji40)).toNat * 5)).block,(ad248.add (((ji40)).toNat * 5)).off+4,none⟩=some (.int .u64 ((z06 l0_5 (ji40)).f4))) (ds:=[]) #[zf,zf,zf,zf,zf,zf,zf,zf,zf,zf,zf,zf,zf,zf,zf,zf,zf,zf,zf,zf,zf,zf,zf,zf,zf,zf,zf] (by kernel_rfl) rfl rfl ⟨(z02 BK247.out 0).trans rfl,(z02 BK247.out 1).trans rfl,(z02 BK247.out 2).trans rfl,(z02 BK247.out 3).trans rfl,(z02 BK247.out 4).trans rfl,(z02 BK247.out 5).trans rfl,((HB.out.cell (World.block_lt_of_cell? w _ hw251_0)).trans hw251_0),((HB.out.cell (World.block_lt_of_cell? w _ hw251_1)).trans hw251_1),((HB.out.cell (World.block_lt_of_cell? w _ hw251_2)).trans hw251_2),((HB.out.cell (World.block_lt_of_cell? w _ hw251_3)).trans hw251_3),((HB.out.cell (World.block_lt_of_cell? w _ hw251_4)).trans hw251_4),((HB.out.cell (World.block_lt_of_cell? w _ hw252_0)).trans hw252_0),((HB.out.cell (World.block_lt_of_cell? w _ hw252_1)).trans hw252_1),((HB.out.cell (World.block_lt_of_cell? w _ hw252_2)).trans hw252_2),((HB.out.cell (World.block_lt_of_cell? w _ hw252_3)).trans hw252_3),((HB.out.cell (World.block_lt_of_cell? w _ hw252_4)).trans hw252_4)⟩ (fun hHeld=>?_);refine with_tabW z0s.tab12 z0s.bits12 (fun HT_ HW_=>?_);generalize w49.drew=w50 at BK247 BK249 HB hx251_0 hx251_1 hx251_2 hx251_3 hx251_4 hx252_0 hx252_1 hx252_2 hx252_3 hx252_4 hHeld ⊢;refine pure_ (i:=0) (N:=some 67) (v:=?_) (a':=?_) #[zt,zf,zf,zf,zf,zf,zf,zf,zf,zf,zf,zf,zf,zf,zf,zf,zf,zf,zf,zf,zf,zf,zf,zf,zf,zf,zf] rfl rfl (z18 HT_.out (by kernel_rfl)) (fun _ _ _ h=>h) (Or.inl ⟨by rfl,?_⟩) ?_ ?_;rotate_left
              ·intro w';go_simp;with_reducible rfl
              rotate_left
              ·simp only [Act.put,zq1,zq2,zq3,i64_w,i32_w];rfl
              refine pure_ (i:=1) (N:=some 68) (v:=?_) (a':=?_) #[zt,zt,zf,zf,zf,zf,zf,zf,zf,zf,zf,zf,zf,zf,zf,zf,zf,zf,zf,zf,zf,zf,zf,zf,zf,zf,zf] rfl rfl (z18 HT_.out (by kernel_rfl)) (fun _ _ _ h=>h) (Or.inl ⟨by rfl,?_⟩) ?_ ?_;rotate_left
              ·intro w';go_simp;with_reducible rfl
              rotate_left
              ·simp only [Act.put,zq1,zq2,zq3,i64_w,i32_w];rfl
              refine pure_ (i:=2) (N:=some 69) (v:=?_) (a':=?_) #[zt,zt,zt,zf,zf,zf,zf,zf,zf,zf,zf,zf,zf,zf,zf,zf,zf,zf,zf,zf,zf,zf,zf,zf,zf,zf,zf] rfl rfl (z18 HT_.out (by kernel_rfl)) (fun _ _ _ h=>h) (Or.inl ⟨by rfl,?_⟩) ?_ ?_;rotate_left
              ·intro w';go_simp;with_reducible rfl
              rotate_left
              ·simp only [Act.put,zq1,zq2,zq3,i64_w,i32_w];rfl
              refine pure_ (i:=3) (N:=some 70) (v:=?_) (a':=?_) #[zt,zt,zt,zt,zf,zf,zf,zf,zf,zf,zf,zf,zf,zf,zf,zf,zf,zf,zf,zf,zf,zf,zf,zf,zf,zf,zf] rfl rfl (z18 HT_.out (by kernel_rfl)) (fun _ _ _ h=>h) (Or.inl ⟨by rfl,?_⟩) ?_ ?_;rotate_left
              ·intro w';go_simp;with_reducible rfl
              rotate_left
              ·simp only [Act.put,zq1,zq2,zq3,i64_w,i32_w];rfl
              refine pure_ (i:=5) (N:=some 72) (v:=?_) (a':=?_) #[zt,zt,zt,zt,zf,zt,zf,zf,zf,zf,zf,zf,zf,zf,zf,zf,zf,zf,zf,zf,zf,zf,zf,zf,zf,zf,zf] rfl rfl (z18 HT_.out (by kernel_rfl)) (fun _ _ _ h=>h) (Or.inl ⟨by rfl,?_⟩) ?_ ?_;rotate_left
              ·intro w';go_simp;with_reducible rfl
              rotate_left
              ·simp only [Act.put,zq1,zq2,zq3,i64_w,i32_w];rfl
              refine pure_ (i:=6) (N:=some 73) (v:=?_) (a':=?_) #[zt,zt,zt,zt,zf,zt,zt,zf,zf,zf,zf,zf,zf,zf,zf,zf,zf,zf,zf,zf,zf,zf,zf,zf,zf,zf,zf] rfl rfl (z18 HT_.out (by kernel_rfl)) (fun _ _ _ h=>h) (Or.inl ⟨by rfl,?_⟩) ?_ ?_;rotate_left
              ·intro w';go_simp;with_reducible rfl
              rotate_left
              ·simp only [Act.put,zq1,zq2,zq3,i64_w,i32_w];rfl
              refine take_ (i:=4) (N:=some 71) (v:=?_) (a':=?_) #[zt,zt,zt,zt,zt,zt,zt,zf,zf,zf,zf,zf,zf,zf,zf,zf,zf,zf,zf,zf,zf,zf,zf,zf,zf,zf,zf] rfl rfl (z32 HT_.out HW_.out (by kernel_rfl)) (fun _ _ _ h=>h) (Or.inl ⟨by rfl,?_⟩) hHeld ?_ ?_;rotate_left
              ·rintro w' ⟨s0,s1,s2,s3,s4,s5,s6,s7,s8,s9,s10,s11,s12,s13,s14,s15⟩;go_simp;with_reducible rfl
              rotate_left
              ·simp only [Act.put,zq1,zq2,zq3,i64_w,i32_w];rfl
              refine pure_ (i:=7) (N:=some 74) (v:=?_) (a':=?_) #[zt,zt,zt,zt,zt,zt,zt,zt,zf,zf,zf,zf,zf,zf,zf,zf,zf,zf,zf,zf,zf,zf,zf,zf,zf,zf,zf] rfl rfl (z18 HT_.out (by kernel_rfl)) (fun _ _ _ h=>h) (Or.inl ⟨by rfl,?_⟩) ?_ ?_;rotate_left
              ·intro w';go_simp;with_reducible rfl
              rotate_left
              ·simp only [Act.put,zq1,zq2,zq3,i64_w,i32_w];rfl
              refine pure_ (i:=8) (N:=some 75) (v:=?_) (a':=?_) #[zt,zt,zt,zt,zt,zt,zt,zt,zt,zf,zf,zf,zf,zf,zf,zf,zf,zf,zf,zf,zf,zf,zf,zf,zf,zf,zf] rfl rfl (z18 HT_.out (by kernel_rfl)) (fun _ _ _ h=>h) (Or.inl ⟨by rfl,?_⟩) ?_ ?_;rotate_left
              ·intro w';go_simp;with_reducible rfl
              rotate_left
              ·simp only [Act.put,zq1,zq2,zq3,i64_w,i32_w];rfl
              refine take_ (i:=9) (N:=some 76) (v:=?_) (a':=?_) #[zt,zt,zt,zt,zt,zt,zt,zt,zt,zt,zf,zf,zf,zf,zf,zf,zf,zf,zf,zf,zf,zf,zf,zf,zf,zf,zf] rfl rfl (z32 HT_.out HW_.out (by kernel_rfl)) (fun _ _ _ h=>h) (Or.inl ⟨by rfl,?_⟩) hHeld ?_ ?_;rotate_left
              ·rintro w' ⟨s0,s1,s2,s3,s4,s5,s6,s7,s8,s9,s10,s11,s12,s13,s14,s15⟩;go_simp;with_reducible rfl
              rotate_left
              ·simp only [Act.put,zq1,zq2,zq3,i64_w,i32_w];rfl
              refine pure_ (i:=10) (N:=some 77) (v:=?_) (a':=?_) #[zt,zt,zt,zt,zt,zt,zt,zt,zt,zt,zt,zf,zf,zf,zf,zf,zf,zf,zf,zf,zf,zf,zf,zf,zf,zf,zf] rfl rfl (z18 HT_.out (by kernel_rfl)) (fun _ _ _ h=>h) (Or.inl ⟨by rfl,?_⟩) ?_ ?_;rotate_left
              ·intro w';go_simp;with_reducible rfl
              rotate_left
              ·simp only [Act.put,zq1,zq2,zq3,i64_w,i32_w];rfl
              refine pure_ (i:=11) (N:=some 78) (v:=?_) (a':=?_) #[zt,zt,zt,zt,zt,zt,zt,zt,zt,zt,zt,zt,zf,zf,zf,zf,zf,zf,zf,zf,zf,zf,zf,zf,zf,zf,zf] rfl rfl (z18 HT_.out (by kernel_rfl)) (fun _ _ _ h=>h) (Or.inl ⟨by rfl,?_⟩) ?_ ?_;rotate_left
              ·intro w';go_simp;with_reducible rfl
              rotate_left
              ·simp only [Act.put,zq1,zq2,zq3,i64_w,i32_w];rfl
              refine pure_ (i:=12) (N:=some 79) (v:=?_) (a':=?_) #[zt,zt,zt,zt,zt,zt,zt,zt,zt,zt,zt,zt,zt,zf,zf,zf,zf,zf,zf,zf,zf,zf,zf,zf,zf,zf,zf] rfl rfl (z18 HT_.out (by kernel_rfl)) (fun _ _ _ h=>h) (Or.inl ⟨by rfl,?_⟩) ?_ ?_;rotate_left
              ·intro w';go_simp;with_reducible rfl
              rotate_left
              ·simp only [Act.put,zq1,zq2,zq3,i64_w,i32_w];rfl
              refine pure_ (i:=13) (N:=some 80) (v:=?_) (a':=?_) #[zt,zt,zt,zt,zt,zt,zt,zt,zt,zt,zt,zt,zt,zt,zf,zf,zf,zf,zf,zf,zf,zf,zf,zf,zf,zf,zf] rfl rfl (z18 HT_.out (by kernel_rfl)) (fun _ _ _ h=>h) (Or.inl ⟨by rfl,?_⟩) ?_ ?_;rotate_left
              ·intro w';go_simp;with_reducible rfl
              rotate_left
              ·simp only [Act.put,zq1,zq2,zq3,i64_w,i32_w];rfl
              refine pure_ (i:=15) (N:=some 82) (v:=?_) (a':=?_) #[zt,zt,zt,zt,zt,zt,zt,zt,zt,zt,zt,zt,zt,zt,zf,zt,zf,zf,zf,zf,zf,zf,zf,zf,zf,zf,zf] rfl rfl (z18 HT_.out (by kernel_rfl)) (fun _ _ _ h=>h) (Or.inl ⟨by rfl,?_⟩) ?_ ?_;rotate_left
              ·intro w';go_simp;with_reducible rfl
              rotate_left
              ·simp only [Act.put,zq1,zq2,zq3,i64_w,i32_w];rfl
              refine pure_ (i:=16) (N:=some 83) (v:=?_) (a':=?_) #[zt,zt,zt,zt,zt,zt,zt,zt,zt,zt,zt,zt,zt,zt,zf,zt,zt,zf,zf,zf,zf,zf,zf,zf,zf,zf,zf] rfl rfl (z18 HT_.out (by kernel_rfl)) (fun _ _ _ h=>h) (Or.inl ⟨by rfl,?_⟩) ?_ ?_;rotate_left
              ·intro w';go_simp;with_reducible rfl
              rotate_left
              ·simp only [Act.put,zq1,zq2,zq3,i64_w,i32_w];rfl
              refine pure_ (i:=22) (N:=some 89) (v:=?_) (a':=?_) #[zt,zt,zt,zt,zt,zt,zt,zt,zt,zt,zt,zt,zt,zt,zf,zt,zt,zf,zf,zf,zf,zf,zt,zf,zf,zf,zf] rfl rfl (z18 HT_.out (by kernel_rfl)) (fun _ _ _ h=>h) (Or.inl ⟨by rfl,?_⟩) ?_ ?_;rotate_left
              ·intro w';go_simp;with_reducible rfl
              rotate_left
              ·simp only [Act.put,zq1,zq2,zq3,i64_w,i32_w];rfl
              refine take_ (i:=14) (N:=some 81) (v:=?_) (a':=?_) #[zt,zt,zt,zt,zt,zt,zt,zt,zt,zt,zt,zt,zt,zt,zt,zt,zt,zf,zf,zf,zf,zf,zt,zf,zf,zf,zf] rfl rfl (z32 HT_.out HW_.out (by kernel_rfl)) (fun _ _ _ h=>h) (Or.inl ⟨by rfl,?_⟩) hHeld ?_ ?_;rotate_left
              ·rintro w' ⟨s0,s1,s2,s3,s4,s5,s6,s7,s8,s9,s10,s11,s12,s13,s14,s15⟩;go_simp;with_reducible rfl
              rotate_left
              ·simp only [Act.put,zq1,zq2,zq3,i64_w,i32_w];rfl
              refine pure_ (i:=17) (N:=some 84) (v:=?_) (a':=?_) #[zt,zt,zt,zt,zt,zt,zt,zt,zt,zt,zt,zt,zt,zt,zt,zt,zt,zt,zf,zf,zf,zf,zt,zf,zf,zf,zf] rfl rfl (z18 HT_.out (by kernel_rfl)) (fun _ _ _ h=>h) (Or.inl ⟨by rfl,?_⟩) ?_ ?_;rotate_left
              ·intro w';go_simp;with_reducible rfl
              rotate_left
              ·simp only [Act.put,zq1,zq2,zq3,i64_w,i32_w];rfl
              refine pure_ (i:=18) (N:=some 85) (v:=?_) (a':=?_) #[zt,zt,zt,zt,zt,zt,zt,zt,zt,zt,zt,zt,zt,zt,zt,zt,zt,zt,zt,zf,zf,zf,zt,zf,zf,zf,zf] rfl rfl (z18 HT_.out (by kernel_rfl)) (fun _ _ _ h=>h) (Or.inl ⟨by rfl,?_⟩) ?_ ?_;rotate_left
              ·intro w';go_simp;with_reducible rfl
              rotate_left
              ·simp only [Act.put,zq1,zq2,zq3,i64_w,i32_w];rfl
              refine take_ (i:=19) (N:=some 86) (v:=?_) (a':=?_) #[zt,zt,zt,zt,zt,zt,zt,zt,zt,zt,zt,zt,zt,zt,zt,zt,zt,zt,zt,zt,zf,zf,zt,zf,zf,zf,zf] rfl rfl (z32 HT_.out HW_.out (by kernel_rfl)) (fun _ _ _ h=>h) (Or.inl ⟨by rfl,?_⟩) hHeld ?_ ?_;rotate_left
              ·rintro w' ⟨s0,s1,s2,s3,s4,s5,s6,s7,s8,s9,s10,s11,s12,s13,s14,s15⟩;go_simp;with_reducible rfl
              rotate_left
              ·simp only [Act.put,zq1,zq2,zq3,i64_w,i32_w];rfl
              refine pure_ (i:=20) (N:=some 87) (v:=?_) (a':=?_) #[zt,zt,zt,zt,zt,zt,zt,zt,zt,zt,zt,zt,zt,zt,zt,zt,zt,zt,zt,zt,zt,zf,zt,zf,zf,zf,zf] rfl rfl (z18 HT_.out (by kernel_rfl)) (fun _ _ _ h=>h) (Or.inl ⟨by rfl,?_⟩) ?_ ?_;rotate_left
              ·intro w';go_simp;with_reducible rfl
              rotate_left
              ·simp only [Act.put,zq1,zq2,zq3,i64_w,i32_w];rfl
              refine take_ (i:=21) (N:=some 88) (v:=?_) (a':=?_) #[zt,zt,zt,zt,zt,zt,zt,zt,zt,zt,zt,zt,zt,zt,zt,zt,zt,zt,zt,zt,zt,zt,zt,zf,zf,zf,zf] rfl rfl (z32 HT_.out HW_.out (by kernel_rfl)) (fun _ _ _ h=>h) (Or.inl ⟨by rfl,?_⟩) hHeld ?_ ?_;rotate_left
              ·rintro w' ⟨s0,s1,s2,s3,s4,s5,s6,s7,s8,s9,s10,s11,s12,s13,s14,s15⟩;go_simp;with_reducible rfl
              rotate_left
              ·simp only [Act.put,zq1,zq2,zq3,i64_w,i32_w];rfl
              refine one_ (i:=23) (N:=some 90) #[zt,zt,zt,zt,zt,zt,zt,zt,zt,zt,zt,zt,zt,zt,zt,zt,zt,zt,zt,zt,zt,zt,zt,zt,zf,zf,zf] rfl rfl (one_of HT_.out (by kernel_rfl)) (by decide) (fun K hK=>?_);refine goes_ Tryz.func65 (by kernel_rfl) rfl #[.agg #[.int .i64 a0_0,.int .i64 a0_1,.int .i64 a0_2,.slice A0_3 l0_3.length c0_3,.slice A0_4 l0_4.length c0_4,.slice (some ad248) l0_5.length c0_5],.int .i64 a1] (by rfl) rfl rfl (by (try simp only [List.map_toArray,List.map_cons,List.map_nil]);first|done|rfl) ?_;with_reducible refine (z0i.calls kj3 a0_0 a0_1 a0_2 _ _ l0_3 _ _ l0_4 _ _ l0_5 a1 t253 _ ?side1 ?side2 ?side3 ?side4 ?side5 ?side6 A44.out).mono ?_
              (case side1=>repeat (first|exact (Kd.C_below HR0_3.out HB.out)|(with_reducible refine Kd.C_alloc ?_ _)|(with_reducible refine Kd.C_drewN ?_ _)|(with_reducible refine Kd.C_drew ?_)))
              (case side2=>exact HC0_3.out)
              (case side3=>repeat (first|exact (Kd.C_below HR0_4.out HB.out)|(with_reducible refine Kd.C_alloc ?_ _)|(with_reducible refine Kd.C_drewN ?_ _)|(with_reducible refine Kd.C_drew ?_)))
              (case side4=>exact HC0_4.out)
              (case side5=>repeat (first|exact (Kd.C_below HR0_5.out HB.out)|(with_reducible refine Kd.C_alloc ?_ _)|(with_reducible refine Kd.C_drewN ?_ _)|(with_reducible refine Kd.C_drew ?_)))
              (case side6=>exact HC0_5.out)
              rintro e w51 ⟨rfl,hb⟩;refine ⟨_,rfl,?_⟩;have n0_:=Aside0.mk (z0z (g:=gb247) (o:=.cells #[.int .i64 a0_0,.int .i64 a0_1,.int .i64 a0_2,.slice A0_3 l0_3.length c0_3,.slice A0_4 l0_4.length c0_4,.slice (some ad248) l0_5.length c0_5] 26 (0,0)) (by (with_reducible repeat (first|refine z09 ?_ _|refine z0a ?_|refine z08 ?_ _));exact BK247.out) hb);have n1_:=Aside0.mk (z0z (g:=gb249) (o:=.cells #[.int .i64 ((z06 l0_5 a1).f0),.int .i64 ((z06 l0_5 a1).f1),.int .i64 ((z06 l0_5 a1).f2),.int .i64 ((z06 l0_5 a1).f3),.int .u64 ((z06 l0_5 a1).f4)] 79 (0,0)) (by (with_reducible repeat (first|refine z09 ?_ _|refine z0a ?_|refine z08 ?_ _));exact BK249.out) hb);have n2_:=Aside0.mk (z0o (by repeat (first|(with_reducible first|exact HB.out|apply z04|apply z03|apply z05|refine z07 ?_ GE247.out|refine z07 ?_ GE249.out)|exact HB.out)) hb);clear BK247;clear BK249;clear HB;have BK247:=n0_;have BK249:=n1_;have HB:=n2_;clear n0_ n1_ n2_
              (try clear hb)
              (try clear hb2)
              (try clear hk)
              (try clear hi)
              refine hK.out _ _ ⟨(z02 BK247.out 0).trans rfl,(z02 BK247.out 1).trans rfl,(z02 BK247.out 2).trans rfl,(z02 BK247.out 3).trans rfl,(z02 BK247.out 4).trans rfl,(z02 BK247.out 5).trans rfl,((HB.out.cell (World.block_lt_of_cell? w _ hw251_0)).trans hw251_0),((HB.out.cell (World.block_lt_of_cell? w _ hw251_1)).trans hw251_1),((HB.out.cell (World.block_lt_of_cell? w _ hw251_2)).trans hw251_2),((HB.out.cell (World.block_lt_of_cell? w _ hw251_3)).trans hw251_3),((HB.out.cell (World.block_lt_of_cell? w _ hw251_4)).trans hw251_4),((HB.out.cell (World.block_lt_of_cell? w _ hw252_0)).trans hw252_0),((HB.out.cell (World.block_lt_of_cell? w _ hw252_1)).trans hw252_1),((HB.out.cell (World.block_lt_of_cell? w _ hw252_2)).trans hw252_2),((HB.out.cell (World.block_lt_of_cell? w _ hw252_3)).trans hw252_3),((HB.out.cell (World.block_lt_of_cell? w _ hw252_4)).trans hw252_4)⟩ (fun hHeld=>?_);clear hK K;refine norm_ (a':=?_) ?_ ?_;rotate_left
              ·show Act.put _ (some 90) _=_;simp only [Act.put,zq1,zq2,zq3,i64_w,i32_w];rfl
              refine pure_ (i:=24) (N:=some 91) (v:=?_) (a':=?_) #[zt,zt,zt,zt,zt,zt,zt,zt,zt,zt,zt,zt,zt,zt,zt,zt,zt,zt,zt,zt,zt,zt,zt,zt,zt,zf,zf] rfl rfl (z18 HT_.out (by kernel_rfl)) (fun _ _ _ h=>h) (Or.inl ⟨by rfl,?_⟩) ?_ ?_;rotate_left
              ·intro w';go_simp;with_reducible rfl
              rotate_left
              ·simp only [Act.put,zq1,zq2,zq3,i64_w,i32_w];rfl
              refine pure_ (i:=25) (N:=some 92) (v:=?_) (a':=?_) #[zt,zt,zt,zt,zt,zt,zt,zt,zt,zt,zt,zt,zt,zt,zt,zt,zt,zt,zt,zt,zt,zt,zt,zt,zt,zt,zf] rfl rfl (z18 HT_.out (by kernel_rfl)) (fun _ _ _ h=>h) (Or.inl ⟨by rfl,?_⟩) ?_ ?_;rotate_left
              ·intro w';go_simp;with_reducible rfl
              rotate_left
              ·simp only [Act.put,zq1,zq2,zq3,i64_w,i32_w];rfl
              refine pure_ (i:=26) (N:=some 6) (v:=?_) (a':=?_) #[zt,zt,zt,zt,zt,zt,zt,zt,zt,zt,zt,zt,zt,zt,zt,zt,zt,zt,zt,zt,zt,zt,zt,zt,zt,zt,zt] rfl rfl (z18 HT_.out (by kernel_rfl)) (fun _ _ _ h=>h) (Or.inl ⟨by rfl,?_⟩) ?_ ?_;rotate_left
              ·intro w';go_simp;with_reducible rfl
              rotate_left
              ·simp only [Act.put,zq1,zq2,zq3,i64_w,i32_w];rfl
              refine done_ (done_of HT_.out (by kernel_rfl)) ?_;try go_wp2
              go_ret
              exact ⟨by first|rfl|(simp [z0g,z0f] <;> rfl)|(simp only [← hji40];first|rfl|(simp [z0g,z0f] <;> rfl))|(simp [*,z0g,z0f] <;> rfl),by repeat (first|(with_reducible first|exact HB.out|apply z04|apply z03|apply z05|refine z07 ?_ GE247.out|refine z07 ?_ GE249.out)|exact HB.out)⟩
             ·rw [if_neg c43] at H;have c43b0:(((z06 l0_5 (ji40)).f0) == 23)=false:=beq_eq_false_iff_ne.mpr c43;have c43b1:(((z06 l0_5 (ji40)).f0) != 23)=true:=bne_iff_ne.mpr c43;obtain rfl:=Option.some.inj H;have hcz52_0:wc.cell? ⟨gb247,0,none⟩=some (.int .i64 a0_0):=(z02 BK247.out 0).trans rfl;have hcz52_1:wc.cell? ⟨gb247,1,none⟩=some (.int .i64 a0_1):=(z02 BK247.out 1).trans rfl;have hcz52_2:wc.cell? ⟨gb247,2,none⟩=some (.int .i64 a0_2):=(z02 BK247.out 2).trans rfl;have hcz52_3:wc.cell? ⟨gb247,3,none⟩=some (.slice A0_3 l0_3.length c0_3):=(z02 BK247.out 3).trans rfl;have hcz52_4:wc.cell? ⟨gb247,4,none⟩=some (.slice A0_4 l0_4.length c0_4):=(z02 BK247.out 4).trans rfl;have hcz52_5:wc.cell? ⟨gb247,5,none⟩=some (.slice A0_5 l0_5.length c0_5):=(z02 BK247.out 5).trans rfl;have hfz52_0:=z01 BK247.out 0;have hfz52_1:=z01 BK247.out 1;have hfz52_2:=z01 BK247.out 2;have hfz52_3:=z01 BK247.out 3;have hfz52_4:=z01 BK247.out 4;have hfz52_5:=z01 BK247.out 5;have p248:0≤(a1:Int):=of_decide_eq_true (by assumption);have q248:a1 < (l0_5.length:Int):=of_decide_eq_true (by assumption);obtain ⟨ad248,e248,hx248_0,hx248_1,hx248_2,hx248_3,hx248_4⟩:=z22 HR0_5.out a1 p248 q248;cases e248;replace hx248_0:=(HB.out.cell (World.block_lt_of_cell? w _ hx248_0)).trans hx248_0;replace hx248_1:=(HB.out.cell (World.block_lt_of_cell? w _ hx248_1)).trans hx248_1;replace hx248_2:=(HB.out.cell (World.block_lt_of_cell? w _ hx248_2)).trans hx248_2;replace hx248_3:=(HB.out.cell (World.block_lt_of_cell? w _ hx248_3)).trans hx248_3;replace hx248_4:=(HB.out.cell (World.block_lt_of_cell? w _ hx248_4)).trans hx248_4;replace p248:=eq_true p248;replace q248:=eq_true q248;try go_wp2_with (first|((with_reducible refine z12 (N:=7) rfl ?_);(try (refine z1p (by rfl) ?_;dsimp only));refine z17 ?hg (N:=7) ?hd (cs:=#[.int .i64 0,.int .i64 0,.int .i64 0,.int .i64 0,.int .u64 0]) (t:=79) ?hr ?_;(case hd=>rfl);(case hg=>rfl);(case hr=>first|(go_simp;done)|(go_simp;rfl));intro gb249 hg w53 hbox hb;have n0_:=Aside0.mk (z0z (g:=gb247) (o:=.cells #[.int .i64 a0_0,.int .i64 a0_1,.int .i64 a0_2,.slice A0_3 l0_3.length c0_3,.slice A0_4 l0_4.length c0_4,.slice (some ad248) l0_5.length c0_5] 26 (0,0)) (by (with_reducible repeat (first|refine z09 ?_ _|refine z0a ?_|refine z08 ?_ _));exact BK247.out) hb);have n1_:=Aside0.mk (z0o (by repeat (first|(with_reducible first|exact HB.out|apply z04|apply z03|apply z05|refine z07 ?_ GE247.out)|exact HB.out)) hb);have n2_:=Aside0.mk (hbox);have n3_:=Aside0.mk ((by rw [hg];exact (z0h (by repeat (first|(with_reducible first|exact HB.out|apply z04|apply z03|apply z05|refine z07 ?_ GE247.out)|exact HB.out))):w.heap.size≤gb249));have n4_:=Aside0.mk ((by rw [hg];exact (z0h (by repeat (first|(with_reducible first|exact HB.out|apply z04|apply z03|apply z05|refine z07 ?_ GE247.out)|exact HB.out))):w.heap.size≤gb249));have n5_:=Aside0.mk ((by rw [hg];exact Nat.ne_of_lt (z15 (g:=gb247) (o:=.cells #[.int .i64 a0_0,.int .i64 a0_1,.int .i64 a0_2,.slice A0_3 l0_3.length c0_3,.slice A0_4 l0_4.length c0_4,.slice (some ad248) l0_5.length c0_5] 26 (0,0)) (by (with_reducible repeat (first|refine z09 ?_ _|refine z0a ?_|refine z08 ?_ _));exact BK247.out)):gb247≠gb249));have n6_:=Aside0.mk ((by rw [hg];exact Nat.ne_of_gt (z15 (g:=gb247) (o:=.cells #[.int .i64 a0_0,.int .i64 a0_1,.int .i64 a0_2,.slice A0_3 l0_3.length c0_3,.slice A0_4 l0_4.length c0_4,.slice (some ad248) l0_5.length c0_5] 26 (0,0)) (by (with_reducible repeat (first|refine z09 ?_ _|refine z0a ?_|refine z08 ?_ _));exact BK247.out)):gb249≠gb247));clear BK247;clear HB;have BK247:=n0_;have HB:=n1_;have BK249:=n2_;have GW249:=n3_;have GE249:=n4_;have NB247_249:=n5_;have NB249_247:=n6_;clear n0_ n1_ n2_ n3_ n4_ n5_ n6_;clear hb hbox hg;have hnb54:=NB249_247.out;have hnc54:=NB247_249.out;have hcz55_0:w53.cell? ⟨gb249,0,none⟩=some (.int .i64 0):=(z02 BK249.out 0).trans rfl;have hcz55_1:w53.cell? ⟨gb249,1,none⟩=some (.int .i64 0):=(z02 BK249.out 1).trans rfl;have hcz55_2:w53.cell? ⟨gb249,2,none⟩=some (.int .i64 0):=(z02 BK249.out 2).trans rfl;have hcz55_3:w53.cell? ⟨gb249,3,none⟩=some (.int .i64 0):=(z02 BK249.out 3).trans rfl;have hcz55_4:w53.cell? ⟨gb249,4,none⟩=some (.int .u64 0):=(z02 BK249.out 4).trans rfl;have hfz55_0:=z01 BK249.out 0;have hfz55_1:=z01 BK249.out 1;have hfz55_2:=z01 BK249.out 2;have hfz55_3:=z01 BK249.out 3;have hfz55_4:=z01 BK249.out 4))
              have n0_:Aside0 ((((((w53.setCell ⟨gb249,0,none⟩ (.int .i64 ((z06 l0_5 a1).f0))).setCell ⟨gb249,1,none⟩ (.int .i64 ((z06 l0_5 a1).f1))).setCell ⟨gb249,2,none⟩ (.int .i64 ((z06 l0_5 a1).f2))).setCell ⟨gb249,3,none⟩ (.int .i64 ((z06 l0_5 a1).f3))).setCell ⟨gb249,4,none⟩ (.int .u64 ((z06 l0_5 a1).f4))).heap[gb247]?=some (.cells #[.int .i64 a0_0,.int .i64 a0_1,.int .i64 a0_2,.slice A0_3 l0_3.length c0_3,.slice A0_4 l0_4.length c0_4,.slice (some ad248) l0_5.length c0_5] 26 (0,0))):=⟨by (repeat first|(with_reducible first|refine z09 ?_ _|refine z0a ?_|refine z08 ?_ _)|refine z11 ?_ NB247_249.out _);exact BK247.out⟩;have n1_:Aside0 ((((((w53.setCell ⟨gb249,0,none⟩ (.int .i64 ((z06 l0_5 a1).f0))).setCell ⟨gb249,1,none⟩ (.int .i64 ((z06 l0_5 a1).f1))).setCell ⟨gb249,2,none⟩ (.int .i64 ((z06 l0_5 a1).f2))).setCell ⟨gb249,3,none⟩ (.int .i64 ((z06 l0_5 a1).f3))).setCell ⟨gb249,4,none⟩ (.int .u64 ((z06 l0_5 a1).f4))).heap[gb249]?=some (.cells #[.int .i64 ((z06 l0_5 a1).f0),.int .i64 ((z06 l0_5 a1).f1),.int .i64 ((z06 l0_5 a1).f2),.int .i64 ((z06 l0_5 a1).f3),.int .u64 ((z06 l0_5 a1).f4)] 79 (0,0))):=⟨by (with_reducible repeat (first|refine z09 ?_ _|refine z0a ?_|refine z08 ?_ _));refine z10 (cs:=#[.int .i64 ((z06 l0_5 a1).f0),.int .i64 ((z06 l0_5 a1).f1),.int .i64 ((z06 l0_5 a1).f2),.int .i64 ((z06 l0_5 a1).f3),.int .u64 0]) ?_ 4 _ rfl;(with_reducible repeat (first|refine z09 ?_ _|refine z0a ?_|refine z08 ?_ _));refine z10 (cs:=#[.int .i64 ((z06 l0_5 a1).f0),.int .i64 ((z06 l0_5 a1).f1),.int .i64 ((z06 l0_5 a1).f2),.int .i64 0,.int .u64 0]) ?_ 3 _ rfl;(with_reducible repeat (first|refine z09 ?_ _|refine z0a ?_|refine z08 ?_ _));refine z10 (cs:=#[.int .i64 ((z06 l0_5 a1).f0),.int .i64 ((z06 l0_5 a1).f1),.int .i64 0,.int .i64 0,.int .u64 0]) ?_ 2 _ rfl;(with_reducible repeat (first|refine z09 ?_ _|refine z0a ?_|refine z08 ?_ _));refine z10 (cs:=#[.int .i64 ((z06 l0_5 a1).f0),.int .i64 0,.int .i64 0,.int .i64 0,.int .u64 0]) ?_ 1 _ rfl;(with_reducible repeat (first|refine z09 ?_ _|refine z0a ?_|refine z08 ?_ _));refine z10 (cs:=#[.int .i64 0,.int .i64 0,.int .i64 0,.int .i64 0,.int .u64 0]) ?_ 0 _ rfl;(with_reducible repeat (first|refine z09 ?_ _|refine z0a ?_|refine z08 ?_ _));exact BK249.out⟩;have n2_:Aside0 (Below w.heap.size w (((((w53.setCell ⟨gb249,0,none⟩ (.int .i64 ((z06 l0_5 a1).f0))).setCell ⟨gb249,1,none⟩ (.int .i64 ((z06 l0_5 a1).f1))).setCell ⟨gb249,2,none⟩ (.int .i64 ((z06 l0_5 a1).f2))).setCell ⟨gb249,3,none⟩ (.int .i64 ((z06 l0_5 a1).f3))).setCell ⟨gb249,4,none⟩ (.int .u64 ((z06 l0_5 a1).f4)))):=⟨by repeat (first|(with_reducible first|exact HB.out|apply z04|apply z03|apply z05|refine z07 ?_ GE247.out|refine z07 ?_ GE249.out)|exact HB.out)⟩
              (try clear BK247)
              (try clear BK249)
              (try clear HB)
              generalize (((((w53.setCell ⟨gb249,0,none⟩ (.int .i64 ((z06 l0_5 a1).f0))).setCell ⟨gb249,1,none⟩ (.int .i64 ((z06 l0_5 a1).f1))).setCell ⟨gb249,2,none⟩ (.int .i64 ((z06 l0_5 a1).f2))).setCell ⟨gb249,3,none⟩ (.int .i64 ((z06 l0_5 a1).f3))).setCell ⟨gb249,4,none⟩ (.int .u64 ((z06 l0_5 a1).f4)))=w56 at n0_ n1_ n2_ ⊢;have BK247:=n0_;have BK249:=n1_;have HB:=n2_;clear n0_ n1_ n2_;have n0_:=Aside0.mk (z0a BK247.out);have n1_:=Aside0.mk (z0a BK249.out);have n2_:=Aside0.mk (z05 HB.out);clear BK247;clear BK249;clear HB;have BK247:=n0_;have BK249:=n1_;have HB:=n2_;clear n0_ n1_ n2_;have p251:0≤((ji40):Int):=of_decide_eq_true (by assumption);have q251:(ji40) < (l0_5.length:Int):=of_decide_eq_true (by assumption);obtain ⟨ad251,e251,hx251_0,hx251_1,hx251_2,hx251_3,hx251_4⟩:=z22 HR0_5.out (ji40) p251 q251;have hw251_4:=hx251_4;have hw251_3:=hx251_3;have hw251_2:=hx251_2;have hw251_1:=hx251_1;have hw251_0:=hx251_0;obtain rfl:ad248=ad251:=(by injection e251);replace hx251_0:=(HB.out.cell (World.block_lt_of_cell? w _ hx251_0)).trans hx251_0;replace hx251_1:=(HB.out.cell (World.block_lt_of_cell? w _ hx251_1)).trans hx251_1;replace hx251_2:=(HB.out.cell (World.block_lt_of_cell? w _ hx251_2)).trans hx251_2;replace hx251_3:=(HB.out.cell (World.block_lt_of_cell? w _ hx251_3)).trans hx251_3;replace hx251_4:=(HB.out.cell (World.block_lt_of_cell? w _ hx251_4)).trans hx251_4;replace p251:=eq_true p251;replace q251:=eq_true q251;refine z2u (n:=27) (S:=fun w'=>w'.cell? ⟨gb247,0,none⟩=some (.int .i64 a0_0)∧w'.cell? ⟨gb247,1,none⟩=some (.int .i64 a0_1)∧w'.cell? ⟨gb247,2,none⟩=some (.int .i64 a0_2)∧w'.cell? ⟨gb247,3,none⟩=some (.slice A0_3 l0_3.length c0_3)∧w'.cell? ⟨gb247,4,none⟩=some (.slice A0_4 l0_4.length c0_4)∧w'.cell? ⟨gb247,5,none⟩=some (.slice (some ad248) l0_5.length c0_5)∧w'.cell? (ad248.add (((ji40)).toNat * 5))=some (.int .i64 ((z06 l0_5 (ji40)).f0))∧w'.cell? ⟨(ad248.add (((ji40)).toNat * 5)).block,(ad248.add (((ji40)).toNat * 5)).off+1,none⟩=some (.int .i64 ((z06 l0_5 (ji40)).f1))∧w'.cell? ⟨(ad248.add (((ji40)).toNat * 5)).block,(ad248.add (((ji40)).toNat * 5)).off+2,none⟩=some (.int .i64 ((z06 l0_5 (ji40)).f2))∧w'.cell? ⟨(ad248.add (((ji40)).toNat * 5)).block,(ad248.add (((ji40)).toNat * 5)).off+3,none⟩=some (.int .i64 ((z06 l0_5 (ji40)).f3))∧w'.cell? ⟨(ad248.add (((ji40)).toNat * 5)).block,(ad248.add (((ji40)).toNat * 5)).off+4,none⟩=some (.int .u64 ((z06 l0_5 (ji40)).f4))) (ds:=[]) #[zf,zf,zf,zf,zf,zf,zf,zf,zf,zf,zf,zf,zf,zf,zf,zf,zf,zf,zf,zf,zf,zf,zf,zf,zf,zf,zf] (by kernel_rfl) rfl rfl ⟨(z02 BK247.out 0).trans rfl,(z02 BK247.out 1).trans rfl,(z02 BK247.out 2).trans rfl,(z02 BK247.out 3).trans rfl,(z02 BK247.out 4).trans rfl,(z02 BK247.out 5).trans rfl,((HB.out.cell (World.block_lt_of_cell? w _ hw251_0)).trans hw251_0),((HB.out.cell (World.block_lt_of_cell? w _ hw251_1)).trans hw251_1),((HB.out.cell (World.block_lt_of_cell? w _ hw251_2)).trans hw251_2),((HB.out.cell (World.block_lt_of_cell? w _ hw251_3)).trans hw251_3),((HB.out.cell (World.block_lt_of_cell? w _ hw251_4)).trans hw251_4)⟩ (fun hHeld=>?_);refine with_tabW z0s.tab12 z0s.bits12 (fun HT_ HW_=>?_);generalize w56.drew=w57 at BK247 BK249 HB hx251_0 hx251_1 hx251_2 hx251_3 hx251_4 hHeld ⊢;refine pure_ (i:=0) (N:=some 67) (v:=?_) (a':=?_) #[zt,zf,zf,zf,zf,zf,zf,zf,zf,zf,zf,zf,zf,zf,zf,zf,zf,zf,zf,zf,zf,zf,zf,zf,zf,zf,zf] rfl rfl (z18 HT_.out (by kernel_rfl)) (fun _ _ _ h=>h) (Or.inl ⟨by rfl,?_⟩) ?_ ?_;rotate_left
              ·intro w';go_simp;with_reducible rfl
              rotate_left
              ·simp only [Act.put,zq1,zq2,zq3,i64_w,i32_w];rfl
              refine pure_ (i:=1) (N:=some 68) (v:=?_) (a':=?_) #[zt,zt,zf,zf,zf,zf,zf,zf,zf,zf,zf,zf,zf,zf,zf,zf,zf,zf,zf,zf,zf,zf,zf,zf,zf,zf,zf] rfl rfl (z18 HT_.out (by kernel_rfl)) (fun _ _ _ h=>h) (Or.inl ⟨by rfl,?_⟩) ?_ ?_;rotate_left
              ·intro w';go_simp;with_reducible rfl
              rotate_left
              ·simp only [Act.put,zq1,zq2,zq3,i64_w,i32_w];rfl
              refine pure_ (i:=2) (N:=some 69) (v:=?_) (a':=?_) #[zt,zt,zt,zf,zf,zf,zf,zf,zf,zf,zf,zf,zf,zf,zf,zf,zf,zf,zf,zf,zf,zf,zf,zf,zf,zf,zf] rfl rfl (z18 HT_.out (by kernel_rfl)) (fun _ _ _ h=>h) (Or.inl ⟨by rfl,?_⟩) ?_ ?_;rotate_left
              ·intro w';go_simp;with_reducible rfl
              rotate_left
              ·simp only [Act.put,zq1,zq2,zq3,i64_w,i32_w];rfl
              refine pure_ (i:=3) (N:=some 70) (v:=?_) (a':=?_) #[zt,zt,zt,zt,zf,zf,zf,zf,zf,zf,zf,zf,zf,zf,zf,zf,zf,zf,zf,zf,zf,zf,zf,zf,zf,zf,zf] rfl rfl (z18 HT_.out (by kernel_rfl)) (fun _ _ _ h=>h) (Or.inl ⟨by rfl,?_⟩) ?_ ?_;rotate_left
              ·intro w';go_simp;with_reducible rfl
              rotate_left
              ·simp only [Act.put,zq1,zq2,zq3,i64_w,i32_w];rfl
              refine pure_ (i:=5) (N:=some 72) (v:=?_) (a':=?_) #[zt,zt,zt,zt,zf,zt,zf,zf,zf,zf,zf,zf,zf,zf,zf,zf,zf,zf,zf,zf,zf,zf,zf,zf,zf,zf,zf] rfl rfl (z18 HT_.out (by kernel_rfl)) (fun _ _ _ h=>h) (Or.inl ⟨by rfl,?_⟩) ?_ ?_;rotate_left
              ·intro w';go_simp;with_reducible rfl
              rotate_left
              ·simp only [Act.put,zq1,zq2,zq3,i64_w,i32_w];rfl
              refine pure_ (i:=6) (N:=some 73) (v:=?_) (a':=?_) #[zt,zt,zt,zt,zf,zt,zt,zf,zf,zf,zf,zf,zf,zf,zf,zf,zf,zf,zf,zf,zf,zf,zf,zf,zf,zf,zf] rfl rfl (z18 HT_.out (by kernel_rfl)) (fun _ _ _ h=>h) (Or.inl ⟨by rfl,?_⟩) ?_ ?_;rotate_left
              ·intro w';go_simp;with_reducible rfl
              rotate_left
              ·simp only [Act.put,zq1,zq2,zq3,i64_w,i32_w];rfl
              refine take_ (i:=4) (N:=some 71) (v:=?_) (a':=?_) #[zt,zt,zt,zt,zt,zt,zt,zf,zf,zf,zf,zf,zf,zf,zf,zf,zf,zf,zf,zf,zf,zf,zf,zf,zf,zf,zf] rfl rfl (z32 HT_.out HW_.out (by kernel_rfl)) (fun _ _ _ h=>h) (Or.inl ⟨by rfl,?_⟩) hHeld ?_ ?_;rotate_left
              ·rintro w' ⟨s0,s1,s2,s3,s4,s5,s6,s7,s8,s9,s10⟩;go_simp;with_reducible rfl
              rotate_left
              ·simp only [Act.put,zq1,zq2,zq3,i64_w,i32_w];rfl
              refine pure_ (i:=7) (N:=some 74) (v:=?_) (a':=?_) #[zt,zt,zt,zt,zt,zt,zt,zt,zf,zf,zf,zf,zf,zf,zf,zf,zf,zf,zf,zf,zf,zf,zf,zf,zf,zf,zf] rfl rfl (z18 HT_.out (by kernel_rfl)) (fun _ _ _ h=>h) (Or.inl ⟨by rfl,?_⟩) ?_ ?_;rotate_left
              ·intro w';go_simp;with_reducible rfl
              rotate_left
              ·simp only [Act.put,zq1,zq2,zq3,i64_w,i32_w];rfl
              refine pure_ (i:=8) (N:=some 75) (v:=?_) (a':=?_) #[zt,zt,zt,zt,zt,zt,zt,zt,zt,zf,zf,zf,zf,zf,zf,zf,zf,zf,zf,zf,zf,zf,zf,zf,zf,zf,zf] rfl rfl (z18 HT_.out (by kernel_rfl)) (fun _ _ _ h=>h) (Or.inl ⟨by rfl,?_⟩) ?_ ?_;rotate_left
              ·intro w';go_simp;with_reducible rfl
              rotate_left
              ·simp only [Act.put,zq1,zq2,zq3,i64_w,i32_w];rfl
              refine take_ (i:=9) (N:=some 76) (v:=?_) (a':=?_) #[zt,zt,zt,zt,zt,zt,zt,zt,zt,zt,zf,zf,zf,zf,zf,zf,zf,zf,zf,zf,zf,zf,zf,zf,zf,zf,zf] rfl rfl (z32 HT_.out HW_.out (by kernel_rfl)) (fun _ _ _ h=>h) (Or.inl ⟨by rfl,?_⟩) hHeld ?_ ?_;rotate_left
              ·rintro w' ⟨s0,s1,s2,s3,s4,s5,s6,s7,s8,s9,s10⟩;go_simp;with_reducible rfl
              rotate_left
              ·simp only [Act.put,zq1,zq2,zq3,i64_w,i32_w];rfl
              refine pure_ (i:=10) (N:=some 77) (v:=?_) (a':=?_) #[zt,zt,zt,zt,zt,zt,zt,zt,zt,zt,zt,zf,zf,zf,zf,zf,zf,zf,zf,zf,zf,zf,zf,zf,zf,zf,zf] rfl rfl (z18 HT_.out (by kernel_rfl)) (fun _ _ _ h=>h) (Or.inl ⟨by rfl,?_⟩) ?_ ?_;rotate_left
              ·intro w';go_simp;with_reducible rfl
              rotate_left
              ·simp only [Act.put,zq1,zq2,zq3,i64_w,i32_w];rfl
              refine pure_ (i:=11) (N:=some 78) (v:=?_) (a':=?_) #[zt,zt,zt,zt,zt,zt,zt,zt,zt,zt,zt,zt,zf,zf,zf,zf,zf,zf,zf,zf,zf,zf,zf,zf,zf,zf,zf] rfl rfl (z18 HT_.out (by kernel_rfl)) (fun _ _ _ h=>h) (Or.inl ⟨by rfl,?_⟩) ?_ ?_;rotate_left
              ·intro w';go_simp;with_reducible rfl
              rotate_left
              ·simp only [Act.put,zq1,zq2,zq3,i64_w,i32_w];rfl
              refine pure_ (i:=12) (N:=some 79) (v:=?_) (a':=?_) #[zt,zt,zt,zt,zt,zt,zt,zt,zt,zt,zt,zt,zt,zf,zf,zf,zf,zf,zf,zf,zf,zf,zf,zf,zf,zf,zf] rfl rfl (z18 HT_.out (by kernel_rfl)) (fun _ _ _ h=>h) (Or.inl ⟨by rfl,?_⟩) ?_ ?_;rotate_left
              ·intro w';go_simp;with_reducible rfl
              rotate_left
              ·simp only [Act.put,zq1,zq2,zq3,i64_w,i32_w];rfl
              refine pure_ (i:=13) (N:=some 80) (v:=undef) (a':=?_) #[zt,zt,zt,zt,zt,zt,zt,zt,zt,zt,zt,zt,zt,zt,zf,zf,zf,zf,zf,zf,zf,zf,zf,zf,zf,zf,zf] rfl rfl (z18 HT_.out (by kernel_rfl)) (fun _ _ _ h=>h) (Or.inr ⟨by rfl,rfl⟩) ?_ ?_;rotate_left
              ·simp only [Act.put,zq1,zq2,zq3,i64_w,i32_w];rfl
              refine pure_ (i:=14) (N:=some 81) (v:=undef) (a':=?_) #[zt,zt,zt,zt,zt,zt,zt,zt,zt,zt,zt,zt,zt,zt,zt,zf,zf,zf,zf,zf,zf,zf,zf,zf,zf,zf,zf] rfl rfl (z18 HT_.out (by kernel_rfl)) (fun _ _ _ h=>h) (Or.inr ⟨by rfl,rfl⟩) ?_ ?_;rotate_left
              ·simp only [Act.put,zq1,zq2,zq3,i64_w,i32_w];rfl
              refine pure_ (i:=15) (N:=some 82) (v:=undef) (a':=?_) #[zt,zt,zt,zt,zt,zt,zt,zt,zt,zt,zt,zt,zt,zt,zt,zt,zf,zf,zf,zf,zf,zf,zf,zf,zf,zf,zf] rfl rfl (z18 HT_.out (by kernel_rfl)) (fun _ _ _ h=>h) (Or.inr ⟨by rfl,rfl⟩) ?_ ?_;rotate_left
              ·simp only [Act.put,zq1,zq2,zq3,i64_w,i32_w];rfl
              refine pure_ (i:=16) (N:=some 83) (v:=undef) (a':=?_) #[zt,zt,zt,zt,zt,zt,zt,zt,zt,zt,zt,zt,zt,zt,zt,zt,zt,zf,zf,zf,zf,zf,zf,zf,zf,zf,zf] rfl rfl (z18 HT_.out (by kernel_rfl)) (fun _ _ _ h=>h) (Or.inr ⟨by rfl,rfl⟩) ?_ ?_;rotate_left
              ·simp only [Act.put,zq1,zq2,zq3,i64_w,i32_w];rfl
              refine pure_ (i:=17) (N:=some 84) (v:=undef) (a':=?_) #[zt,zt,zt,zt,zt,zt,zt,zt,zt,zt,zt,zt,zt,zt,zt,zt,zt,zt,zf,zf,zf,zf,zf,zf,zf,zf,zf] rfl rfl (z18 HT_.out (by kernel_rfl)) (fun _ _ _ h=>h) (Or.inr ⟨by rfl,rfl⟩) ?_ ?_;rotate_left
              ·simp only [Act.put,zq1,zq2,zq3,i64_w,i32_w];rfl
              refine pure_ (i:=18) (N:=some 85) (v:=undef) (a':=?_) #[zt,zt,zt,zt,zt,zt,zt,zt,zt,zt,zt,zt,zt,zt,zt,zt,zt,zt,zt,zf,zf,zf,zf,zf,zf,zf,zf] rfl rfl (z18 HT_.out (by kernel_rfl)) (fun _ _ _ h=>h) (Or.inr ⟨by rfl,rfl⟩) ?_ ?_;rotate_left
              ·simp only [Act.put,zq1,zq2,zq3,i64_w,i32_w];rfl
              refine pure_ (i:=19) (N:=some 86) (v:=undef) (a':=?_) #[zt,zt,zt,zt,zt,zt,zt,zt,zt,zt,zt,zt,zt,zt,zt,zt,zt,zt,zt,zt,zf,zf,zf,zf,zf,zf,zf] rfl rfl (z18 HT_.out (by kernel_rfl)) (fun _ _ _ h=>h) (Or.inr ⟨by rfl,rfl⟩) ?_ ?_;rotate_left
              ·simp only [Act.put,zq1,zq2,zq3,i64_w,i32_w];rfl
              refine pure_ (i:=20) (N:=some 87) (v:=undef) (a':=?_) #[zt,zt,zt,zt,zt,zt,zt,zt,zt,zt,zt,zt,zt,zt,zt,zt,zt,zt,zt,zt,zt,zf,zf,zf,zf,zf,zf] rfl rfl (z18 HT_.out (by kernel_rfl)) (fun _ _ _ h=>h) (Or.inr ⟨by rfl,rfl⟩) ?_ ?_;rotate_left
              ·simp only [Act.put,zq1,zq2,zq3,i64_w,i32_w];rfl
              refine pure_ (i:=21) (N:=some 88) (v:=undef) (a':=?_) #[zt,zt,zt,zt,zt,zt,zt,zt,zt,zt,zt,zt,zt,zt,zt,zt,zt,zt,zt,zt,zt,zt,zf,zf,zf,zf,zf] rfl rfl (z18 HT_.out (by kernel_rfl)) (fun _ _ _ h=>h) (Or.inr ⟨by rfl,rfl⟩) ?_ ?_;rotate_left
              ·simp only [Act.put,zq1,zq2,zq3,i64_w,i32_w];rfl
              refine pure_ (i:=22) (N:=some 89) (v:=undef) (a':=?_) #[zt,zt,zt,zt,zt,zt,zt,zt,zt,zt,zt,zt,zt,zt,zt,zt,zt,zt,zt,zt,zt,zt,zt,zf,zf,zf,zf] rfl rfl (z18 HT_.out (by kernel_rfl)) (fun _ _ _ h=>h) (Or.inr ⟨by rfl,rfl⟩) ?_ ?_;rotate_left
              ·simp only [Act.put,zq1,zq2,zq3,i64_w,i32_w];rfl
              refine pure_ (i:=23) (N:=some 90) (v:=undef) (a':=?_) #[zt,zt,zt,zt,zt,zt,zt,zt,zt,zt,zt,zt,zt,zt,zt,zt,zt,zt,zt,zt,zt,zt,zt,zt,zf,zf,zf] rfl rfl (z18 HT_.out (by kernel_rfl)) (fun _ _ _ h=>h) (Or.inr ⟨by rfl,rfl⟩) ?_ ?_;rotate_left
              ·simp only [Act.put,zq1,zq2,zq3,i64_w,i32_w];rfl
              refine pure_ (i:=24) (N:=some 91) (v:=undef) (a':=?_) #[zt,zt,zt,zt,zt,zt,zt,zt,zt,zt,zt,zt,zt,zt,zt,zt,zt,zt,zt,zt,zt,zt,zt,zt,zt,zf,zf] rfl rfl (z18 HT_.out (by kernel_rfl)) (fun _ _ _ h=>h) (Or.inr ⟨by rfl,rfl⟩) ?_ ?_;rotate_left
              ·simp only [Act.put,zq1,zq2,zq3,i64_w,i32_w];rfl
              refine pure_ (i:=25) (N:=some 92) (v:=?_) (a':=?_) #[zt,zt,zt,zt,zt,zt,zt,zt,zt,zt,zt,zt,zt,zt,zt,zt,zt,zt,zt,zt,zt,zt,zt,zt,zt,zt,zf] rfl rfl (z18 HT_.out (by kernel_rfl)) (fun _ _ _ h=>h) (Or.inl ⟨by rfl,?_⟩) ?_ ?_;rotate_left
              ·intro w';go_simp;with_reducible rfl
              rotate_left
              ·simp only [Act.put,zq1,zq2,zq3,i64_w,i32_w];rfl
              refine pure_ (i:=26) (N:=some 6) (v:=?_) (a':=?_) #[zt,zt,zt,zt,zt,zt,zt,zt,zt,zt,zt,zt,zt,zt,zt,zt,zt,zt,zt,zt,zt,zt,zt,zt,zt,zt,zt] rfl rfl (z18 HT_.out (by kernel_rfl)) (fun _ _ _ h=>h) (Or.inl ⟨by rfl,?_⟩) ?_ ?_;rotate_left
              ·intro w';go_simp;with_reducible rfl
              rotate_left
              ·simp only [Act.put,zq1,zq2,zq3,i64_w,i32_w];rfl
              refine done_ (done_of HT_.out (by kernel_rfl)) ?_;try go_wp2
              go_ret
              exact ⟨by first|rfl|(simp [z0g,z0f] <;> rfl)|(simp only [← hji40];first|rfl|(simp [z0g,z0f] <;> rfl))|(simp [*,z0g,z0f] <;> rfl),by repeat (first|(with_reducible first|exact HB.out|apply z04|apply z03|apply z05|refine z07 ?_ GE247.out|refine z07 ?_ GE249.out)|exact HB.out)⟩
            ·rw [if_neg c42] at H;exact absurd H (by simp)
           ·rw [if_neg c41] at H;exact absurd H (by simp)
          ·rw [if_neg c39] at H;have c39b0:decide (0 < a2)=false:=decide_eq_false c39;clear c39;obtain rfl:=Option.some.inj H;have hcz58_0:wc.cell? ⟨gb247,0,none⟩=some (.int .i64 a0_0):=(z02 BK247.out 0).trans rfl;have hcz58_1:wc.cell? ⟨gb247,1,none⟩=some (.int .i64 a0_1):=(z02 BK247.out 1).trans rfl;have hcz58_2:wc.cell? ⟨gb247,2,none⟩=some (.int .i64 a0_2):=(z02 BK247.out 2).trans rfl;have hcz58_3:wc.cell? ⟨gb247,3,none⟩=some (.slice A0_3 l0_3.length c0_3):=(z02 BK247.out 3).trans rfl;have hcz58_4:wc.cell? ⟨gb247,4,none⟩=some (.slice A0_4 l0_4.length c0_4):=(z02 BK247.out 4).trans rfl;have hcz58_5:wc.cell? ⟨gb247,5,none⟩=some (.slice A0_5 l0_5.length c0_5):=(z02 BK247.out 5).trans rfl;have hfz58_0:=z01 BK247.out 0;have hfz58_1:=z01 BK247.out 1;have hfz58_2:=z01 BK247.out 2;have hfz58_3:=z01 BK247.out 3;have hfz58_4:=z01 BK247.out 4;have hfz58_5:=z01 BK247.out 5;have p248:0≤(a1:Int):=of_decide_eq_true (by assumption);have q248:a1 < (l0_5.length:Int):=of_decide_eq_true (by assumption);obtain ⟨ad248,e248,hx248_0,hx248_1,hx248_2,hx248_3,hx248_4⟩:=z22 HR0_5.out a1 p248 q248;cases e248;replace hx248_0:=(HB.out.cell (World.block_lt_of_cell? w _ hx248_0)).trans hx248_0;replace hx248_1:=(HB.out.cell (World.block_lt_of_cell? w _ hx248_1)).trans hx248_1;replace hx248_2:=(HB.out.cell (World.block_lt_of_cell? w _ hx248_2)).trans hx248_2;replace hx248_3:=(HB.out.cell (World.block_lt_of_cell? w _ hx248_3)).trans hx248_3;replace hx248_4:=(HB.out.cell (World.block_lt_of_cell? w _ hx248_4)).trans hx248_4;replace p248:=eq_true p248;replace q248:=eq_true q248;try go_wp2_with (first|((with_reducible refine z12 (N:=7) rfl ?_);(try (refine z1p (by rfl) ?_;dsimp only));refine z17 ?hg (N:=7) ?hd (cs:=#[.int .i64 0,.int .i64 0,.int .i64 0,.int .i64 0,.int .u64 0]) (t:=79) ?hr ?_;(case hd=>rfl);(case hg=>rfl);(case hr=>first|(go_simp;done)|(go_simp;rfl));intro gb249 hg w59 hbox hb;have n0_:=Aside0.mk (z0z (g:=gb247) (o:=.cells #[.int .i64 a0_0,.int .i64 a0_1,.int .i64 a0_2,.slice A0_3 l0_3.length c0_3,.slice A0_4 l0_4.length c0_4,.slice (some ad248) l0_5.length c0_5] 26 (0,0)) (by (with_reducible repeat (first|refine z09 ?_ _|refine z0a ?_|refine z08 ?_ _));exact BK247.out) hb);have n1_:=Aside0.mk (z0o (by repeat (first|(with_reducible first|exact HB.out|apply z04|apply z03|apply z05|refine z07 ?_ GE247.out)|exact HB.out)) hb);have n2_:=Aside0.mk (hbox);have n3_:=Aside0.mk ((by rw [hg];exact (z0h (by repeat (first|(with_reducible first|exact HB.out|apply z04|apply z03|apply z05|refine z07 ?_ GE247.out)|exact HB.out))):w.heap.size≤gb249));have n4_:=Aside0.mk ((by rw [hg];exact (z0h (by repeat (first|(with_reducible first|exact HB.out|apply z04|apply z03|apply z05|refine z07 ?_ GE247.out)|exact HB.out))):w.heap.size≤gb249));have n5_:=Aside0.mk ((by rw [hg];exact Nat.ne_of_lt (z15 (g:=gb247) (o:=.cells #[.int .i64 a0_0,.int .i64 a0_1,.int .i64 a0_2,.slice A0_3 l0_3.length c0_3,.slice A0_4 l0_4.length c0_4,.slice (some ad248) l0_5.length c0_5] 26 (0,0)) (by (with_reducible repeat (first|refine z09 ?_ _|refine z0a ?_|refine z08 ?_ _));exact BK247.out)):gb247≠gb249));have n6_:=Aside0.mk ((by rw [hg];exact Nat.ne_of_gt (z15 (g:=gb247) (o:=.cells #[.int .i64 a0_0,.int .i64 a0_1,.int .i64 a0_2,.slice A0_3 l0_3.length c0_3,.slice A0_4 l0_4.length c0_4,.slice (some ad248) l0_5.length c0_5] 26 (0,0)) (by (with_reducible repeat (first|refine z09 ?_ _|refine z0a ?_|refine z08 ?_ _));exact BK247.out)):gb249≠gb247));clear BK247;clear HB;have BK247:=n0_;have HB:=n1_;have BK249:=n2_;have GW249:=n3_;have GE249:=n4_;have NB247_249:=n5_;have NB249_247:=n6_;clear n0_ n1_ n2_ n3_ n4_ n5_ n6_;clear hb hbox hg;have hnb60:=NB249_247.out;have hnc60:=NB247_249.out;have hcz61_0:w59.cell? ⟨gb249,0,none⟩=some (.int .i64 0):=(z02 BK249.out 0).trans rfl;have hcz61_1:w59.cell? ⟨gb249,1,none⟩=some (.int .i64 0):=(z02 BK249.out 1).trans rfl;have hcz61_2:w59.cell? ⟨gb249,2,none⟩=some (.int .i64 0):=(z02 BK249.out 2).trans rfl;have hcz61_3:w59.cell? ⟨gb249,3,none⟩=some (.int .i64 0):=(z02 BK249.out 3).trans rfl;have hcz61_4:w59.cell? ⟨gb249,4,none⟩=some (.int .u64 0):=(z02 BK249.out 4).trans rfl;have hfz61_0:=z01 BK249.out 0;have hfz61_1:=z01 BK249.out 1;have hfz61_2:=z01 BK249.out 2;have hfz61_3:=z01 BK249.out 3;have hfz61_4:=z01 BK249.out 4))
           have n0_:Aside0 ((((((w59.setCell ⟨gb249,0,none⟩ (.int .i64 ((z06 l0_5 a1).f0))).setCell ⟨gb249,1,none⟩ (.int .i64 ((z06 l0_5 a1).f1))).setCell ⟨gb249,2,none⟩ (.int .i64 ((z06 l0_5 a1).f2))).setCell ⟨gb249,3,none⟩ (.int .i64 ((z06 l0_5 a1).f3))).setCell ⟨gb249,4,none⟩ (.int .u64 ((z06 l0_5 a1).f4))).heap[gb247]?=some (.cells #[.int .i64 a0_0,.int .i64 a0_1,.int .i64 a0_2,.slice A0_3 l0_3.length c0_3,.slice A0_4 l0_4.length c0_4,.slice (some ad248) l0_5.length c0_5] 26 (0,0))):=⟨by (repeat first|(with_reducible first|refine z09 ?_ _|refine z0a ?_|refine z08 ?_ _)|refine z11 ?_ NB247_249.out _);exact BK247.out⟩;have n1_:Aside0 ((((((w59.setCell ⟨gb249,0,none⟩ (.int .i64 ((z06 l0_5 a1).f0))).setCell ⟨gb249,1,none⟩ (.int .i64 ((z06 l0_5 a1).f1))).setCell ⟨gb249,2,none⟩ (.int .i64 ((z06 l0_5 a1).f2))).setCell ⟨gb249,3,none⟩ (.int .i64 ((z06 l0_5 a1).f3))).setCell ⟨gb249,4,none⟩ (.int .u64 ((z06 l0_5 a1).f4))).heap[gb249]?=some (.cells #[.int .i64 ((z06 l0_5 a1).f0),.int .i64 ((z06 l0_5 a1).f1),.int .i64 ((z06 l0_5 a1).f2),.int .i64 ((z06 l0_5 a1).f3),.int .u64 ((z06 l0_5 a1).f4)] 79 (0,0))):=⟨by (with_reducible repeat (first|refine z09 ?_ _|refine z0a ?_|refine z08 ?_ _));refine z10 (cs:=#[.int .i64 ((z06 l0_5 a1).f0),.int .i64 ((z06 l0_5 a1).f1),.int .i64 ((z06 l0_5 a1).f2),.int .i64 ((z06 l0_5 a1).f3),.int .u64 0]) ?_ 4 _ rfl;(with_reducible repeat (first|refine z09 ?_ _|refine z0a ?_|refine z08 ?_ _));refine z10 (cs:=#[.int .i64 ((z06 l0_5 a1).f0),.int .i64 ((z06 l0_5 a1).f1),.int .i64 ((z06 l0_5 a1).f2),.int .i64 0,.int .u64 0]) ?_ 3 _ rfl;(with_reducible repeat (first|refine z09 ?_ _|refine z0a ?_|refine z08 ?_ _));refine z10 (cs:=#[.int .i64 ((z06 l0_5 a1).f0),.int .i64 ((z06 l0_5 a1).f1),.int .i64 0,.int .i64 0,.int .u64 0]) ?_ 2 _ rfl;(with_reducible repeat (first|refine z09 ?_ _|refine z0a ?_|refine z08 ?_ _));refine z10 (cs:=#[.int .i64 ((z06 l0_5 a1).f0),.int .i64 0,.int .i64 0,.int .i64 0,.int .u64 0]) ?_ 1 _ rfl;(with_reducible repeat (first|refine z09 ?_ _|refine z0a ?_|refine z08 ?_ _));refine z10 (cs:=#[.int .i64 0,.int .i64 0,.int .i64 0,.int .i64 0,.int .u64 0]) ?_ 0 _ rfl;(with_reducible repeat (first|refine z09 ?_ _|refine z0a ?_|refine z08 ?_ _));exact BK249.out⟩;have n2_:Aside0 (Below w.heap.size w (((((w59.setCell ⟨gb249,0,none⟩ (.int .i64 ((z06 l0_5 a1).f0))).setCell ⟨gb249,1,none⟩ (.int .i64 ((z06 l0_5 a1).f1))).setCell ⟨gb249,2,none⟩ (.int .i64 ((z06 l0_5 a1).f2))).setCell ⟨gb249,3,none⟩ (.int .i64 ((z06 l0_5 a1).f3))).setCell ⟨gb249,4,none⟩ (.int .u64 ((z06 l0_5 a1).f4)))):=⟨by repeat (first|(with_reducible first|exact HB.out|apply z04|apply z03|apply z05|refine z07 ?_ GE247.out|refine z07 ?_ GE249.out)|exact HB.out)⟩
           (try clear BK247)
           (try clear BK249)
           (try clear HB)
           generalize (((((w59.setCell ⟨gb249,0,none⟩ (.int .i64 ((z06 l0_5 a1).f0))).setCell ⟨gb249,1,none⟩ (.int .i64 ((z06 l0_5 a1).f1))).setCell ⟨gb249,2,none⟩ (.int .i64 ((z06 l0_5 a1).f2))).setCell ⟨gb249,3,none⟩ (.int .i64 ((z06 l0_5 a1).f3))).setCell ⟨gb249,4,none⟩ (.int .u64 ((z06 l0_5 a1).f4)))=w62 at n0_ n1_ n2_ ⊢;have BK247:=n0_;have BK249:=n1_;have HB:=n2_;clear n0_ n1_ n2_;have n0_:=Aside0.mk (z0a BK247.out);have n1_:=Aside0.mk (z0a BK249.out);have n2_:=Aside0.mk (z05 HB.out);clear BK247;clear BK249;clear HB;have BK247:=n0_;have BK249:=n1_;have HB:=n2_;clear n0_ n1_ n2_;refine z2u (n:=27) (S:=fun w'=>True) (ds:=[]) #[zf,zf,zf,zf,zf,zf,zf,zf,zf,zf,zf,zf,zf,zf,zf,zf,zf,zf,zf,zf,zf,zf,zf,zf,zf,zf,zf] (by kernel_rfl) rfl rfl trivial (fun hHeld=>?_);refine with_tabW z0s.tab12 z0s.bits12 (fun HT_ HW_=>?_);generalize w62.drew=w63 at BK247 BK249 HB hHeld ⊢;refine pure_ (i:=0) (N:=some 67) (v:=?_) (a':=?_) #[zt,zf,zf,zf,zf,zf,zf,zf,zf,zf,zf,zf,zf,zf,zf,zf,zf,zf,zf,zf,zf,zf,zf,zf,zf,zf,zf] rfl rfl (z18 HT_.out (by kernel_rfl)) (fun _ _ _ h=>h) (Or.inl ⟨by rfl,?_⟩) ?_ ?_;rotate_left
           ·intro w';go_simp;with_reducible rfl
           rotate_left
           ·simp only [Act.put,zq1,zq2,zq3,i64_w,i32_w];rfl
           refine pure_ (i:=1) (N:=some 68) (v:=?_) (a':=?_) #[zt,zt,zf,zf,zf,zf,zf,zf,zf,zf,zf,zf,zf,zf,zf,zf,zf,zf,zf,zf,zf,zf,zf,zf,zf,zf,zf] rfl rfl (z18 HT_.out (by kernel_rfl)) (fun _ _ _ h=>h) (Or.inl ⟨by rfl,?_⟩) ?_ ?_;rotate_left
           ·intro w';go_simp;with_reducible rfl
           rotate_left
           ·simp only [Act.put,zq1,zq2,zq3,i64_w,i32_w];rfl
           refine pure_ (i:=2) (N:=some 69) (v:=?_) (a':=?_) #[zt,zt,zt,zf,zf,zf,zf,zf,zf,zf,zf,zf,zf,zf,zf,zf,zf,zf,zf,zf,zf,zf,zf,zf,zf,zf,zf] rfl rfl (z18 HT_.out (by kernel_rfl)) (fun _ _ _ h=>h) (Or.inl ⟨by rfl,?_⟩) ?_ ?_;rotate_left
           ·intro w';go_simp;with_reducible rfl
           rotate_left
           ·simp only [Act.put,zq1,zq2,zq3,i64_w,i32_w];rfl
           refine pure_ (i:=3) (N:=some 70) (v:=undef) (a':=?_) #[zt,zt,zt,zt,zf,zf,zf,zf,zf,zf,zf,zf,zf,zf,zf,zf,zf,zf,zf,zf,zf,zf,zf,zf,zf,zf,zf] rfl rfl (z18 HT_.out (by kernel_rfl)) (fun _ _ _ h=>h) (Or.inr ⟨by rfl,rfl⟩) ?_ ?_;rotate_left
           ·simp only [Act.put,zq1,zq2,zq3,i64_w,i32_w];rfl
           refine pure_ (i:=4) (N:=some 71) (v:=undef) (a':=?_) #[zt,zt,zt,zt,zt,zf,zf,zf,zf,zf,zf,zf,zf,zf,zf,zf,zf,zf,zf,zf,zf,zf,zf,zf,zf,zf,zf] rfl rfl (z18 HT_.out (by kernel_rfl)) (fun _ _ _ h=>h) (Or.inr ⟨by rfl,rfl⟩) ?_ ?_;rotate_left
           ·simp only [Act.put,zq1,zq2,zq3,i64_w,i32_w];rfl
           refine pure_ (i:=5) (N:=some 72) (v:=undef) (a':=?_) #[zt,zt,zt,zt,zt,zt,zf,zf,zf,zf,zf,zf,zf,zf,zf,zf,zf,zf,zf,zf,zf,zf,zf,zf,zf,zf,zf] rfl rfl (z18 HT_.out (by kernel_rfl)) (fun _ _ _ h=>h) (Or.inr ⟨by rfl,rfl⟩) ?_ ?_;rotate_left
           ·simp only [Act.put,zq1,zq2,zq3,i64_w,i32_w];rfl
           refine pure_ (i:=6) (N:=some 73) (v:=undef) (a':=?_) #[zt,zt,zt,zt,zt,zt,zt,zf,zf,zf,zf,zf,zf,zf,zf,zf,zf,zf,zf,zf,zf,zf,zf,zf,zf,zf,zf] rfl rfl (z18 HT_.out (by kernel_rfl)) (fun _ _ _ h=>h) (Or.inr ⟨by rfl,rfl⟩) ?_ ?_;rotate_left
           ·simp only [Act.put,zq1,zq2,zq3,i64_w,i32_w];rfl
           refine pure_ (i:=7) (N:=some 74) (v:=undef) (a':=?_) #[zt,zt,zt,zt,zt,zt,zt,zt,zf,zf,zf,zf,zf,zf,zf,zf,zf,zf,zf,zf,zf,zf,zf,zf,zf,zf,zf] rfl rfl (z18 HT_.out (by kernel_rfl)) (fun _ _ _ h=>h) (Or.inr ⟨by rfl,rfl⟩) ?_ ?_;rotate_left
           ·simp only [Act.put,zq1,zq2,zq3,i64_w,i32_w];rfl
           refine pure_ (i:=8) (N:=some 75) (v:=undef) (a':=?_) #[zt,zt,zt,zt,zt,zt,zt,zt,zt,zf,zf,zf,zf,zf,zf,zf,zf,zf,zf,zf,zf,zf,zf,zf,zf,zf,zf] rfl rfl (z18 HT_.out (by kernel_rfl)) (fun _ _ _ h=>h) (Or.inr ⟨by rfl,rfl⟩) ?_ ?_;rotate_left
           ·simp only [Act.put,zq1,zq2,zq3,i64_w,i32_w];rfl
           refine pure_ (i:=9) (N:=some 76) (v:=undef) (a':=?_) #[zt,zt,zt,zt,zt,zt,zt,zt,zt,zt,zf,zf,zf,zf,zf,zf,zf,zf,zf,zf,zf,zf,zf,zf,zf,zf,zf] rfl rfl (z18 HT_.out (by kernel_rfl)) (fun _ _ _ h=>h) (Or.inr ⟨by rfl,rfl⟩) ?_ ?_;rotate_left
           ·simp only [Act.put,zq1,zq2,zq3,i64_w,i32_w];rfl
           refine pure_ (i:=10) (N:=some 77) (v:=undef) (a':=?_) #[zt,zt,zt,zt,zt,zt,zt,zt,zt,zt,zt,zf,zf,zf,zf,zf,zf,zf,zf,zf,zf,zf,zf,zf,zf,zf,zf] rfl rfl (z18 HT_.out (by kernel_rfl)) (fun _ _ _ h=>h) (Or.inr ⟨by rfl,rfl⟩) ?_ ?_;rotate_left
           ·simp only [Act.put,zq1,zq2,zq3,i64_w,i32_w];rfl
           refine pure_ (i:=11) (N:=some 78) (v:=?_) (a':=?_) #[zt,zt,zt,zt,zt,zt,zt,zt,zt,zt,zt,zt,zf,zf,zf,zf,zf,zf,zf,zf,zf,zf,zf,zf,zf,zf,zf] rfl rfl (z18 HT_.out (by kernel_rfl)) (fun _ _ _ h=>h) (Or.inl ⟨by rfl,?_⟩) ?_ ?_;rotate_left
           ·intro w';go_simp;with_reducible rfl
           rotate_left
           ·simp only [Act.put,zq1,zq2,zq3,i64_w,i32_w];rfl
           refine pure_ (i:=12) (N:=some 79) (v:=?_) (a':=?_) #[zt,zt,zt,zt,zt,zt,zt,zt,zt,zt,zt,zt,zt,zf,zf,zf,zf,zf,zf,zf,zf,zf,zf,zf,zf,zf,zf] rfl rfl (z18 HT_.out (by kernel_rfl)) (fun _ _ _ h=>h) (Or.inl ⟨by rfl,?_⟩) ?_ ?_;rotate_left
           ·intro w';go_simp;with_reducible rfl
           rotate_left
           ·simp only [Act.put,zq1,zq2,zq3,i64_w,i32_w];rfl
           refine pure_ (i:=13) (N:=some 80) (v:=undef) (a':=?_) #[zt,zt,zt,zt,zt,zt,zt,zt,zt,zt,zt,zt,zt,zt,zf,zf,zf,zf,zf,zf,zf,zf,zf,zf,zf,zf,zf] rfl rfl (z18 HT_.out (by kernel_rfl)) (fun _ _ _ h=>h) (Or.inr ⟨by rfl,rfl⟩) ?_ ?_;rotate_left
           ·simp only [Act.put,zq1,zq2,zq3,i64_w,i32_w];rfl
           refine pure_ (i:=14) (N:=some 81) (v:=undef) (a':=?_) #[zt,zt,zt,zt,zt,zt,zt,zt,zt,zt,zt,zt,zt,zt,zt,zf,zf,zf,zf,zf,zf,zf,zf,zf,zf,zf,zf] rfl rfl (z18 HT_.out (by kernel_rfl)) (fun _ _ _ h=>h) (Or.inr ⟨by rfl,rfl⟩) ?_ ?_;rotate_left
           ·simp only [Act.put,zq1,zq2,zq3,i64_w,i32_w];rfl
           refine pure_ (i:=15) (N:=some 82) (v:=undef) (a':=?_) #[zt,zt,zt,zt,zt,zt,zt,zt,zt,zt,zt,zt,zt,zt,zt,zt,zf,zf,zf,zf,zf,zf,zf,zf,zf,zf,zf] rfl rfl (z18 HT_.out (by kernel_rfl)) (fun _ _ _ h=>h) (Or.inr ⟨by rfl,rfl⟩) ?_ ?_;rotate_left
           ·simp only [Act.put,zq1,zq2,zq3,i64_w,i32_w];rfl
           refine pure_ (i:=16) (N:=some 83) (v:=undef) (a':=?_) #[zt,zt,zt,zt,zt,zt,zt,zt,zt,zt,zt,zt,zt,zt,zt,zt,zt,zf,zf,zf,zf,zf,zf,zf,zf,zf,zf] rfl rfl (z18 HT_.out (by kernel_rfl)) (fun _ _ _ h=>h) (Or.inr ⟨by rfl,rfl⟩) ?_ ?_;rotate_left
           ·simp only [Act.put,zq1,zq2,zq3,i64_w,i32_w];rfl
           refine pure_ (i:=17) (N:=some 84) (v:=undef) (a':=?_) #[zt,zt,zt,zt,zt,zt,zt,zt,zt,zt,zt,zt,zt,zt,zt,zt,zt,zt,zf,zf,zf,zf,zf,zf,zf,zf,zf] rfl rfl (z18 HT_.out (by kernel_rfl)) (fun _ _ _ h=>h) (Or.inr ⟨by rfl,rfl⟩) ?_ ?_;rotate_left
           ·simp only [Act.put,zq1,zq2,zq3,i64_w,i32_w];rfl
           refine pure_ (i:=18) (N:=some 85) (v:=undef) (a':=?_) #[zt,zt,zt,zt,zt,zt,zt,zt,zt,zt,zt,zt,zt,zt,zt,zt,zt,zt,zt,zf,zf,zf,zf,zf,zf,zf,zf] rfl rfl (z18 HT_.out (by kernel_rfl)) (fun _ _ _ h=>h) (Or.inr ⟨by rfl,rfl⟩) ?_ ?_;rotate_left
           ·simp only [Act.put,zq1,zq2,zq3,i64_w,i32_w];rfl
           refine pure_ (i:=19) (N:=some 86) (v:=undef) (a':=?_) #[zt,zt,zt,zt,zt,zt,zt,zt,zt,zt,zt,zt,zt,zt,zt,zt,zt,zt,zt,zt,zf,zf,zf,zf,zf,zf,zf] rfl rfl (z18 HT_.out (by kernel_rfl)) (fun _ _ _ h=>h) (Or.inr ⟨by rfl,rfl⟩) ?_ ?_;rotate_left
           ·simp only [Act.put,zq1,zq2,zq3,i64_w,i32_w];rfl
           refine pure_ (i:=20) (N:=some 87) (v:=undef) (a':=?_) #[zt,zt,zt,zt,zt,zt,zt,zt,zt,zt,zt,zt,zt,zt,zt,zt,zt,zt,zt,zt,zt,zf,zf,zf,zf,zf,zf] rfl rfl (z18 HT_.out (by kernel_rfl)) (fun _ _ _ h=>h) (Or.inr ⟨by rfl,rfl⟩) ?_ ?_;rotate_left
           ·simp only [Act.put,zq1,zq2,zq3,i64_w,i32_w];rfl
           refine pure_ (i:=21) (N:=some 88) (v:=undef) (a':=?_) #[zt,zt,zt,zt,zt,zt,zt,zt,zt,zt,zt,zt,zt,zt,zt,zt,zt,zt,zt,zt,zt,zt,zf,zf,zf,zf,zf] rfl rfl (z18 HT_.out (by kernel_rfl)) (fun _ _ _ h=>h) (Or.inr ⟨by rfl,rfl⟩) ?_ ?_;rotate_left
           ·simp only [Act.put,zq1,zq2,zq3,i64_w,i32_w];rfl
           refine pure_ (i:=22) (N:=some 89) (v:=undef) (a':=?_) #[zt,zt,zt,zt,zt,zt,zt,zt,zt,zt,zt,zt,zt,zt,zt,zt,zt,zt,zt,zt,zt,zt,zt,zf,zf,zf,zf] rfl rfl (z18 HT_.out (by kernel_rfl)) (fun _ _ _ h=>h) (Or.inr ⟨by rfl,rfl⟩) ?_ ?_;rotate_left
           ·simp only [Act.put,zq1,zq2,zq3,i64_w,i32_w];rfl
           refine pure_ (i:=23) (N:=some 90) (v:=undef) (a':=?_) #[zt,zt,zt,zt,zt,zt,zt,zt,zt,zt,zt,zt,zt,zt,zt,zt,zt,zt,zt,zt,zt,zt,zt,zt,zf,zf,zf] rfl rfl (z18 HT_.out (by kernel_rfl)) (fun _ _ _ h=>h) (Or.inr ⟨by rfl,rfl⟩) ?_ ?_;rotate_left
           ·simp only [Act.put,zq1,zq2,zq3,i64_w,i32_w];rfl
           refine pure_ (i:=24) (N:=some 91) (v:=undef) (a':=?_) #[zt,zt,zt,zt,zt,zt,zt,zt,zt,zt,zt,zt,zt,zt,zt,zt,zt,zt,zt,zt,zt,zt,zt,zt,zt,zf,zf] rfl rfl (z18 HT_.out (by kernel_rfl)) (fun _ _ _ h=>h) (Or.inr ⟨by rfl,rfl⟩) ?_ ?_;rotate_left
           ·simp only [Act.put,zq1,zq2,zq3,i64_w,i32_w];rfl
           refine pure_ (i:=25) (N:=some 92) (v:=?_) (a':=?_) #[zt,zt,zt,zt,zt,zt,zt,zt,zt,zt,zt,zt,zt,zt,zt,zt,zt,zt,zt,zt,zt,zt,zt,zt,zt,zt,zf] rfl rfl (z18 HT_.out (by kernel_rfl)) (fun _ _ _ h=>h) (Or.inl ⟨by rfl,?_⟩) ?_ ?_;rotate_left
           ·intro w';go_simp;with_reducible rfl
           rotate_left
           ·simp only [Act.put,zq1,zq2,zq3,i64_w,i32_w];rfl
           refine pure_ (i:=26) (N:=some 6) (v:=?_) (a':=?_) #[zt,zt,zt,zt,zt,zt,zt,zt,zt,zt,zt,zt,zt,zt,zt,zt,zt,zt,zt,zt,zt,zt,zt,zt,zt,zt,zt] rfl rfl (z18 HT_.out (by kernel_rfl)) (fun _ _ _ h=>h) (Or.inl ⟨by rfl,?_⟩) ?_ ?_;rotate_left
           ·intro w';go_simp;with_reducible rfl
           rotate_left
           ·simp only [Act.put,zq1,zq2,zq3,i64_w,i32_w];rfl
           refine done_ (done_of HT_.out (by kernel_rfl)) ?_;try go_wp2
           go_ret
           exact ⟨by first|rfl|(simp [z0g,z0f] <;> rfl)|(simp [*,z0g,z0f] <;> rfl),by repeat (first|(with_reducible first|exact HB.out|apply z04|apply z03|apply z05|refine z07 ?_ GE247.out|refine z07 ?_ GE249.out)|exact HB.out)⟩
         ·rw [if_neg c38] at H;have c38b0:(((z06 l0_5 a1).f0) == 24)=false:=beq_eq_false_iff_ne.mpr c38;have c38b1:(((z06 l0_5 a1).f0) != 24)=true:=bne_iff_ne.mpr c38;replace H:=Option.bind_eq_some_iff.mp H;obtain ⟨t254,A640,H⟩:=H;skip;have A64:=Aside0.mk A640;clear A640
          by_cases c65:t254=true
          ·subst c65;have H1:(some (a2 == (wrap64 (a1+1))))=some r:=(by rw [if_pos rfl] at H;exact H);clear H;have H:=H1;clear H1;obtain rfl:=Option.some.inj H;have hcz66_0:wc.cell? ⟨gb247,0,none⟩=some (.int .i64 a0_0):=(z02 BK247.out 0).trans rfl;have hcz66_1:wc.cell? ⟨gb247,1,none⟩=some (.int .i64 a0_1):=(z02 BK247.out 1).trans rfl;have hcz66_2:wc.cell? ⟨gb247,2,none⟩=some (.int .i64 a0_2):=(z02 BK247.out 2).trans rfl;have hcz66_3:wc.cell? ⟨gb247,3,none⟩=some (.slice A0_3 l0_3.length c0_3):=(z02 BK247.out 3).trans rfl;have hcz66_4:wc.cell? ⟨gb247,4,none⟩=some (.slice A0_4 l0_4.length c0_4):=(z02 BK247.out 4).trans rfl;have hcz66_5:wc.cell? ⟨gb247,5,none⟩=some (.slice A0_5 l0_5.length c0_5):=(z02 BK247.out 5).trans rfl;have hfz66_0:=z01 BK247.out 0;have hfz66_1:=z01 BK247.out 1;have hfz66_2:=z01 BK247.out 2;have hfz66_3:=z01 BK247.out 3;have hfz66_4:=z01 BK247.out 4;have hfz66_5:=z01 BK247.out 5;have p248:0≤(a1:Int):=of_decide_eq_true (by assumption);have q248:a1 < (l0_5.length:Int):=of_decide_eq_true (by assumption);obtain ⟨ad248,e248,hx248_0,hx248_1,hx248_2,hx248_3,hx248_4⟩:=z22 HR0_5.out a1 p248 q248;cases e248;replace hx248_0:=(HB.out.cell (World.block_lt_of_cell? w _ hx248_0)).trans hx248_0;replace hx248_1:=(HB.out.cell (World.block_lt_of_cell? w _ hx248_1)).trans hx248_1;replace hx248_2:=(HB.out.cell (World.block_lt_of_cell? w _ hx248_2)).trans hx248_2;replace hx248_3:=(HB.out.cell (World.block_lt_of_cell? w _ hx248_3)).trans hx248_3;replace hx248_4:=(HB.out.cell (World.block_lt_of_cell? w _ hx248_4)).trans hx248_4;replace p248:=eq_true p248;replace q248:=eq_true q248
           go_wp2_with (first|((with_reducible refine z12 (N:=7) rfl ?_);(try (refine z1p (by rfl) ?_;dsimp only));refine z17 ?hg (N:=7) ?hd (cs:=#[.int .i64 0,.int .i64 0,.int .i64 0,.int .i64 0,.int .u64 0]) (t:=79) ?hr ?_;(case hd=>rfl);(case hg=>rfl);(case hr=>first|(go_simp;done)|(go_simp;rfl));intro gb249 hg w67 hbox hb;have n0_:=Aside0.mk (z0z (g:=gb247) (o:=.cells #[.int .i64 a0_0,.int .i64 a0_1,.int .i64 a0_2,.slice A0_3 l0_3.length c0_3,.slice A0_4 l0_4.length c0_4,.slice (some ad248) l0_5.length c0_5] 26 (0,0)) (by (with_reducible repeat (first|refine z09 ?_ _|refine z0a ?_|refine z08 ?_ _));exact BK247.out) hb);have n1_:=Aside0.mk (z0o (by repeat (first|(with_reducible first|exact HB.out|apply z04|apply z03|apply z05|refine z07 ?_ GE247.out)|exact HB.out)) hb);have n2_:=Aside0.mk (hbox);have n3_:=Aside0.mk ((by rw [hg];exact (z0h (by repeat (first|(with_reducible first|exact HB.out|apply z04|apply z03|apply z05|refine z07 ?_ GE247.out)|exact HB.out))):w.heap.size≤gb249));have n4_:=Aside0.mk ((by rw [hg];exact (z0h (by repeat (first|(with_reducible first|exact HB.out|apply z04|apply z03|apply z05|refine z07 ?_ GE247.out)|exact HB.out))):w.heap.size≤gb249));have n5_:=Aside0.mk ((by rw [hg];exact Nat.ne_of_lt (z15 (g:=gb247) (o:=.cells #[.int .i64 a0_0,.int .i64 a0_1,.int .i64 a0_2,.slice A0_3 l0_3.length c0_3,.slice A0_4 l0_4.length c0_4,.slice (some ad248) l0_5.length c0_5] 26 (0,0)) (by (with_reducible repeat (first|refine z09 ?_ _|refine z0a ?_|refine z08 ?_ _));exact BK247.out)):gb247≠gb249));have n6_:=Aside0.mk ((by rw [hg];exact Nat.ne_of_gt (z15 (g:=gb247) (o:=.cells #[.int .i64 a0_0,.int .i64 a0_1,.int .i64 a0_2,.slice A0_3 l0_3.length c0_3,.slice A0_4 l0_4.length c0_4,.slice (some ad248) l0_5.length c0_5] 26 (0,0)) (by (with_reducible repeat (first|refine z09 ?_ _|refine z0a ?_|refine z08 ?_ _));exact BK247.out)):gb249≠gb247));clear BK247;clear HB;have BK247:=n0_;have HB:=n1_;have BK249:=n2_;have GW249:=n3_;have GE249:=n4_;have NB247_249:=n5_;have NB249_247:=n6_;clear n0_ n1_ n2_ n3_ n4_ n5_ n6_;clear hb hbox hg;have hnb68:=NB249_247.out;have hnc68:=NB247_249.out;have hcz69_0:w67.cell? ⟨gb249,0,none⟩=some (.int .i64 0):=(z02 BK249.out 0).trans rfl;have hcz69_1:w67.cell? ⟨gb249,1,none⟩=some (.int .i64 0):=(z02 BK249.out 1).trans rfl;have hcz69_2:w67.cell? ⟨gb249,2,none⟩=some (.int .i64 0):=(z02 BK249.out 2).trans rfl;have hcz69_3:w67.cell? ⟨gb249,3,none⟩=some (.int .i64 0):=(z02 BK249.out 3).trans rfl;have hcz69_4:w67.cell? ⟨gb249,4,none⟩=some (.int .u64 0):=(z02 BK249.out 4).trans rfl;have hfz69_0:=z01 BK249.out 0;have hfz69_1:=z01 BK249.out 1;have hfz69_2:=z01 BK249.out 2;have hfz69_3:=z01 BK249.out 3;have hfz69_4:=z01 BK249.out 4)|((with_reducible refine z0x (f:=86) rfl ?_);refine z1e (some 95) rfl rfl Tryz.func86 (by kernel_rfl) rfl #[.int .i64 ((z06 l0_5 a1).f0)] rfl (by (try simp only [List.map_toArray,List.map_cons,List.map_nil]);first|done|rfl) ?_;(with_reducible refine (z1n.calls ((z06 l0_5 a1).f0) true _ A64.out).mono ?_);rintro e w' ⟨rfl,⟨nd,rfl⟩⟩;refine ⟨_,rfl,?_⟩))
           go_ret
           exact ⟨by first|rfl|(simp [z0g,z0f] <;> rfl)|(simp [*,z0g,z0f] <;> rfl),by repeat (first|(with_reducible first|exact HB.out|apply z04|apply z03|apply z05|refine z07 ?_ GE247.out|refine z07 ?_ GE249.out)|exact HB.out)⟩
          ·replace c65:=Bool.eq_false_iff.mpr c65;subst c65;have H1:(some false)=some r:=(by rw [if_neg (show ¬ (false=true) by decide)] at H;exact H);clear H;have H:=H1;clear H1;obtain rfl:=Option.some.inj H;have hcz70_0:wc.cell? ⟨gb247,0,none⟩=some (.int .i64 a0_0):=(z02 BK247.out 0).trans rfl;have hcz70_1:wc.cell? ⟨gb247,1,none⟩=some (.int .i64 a0_1):=(z02 BK247.out 1).trans rfl;have hcz70_2:wc.cell? ⟨gb247,2,none⟩=some (.int .i64 a0_2):=(z02 BK247.out 2).trans rfl;have hcz70_3:wc.cell? ⟨gb247,3,none⟩=some (.slice A0_3 l0_3.length c0_3):=(z02 BK247.out 3).trans rfl;have hcz70_4:wc.cell? ⟨gb247,4,none⟩=some (.slice A0_4 l0_4.length c0_4):=(z02 BK247.out 4).trans rfl;have hcz70_5:wc.cell? ⟨gb247,5,none⟩=some (.slice A0_5 l0_5.length c0_5):=(z02 BK247.out 5).trans rfl;have hfz70_0:=z01 BK247.out 0;have hfz70_1:=z01 BK247.out 1;have hfz70_2:=z01 BK247.out 2;have hfz70_3:=z01 BK247.out 3;have hfz70_4:=z01 BK247.out 4;have hfz70_5:=z01 BK247.out 5;have p248:0≤(a1:Int):=of_decide_eq_true (by assumption);have q248:a1 < (l0_5.length:Int):=of_decide_eq_true (by assumption);obtain ⟨ad248,e248,hx248_0,hx248_1,hx248_2,hx248_3,hx248_4⟩:=z22 HR0_5.out a1 p248 q248;cases e248;replace hx248_0:=(HB.out.cell (World.block_lt_of_cell? w _ hx248_0)).trans hx248_0;replace hx248_1:=(HB.out.cell (World.block_lt_of_cell? w _ hx248_1)).trans hx248_1;replace hx248_2:=(HB.out.cell (World.block_lt_of_cell? w _ hx248_2)).trans hx248_2;replace hx248_3:=(HB.out.cell (World.block_lt_of_cell? w _ hx248_3)).trans hx248_3;replace hx248_4:=(HB.out.cell (World.block_lt_of_cell? w _ hx248_4)).trans hx248_4;replace p248:=eq_true p248;replace q248:=eq_true q248
           go_wp2_with (first|((with_reducible refine z12 (N:=7) rfl ?_);(try (refine z1p (by rfl) ?_;dsimp only));refine z17 ?hg (N:=7) ?hd (cs:=#[.int .i64 0,.int .i64 0,.int .i64 0,.int .i64 0,.int .u64 0]) (t:=79) ?hr ?_;(case hd=>rfl);(case hg=>rfl);(case hr=>first|(go_simp;done)|(go_simp;rfl));intro gb249 hg w71 hbox hb;have n0_:=Aside0.mk (z0z (g:=gb247) (o:=.cells #[.int .i64 a0_0,.int .i64 a0_1,.int .i64 a0_2,.slice A0_3 l0_3.length c0_3,.slice A0_4 l0_4.length c0_4,.slice (some ad248) l0_5.length c0_5] 26 (0,0)) (by (with_reducible repeat (first|refine z09 ?_ _|refine z0a ?_|refine z08 ?_ _));exact BK247.out) hb);have n1_:=Aside0.mk (z0o (by repeat (first|(with_reducible first|exact HB.out|apply z04|apply z03|apply z05|refine z07 ?_ GE247.out)|exact HB.out)) hb);have n2_:=Aside0.mk (hbox);have n3_:=Aside0.mk ((by rw [hg];exact (z0h (by repeat (first|(with_reducible first|exact HB.out|apply z04|apply z03|apply z05|refine z07 ?_ GE247.out)|exact HB.out))):w.heap.size≤gb249));have n4_:=Aside0.mk ((by rw [hg];exact (z0h (by repeat (first|(with_reducible first|exact HB.out|apply z04|apply z03|apply z05|refine z07 ?_ GE247.out)|exact HB.out))):w.heap.size≤gb249));have n5_:=Aside0.mk ((by rw [hg];exact Nat.ne_of_lt (z15 (g:=gb247) (o:=.cells #[.int .i64 a0_0,.int .i64 a0_1,.int .i64 a0_2,.slice A0_3 l0_3.length c0_3,.slice A0_4 l0_4.length c0_4,.slice (some ad248) l0_5.length c0_5] 26 (0,0)) (by (with_reducible repeat (first|refine z09 ?_ _|refine z0a ?_|refine z08 ?_ _));exact BK247.out)):gb247≠gb249));have n6_:=Aside0.mk ((by rw [hg];exact Nat.ne_of_gt (z15 (g:=gb247) (o:=.cells #[.int .i64 a0_0,.int .i64 a0_1,.int .i64 a0_2,.slice A0_3 l0_3.length c0_3,.slice A0_4 l0_4.length c0_4,.slice (some ad248) l0_5.length c0_5] 26 (0,0)) (by (with_reducible repeat (first|refine z09 ?_ _|refine z0a ?_|refine z08 ?_ _));exact BK247.out)):gb249≠gb247));clear BK247;clear HB;have BK247:=n0_;have HB:=n1_;have BK249:=n2_;have GW249:=n3_;have GE249:=n4_;have NB247_249:=n5_;have NB249_247:=n6_;clear n0_ n1_ n2_ n3_ n4_ n5_ n6_;clear hb hbox hg;have hnb72:=NB249_247.out;have hnc72:=NB247_249.out;have hcz73_0:w71.cell? ⟨gb249,0,none⟩=some (.int .i64 0):=(z02 BK249.out 0).trans rfl;have hcz73_1:w71.cell? ⟨gb249,1,none⟩=some (.int .i64 0):=(z02 BK249.out 1).trans rfl;have hcz73_2:w71.cell? ⟨gb249,2,none⟩=some (.int .i64 0):=(z02 BK249.out 2).trans rfl;have hcz73_3:w71.cell? ⟨gb249,3,none⟩=some (.int .i64 0):=(z02 BK249.out 3).trans rfl;have hcz73_4:w71.cell? ⟨gb249,4,none⟩=some (.int .u64 0):=(z02 BK249.out 4).trans rfl;have hfz73_0:=z01 BK249.out 0;have hfz73_1:=z01 BK249.out 1;have hfz73_2:=z01 BK249.out 2;have hfz73_3:=z01 BK249.out 3;have hfz73_4:=z01 BK249.out 4)|((with_reducible refine z0x (f:=86) rfl ?_);refine z1e (some 95) rfl rfl Tryz.func86 (by kernel_rfl) rfl #[.int .i64 ((z06 l0_5 a1).f0)] rfl (by (try simp only [List.map_toArray,List.map_cons,List.map_nil]);first|done|rfl) ?_;(with_reducible refine (z1n.calls ((z06 l0_5 a1).f0) false _ A64.out).mono ?_);rintro e w' ⟨rfl,⟨nd,rfl⟩⟩;refine ⟨_,rfl,?_⟩))
           go_ret
           exact ⟨by first|rfl|(simp [z0g,z0f] <;> rfl)|(simp [*,z0g,z0f] <;> rfl),by repeat (first|(with_reducible first|exact HB.out|apply z04|apply z03|apply z05|refine z07 ?_ GE247.out|refine z07 ?_ GE249.out)|exact HB.out)⟩
     ·rw [if_neg c14] at H;exact absurd H (by simp)
    ·rw [if_neg c13] at H;exact absurd H (by simp)
end Go.Proofs.YtcbnhfnnjkkceaaGreat.X
end
