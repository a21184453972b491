/- For the statement of the row : what its proof needs of the text B4. -/
import Derived.Test.YtcbnhfnnjkkceaaJB1
import Derived.Test.YtcbnhfnnjkkceaaJB2
import Derived.Test.YtcbnhfnnjkkceaaJB3
set_option linter.unusedSectionVars false
set_option linter.unusedSimpArgs false
set_option linter.unusedVariables false

section
namespace Go.Proofs.Ytcbnhfnnjkkceaa.X
open Go.RowKit Go.Proofs.YtcbnhfnnjkkceaaW.PrintWords Go.Proofs.Ytcbnhfnnjkkceaa.Gr
theorem kept_some (k : Nat) (a b c d e x : Int) : ∃ r,z0y.f (k + 2) a b c d e x = some r:=by
 unfold z0y.f
 split <;> (rw [z0y.j0]; split <;> (rw [z0y.j1]; split <;> split <;> exact ⟨_,rfl⟩))
theorem reg_some (a : Int) : ∃ b,code_register.f a = some b:=by
 unfold code_register.f
 split <;> exact ⟨_,rfl⟩
theorem wrong_j3 (k : Nat) (x57 : Bool) (a b c d e a' b' c' d' e' : Int) : ∃ r,z0p.j3 (k + 1) x57 a b c d e a' b' c' d' e' = some r:=by
 rw [z0p.j3]
 split
 ·exact ⟨_,rfl⟩
 ·split <;> exact ⟨_,rfl⟩
theorem wrong_j2 (k : Nat) (x3 : Int) (x5 x45 : Bool) (a b c d e a' b' c' d' e' : Int) : ∃ r,z0p.j2 (k + 2) x3 x5 x45 a b c d e a' b' c' d' e' = some r:=by
 rw [z0p.j2]
 obtain ⟨t,ht⟩:=reg_some d
 rw [ht]
 simp only [Option.bind_some]
 repeat' split
 all_goals first | exact ⟨_,rfl⟩ | exact wrong_j3 k _ _ _ _ _ _ _ _ _ _ _
theorem wrong_j1 (k : Nat) (x3 : Int) (x5 x33 : Bool) (a b c d e a' b' c' d' e' : Int) : ∃ r,z0p.j1 (k + 3) x3 x5 x33 a b c d e a' b' c' d' e' = some r:=by
 rw [z0p.j1]
 obtain ⟨t,ht⟩:=reg_some c
 rw [ht]
 simp only [Option.bind_some]
 repeat' split
 all_goals first | exact ⟨_,rfl⟩ | exact wrong_j2 k _ _ _ _ _ _ _ _ _ _ _ _ _
theorem wrong_j0 (k : Nat) (x3 : Int) (x5 : Bool) (a b c d e a' b' c' d' e' : Int) : ∃ r,z0p.j0 (k + 4) x3 x5 a b c d e a' b' c' d' e' = some r:=by
 rw [z0p.j0]
 obtain ⟨t,ht⟩:=reg_some b
 rw [ht]
 simp only [Option.bind_some]
 repeat' split
 all_goals exact wrong_j1 k _ _ _ _ _ _ _ _ _ _ _ _ _
theorem forms_some : ∃ l,code_forms.f = some l ∧ l.length = 26:=⟨_,rfl,rfl⟩
theorem wrong_some (k : Nat) (a b c d e : Int) (h0 : 0 ≤ a) (h1 : a ≤ 25) : ∃ r,z0p.f (k + 4) a b c d e = some r:=by
 obtain ⟨l,hl,hn⟩:=forms_some
 unfold z0p.f
 rw [hl,Option.bind_some,if_pos h0,if_pos (by rw [hn]; omega)]
 obtain ⟨t,ht⟩:=kept_some (k + 2) a b c d e ((rd_T90 l a).f1)
 rw [ht,Option.bind_some]
 repeat' split
 all_goals exact wrong_j0 k _ _ _ _ _ _ _ _ _ _ _ _
theorem put_l0 : ∀ (n k : Nat) (x4 : List Int) (a b c d e : Int),n ≤ 8 → n < k → x4.length + n ≤ 100 → ∃ r,code_Put.l0 k x4 (8 * (n : Int) - 8) a b c d e = some (r,0) ∧ r.length = x4.length + n
 | 0,k,x4,a,b,c,d,e,_,hk,hx=>by
  obtain ⟨k,rfl⟩ : ∃ j,k = j + 1:=⟨k - 1,by omega⟩
  rw [code_Put.l0,if_neg (by omega)]
  exact ⟨_,rfl,rfl⟩
 | n + 1,k,x4,a,b,c,d,e,hn,hk,hx=>by
  obtain ⟨k,rfl⟩ : ∃ j,k = j + 1:=⟨k - 1,by omega⟩
  rw [code_Put.l0,if_pos (by omega),if_pos (by omega),if_pos (by omega),show wrap64 (8 * ((n + 1 : Nat) : Int) - 8 - 8) = 8 * (n : Int) - 8 by unfold wrap64; omega]
  obtain ⟨r,hr,hl⟩:=put_l0 n k (x4 ++ [(shr .u64 e (8 * ((n + 1 : Nat) : Int) - 8)) % 256]) a b c d e (by omega) (by omega) (by simp; omega)
  exact ⟨r,hr,by rw [hl]; simp; omega⟩
/-- code.Put answers, and so much. -/
theorem put_some (a b c d e : Int) : ∃ r er,code_Put.f 20 a b c d e = some (r,er) ∧ r.length ≤ 12 ∧ (er = 0 → 0 ≤ a ∧ a ≤ 25):=by
 unfold code_Put.f code_known.f
 by_cases h0 : a ≥ 0
 ·rw [if_pos h0,Option.bind_some]
  by_cases h1 : a ≤ 25
  ·rw [if_pos (decide_eq_true h1)]
   obtain ⟨t,ht⟩:=wrong_some 16 a b c d e h0 h1
   rw [ht,Option.bind_some]
   split
   ·obtain ⟨r,hr,hl⟩:=put_l0 8 20 [a % 256,b % 256,c % 256,d % 256] a b c d e (by omega) (by omega) (by simp)
    exact ⟨r,0,hr,by rw [hl]; simp,fun _=>⟨h0,h1⟩⟩
   ·exact ⟨_,_,rfl,by simp,fun h=>by simp at h⟩
  ·rw [if_neg (by simpa using h1)]
   exact ⟨_,_,rfl,by simp,fun h=>by simp at h⟩
 ·rw [if_neg h0,Option.bind_some]
  exact ⟨_,_,rfl,by simp,fun h=>by simp at h⟩
def putV (i : In) : List Int × Int:=(code_Put.f 20 i.f0 i.f1 i.f2 i.f3 i.f4).getD ([],0)
theorem put_f (i : In) {k : Nat} (hk : 20 ≤ k) : code_Put.f k i.f0 i.f1 i.f2 i.f3 i.f4 = some (putV i):=by
 obtain ⟨r,er,h,_⟩:=put_some i.f0 i.f1 i.f2 i.f3 i.f4
 have : putV i = (r,er):=by unfold putV; rw [h]; rfl
 rw [this]
 exact at_rounds (fun k=>code_Put.mono i.f0 i.f1 i.f2 i.f3 i.f4 k) hk h
theorem putV_len (i : In) : (putV i).1.length ≤ 12:=by
 obtain ⟨r,er,h,hl,_⟩:=put_some i.f0 i.f1 i.f2 i.f3 i.f4
 have : putV i = (r,er):=by unfold putV; rw [h]; rfl
 rw [this]
 exact hl
/-- The first error of a row of instructions; else one where an image doesn't flow. -/
def firstE (p : Im) : List In → Int
 | []=>if firstP (strayAt p.f4 p.f5) (placesL p.f5.length) ≥ 0 then 7 else 0
 | i :: r=>if (putV i).2 = 0 then firstE p r else (putV i).2
theorem enc_l1 (p : Im) (hf : Fits p.f4 p.f5.length) : ∀ (d k x : Nat) (x4 : List Int),x + d = p.f5.length → d + 21 ≤ k → x4.length ≤ 1000 + 12 * x →
  ∃ r,z0r.l1 k x4 p.f5 (p.f5.length : Int) x p.f0 p.f1 p.f2 p.f3 p.f4 p.f5 = some (r,firstE p (p.f5.drop x))
 | 0,k,x,x4,hx,hk,hl=>by
  obtain ⟨k,rfl⟩ : ∃ j,k = j + 1:=⟨k - 1,by omega⟩
  rw [z0r.l1,if_neg (by omega)]
  unfold image_stray.f
  rw [if_pos hf,Option.bind_some,List.drop_eq_nil_of_le (by omega)]
  unfold firstE
  split <;> exact ⟨_,rfl⟩
 | d + 1,k,x,x4,hx,hk,hl=>by
  obtain ⟨k,rfl⟩ : ∃ j,k = j + 1:=⟨k - 1,by omega⟩
  have hlt : x < p.f5.length:=by omega
  have h256:=hf.2.2.1
  rw [z0r.l1,if_pos (by omega),if_pos (by omega),if_pos (by omega),put_f _ (by omega),Option.bind_some,List.drop_eq_getElem_cons hlt]
  have e : z0a p.f5 x = p.f5[x]:=by
   unfold z0a
   simp [List.getD_eq_getElem?_getD,List.getElem?_eq_getElem hlt]
  rw [e]
  have hpl:=putV_len p.f5[x]
  unfold firstE
  split
  ·rw [if_pos (by omega),show wrap64 ((x : Int) + 1) = ((x + 1 : Nat) : Int) by unfold wrap64; omega]
   exact enc_l1 p hf d k (x + 1) _ (by omega) (by omega) (by rw [List.length_append]; omega)
  ·exact ⟨_,rfl⟩
theorem enc_l0 (p : Im) (hf : Fits p.f4 p.f5.length) : ∀ (d k x : Nat) (x4 : List Int),x + d = p.f4.length → d + 300 ≤ k → x4.length ≤ 200 + 2 * x →
  ∃ r,z0r.l0 k x4 p.f4 (p.f4.length : Int) x p.f0 p.f1 p.f2 p.f3 p.f4 p.f5 = some (r,firstE p p.f5)
 | 0,k,x,x4,hx,hk,hl=>by
  obtain ⟨k,rfl⟩ : ∃ j,k = j + 1:=⟨k - 1,by omega⟩
  have h16:=hf.2.1
  have h256:=hf.2.2.1
  rw [z0r.l0,if_neg (by omega),Option.bind_some,if_pos (by simp; omega)]
  exact enc_l1 p hf p.f5.length k 0 _ (by omega) (by omega) (by simp; omega)
 | d + 1,k,x,x4,hx,hk,hl=>by
  obtain ⟨k,rfl⟩ : ∃ j,k = j + 1:=⟨k - 1,by omega⟩
  have h16:=hf.2.1
  rw [z0r.l0,if_pos (by omega),if_pos (by omega),if_pos (by omega),Option.bind_some,if_pos (by simp; omega),show wrap64 ((x : Int) + 1) = ((x + 1 : Nat) : Int) by unfold wrap64; omega]
  exact enc_l0 p hf d k (x + 1) _ (by omega) (by omega) (by simp; omega)
/-- Are all sizes so, up to the code? -/
def SizesP (p : Im) : Prop:=(0 ≤ p.f0 ∧ p.f0 ≤ 64) ∧ (0 ≤ p.f1 ∧ p.f1 ≤ 16) ∧ (0 ≤ p.f2 ∧ p.f2 ≤ 16) ∧ (p.f3.length : Int) ≤ p.f0 ∧ (1 ≤ p.f4.length ∧ p.f4.length ≤ 16) ∧ rd p.f4 0 = 0 ∧
 (∀ j : Nat,j < p.f4.length - 1 → rd p.f4 j < rd p.f4 (j + 1)) ∧ wrap64 (rd p.f4 ((p.f4.length : Int) - 1) + 1) ≤ p.f5.length ∧ p.f5.length ≤ 256
theorem within_f (a lo hi : Int) : z0n.f a lo hi = some (decide (lo ≤ a ∧ a ≤ hi)):=by
 unfold z0n.f
 by_cases h : a ≥ lo
 ·rw [if_pos h]
  simp [h]
 ·rw [if_neg h]
  simp [h]
theorem rd_drop1 (l : List Int) (x : Nat) (h : x < l.length - 1) : rd (l.drop 1) x = rd l ((x : Int) + 1):=by
 unfold rd
 rw [show ((x : Int) + 1).toNat = x + 1 by omega,Int.toNat_natCast,List.getD_eq_getElem?_getD,List.getD_eq_getElem?_getD,List.getElem?_drop,Nat.add_comm 1 x]
theorem sizes_l0 (p : Im) (h16 : p.f4.length ≤ 16) (h1 : 1 ≤ p.f4.length) : ∀ (d k x : Nat),x + d = p.f4.length - 1 → d < k →
  ∃ b,z0m.l0 k (p.f4.drop 1) ((p.f4.drop 1).length : Int) x p.f0 p.f1 p.f2 p.f3 p.f4 p.f5 = some b ∧
   (b = true ↔ (∀ j : Nat,x ≤ j → j < p.f4.length - 1 → rd p.f4 j < rd p.f4 (j + 1)) ∧ wrap64 (rd p.f4 ((p.f4.length : Int) - 1) + 1) ≤ p.f5.length ∧ p.f5.length ≤ 256)
 | 0,k,x,hx,hk=>by
  obtain ⟨k,rfl⟩ : ∃ j,k = j + 1:=⟨k - 1,by omega⟩
  rw [z0m.l0,if_neg (by rw [List.length_drop]; omega),show wrap64 ((p.f4.length : Int) - 1) = (p.f4.length : Int) - 1 by unfold wrap64; omega,if_pos (by omega),if_pos (by omega),within_f,Option.bind_some]
  refine ⟨_,rfl,?_⟩
  rw [decide_eq_true_eq]
  exact ⟨fun h=>⟨fun j h2 h3=>by omega,h.1,by omega⟩,fun h=>⟨h.2.1,by omega⟩⟩
 | d + 1,k,x,hx,hk=>by
  obtain ⟨k,rfl⟩ : ∃ j,k = j + 1:=⟨k - 1,by omega⟩
  rw [z0m.l0,if_pos (by rw [List.length_drop]; omega),if_pos (by omega),if_pos (by rw [List.length_drop]; omega),if_pos (by omega),rd_drop1 p.f4 x (by omega)]
  by_cases h : rd p.f4 ((x : Int) + 1) ≤ rd p.f4 x
  ·rw [if_pos h]
   refine ⟨_,rfl,fun h2=>by simp at h2,fun h2=>?_⟩
   have:=h2.1 x (Nat.le_refl _) (by omega)
   omega
  ·rw [if_neg h,show wrap64 ((x : Int) + 1) = ((x + 1 : Nat) : Int) by unfold wrap64; omega]
   obtain ⟨b,hb,hi⟩:=sizes_l0 p h16 h1 d k (x + 1) (by omega) (by omega)
   refine ⟨b,hb,hi.trans ⟨fun h2=>⟨fun j h3 h4=>?_,h2.2⟩,fun h2=>⟨fun j h3 h4=>h2.1 j (by omega) h4,h2.2⟩⟩⟩
   by_cases e : j = x
   ·subst e
    omega
   ·exact h2.1 j (by omega) h4
theorem sizes_f (p : Im) {k : Nat} (hk : 20 ≤ k) : ∃ b,z0m.f k p.f0 p.f1 p.f2 p.f3 p.f4 p.f5 = some b ∧ (b = true ↔ SizesP p):=by
 obtain ⟨k,rfl⟩ : ∃ j,k = j + 1:=⟨k - 1,by omega⟩
 have hj : z0m.j0 (k + 1) true p.f0 p.f1 p.f2 p.f3 p.f4 p.f5 = some false:=by rw [z0m.j0,if_pos rfl]
 have hno : ¬ SizesP p → ∃ b,some false = some b ∧ (b = true ↔ SizesP p):=fun h=>⟨false,rfl,fun e=>by simp at e,fun e=>absurd e h⟩
 unfold z0m.f
 rw [within_f,Option.bind_some]
 by_cases c0 : 0 ≤ p.f0 ∧ p.f0 ≤ 64
 ·rw [if_pos (decide_eq_true c0),within_f,Option.bind_some]
  by_cases c1 : 0 ≤ p.f1 ∧ p.f1 ≤ 16
  ·rw [if_pos (decide_eq_true c1),within_f,Option.bind_some]
   by_cases c2 : 0 ≤ p.f2 ∧ p.f2 ≤ 16
   ·rw [if_pos (decide_eq_true c2)]
    by_cases c3 : (p.f3.length : Int) > p.f0
    ·rw [if_pos c3,hj]
     exact hno fun h=>by have:=h.2.2.2.1; omega
    ·rw [if_neg c3,within_f,Option.bind_some]
     by_cases c4 : 1 ≤ (p.f4.length : Int) ∧ (p.f4.length : Int) ≤ 16
     ·rw [if_pos (decide_eq_true c4),if_pos (by omega),z0m.j0]
      by_cases c5 : rd p.f4 0 = 0
      ·rw [if_neg (by simp [c5]),if_pos (by omega)]
       obtain ⟨b,hb,hi⟩:=sizes_l0 p (by omega) (by omega) (p.f4.length - 1) k 0 (by omega) (by omega)
       refine ⟨b,hb,hi.trans ⟨fun h=>⟨c0,c1,c2,by omega,⟨by omega,by omega⟩,c5,fun j hj=>h.1 j (by omega) hj,h.2.1,h.2.2⟩,fun h=>⟨fun j _ hj=>h.2.2.2.2.2.2.1 j hj,h.2.2.2.2.2.2.2.1,h.2.2.2.2.2.2.2.2⟩⟩⟩
      ·rw [if_pos (by simpa using c5)]
       exact hno fun h=>c5 h.2.2.2.2.2.1
     ·rw [if_neg (by simpa using c4),hj]
      exact hno fun h=>c4 ⟨by have:=h.2.2.2.2.1.1; omega,by have:=h.2.2.2.2.1.2; omega⟩
   ·rw [if_neg (by simpa using c2),hj]
    exact hno fun h=>c2 h.2.2.1
  ·rw [if_neg (by simpa using c1),hj]
   exact hno fun h=>c1 h.2.1
 ·rw [if_neg (by simpa using c0),hj]
  exact hno fun h=>c0 h.1
theorem SizesP.mono {p : Im} (h : SizesP p) : ∀ (d i : Nat),i + d < p.f4.length → rd p.f4 i ≤ rd p.f4 ((i + d : Nat) : Int)
 | 0,i,_=>by simp
 | d + 1,i,hi=>by
  have h1:=SizesP.mono h d i (by omega)
  have h2:=h.2.2.2.2.2.2.1 (i + d) (by omega)
  rw [show ((i + (d + 1) : Nat) : Int) = ((i + d : Nat) : Int) + 1 by omega]
  omega
/-- An image's beginnings of functions are whole numbers of 64 bits. -/
def wfF (p : Im) : Prop:=∀ z ∈ p.f4,-9223372036854775808 ≤ z ∧ z ≤ 9223372036854775807
theorem SizesP.fits {p : Im} (h : SizesP p) (hw : wfF p) : Fits p.f4 p.f5.length:=by
 refine ⟨h.2.2.2.2.1.1,h.2.2.2.2.1.2,h.2.2.2.2.2.2.2.2,h.2.2.2.2.2.1,fun j hj=>⟨?_,?_⟩⟩
 ·have:=SizesP.mono h j 0 (by omega)
  rw [Nat.zero_add] at this
  have h0:=h.2.2.2.2.2.1
  simp only [Int.natCast_zero] at this
  omega
 ·have : rd p.f4 j ∈ p.f4:=by
   unfold rd
   rw [Int.toNat_natCast,List.getD_eq_getElem?_getD,List.getElem?_eq_getElem hj]
   exact List.getElem_mem hj
  exact (hw _ this).2
open Classical in
/-- What image.Encode answers. -/
noncomputable def encV (p : Im) : Int:=if SizesP p then firstE p p.f5 else 3
theorem enc_f (p : Im) (hw : wfF p) : ∃ r,z0r.f 700 p.f0 p.f1 p.f2 p.f3 p.f4 p.f5 = some (r,encV p):=by
 obtain ⟨b,hb,hi⟩:=sizes_f p (k:=700) (by omega)
 unfold z0r.f encV
 rw [hb,Option.bind_some]
 by_cases h : SizesP p
 ·rw [if_pos (hi.2 h),if_pos h,Option.bind_some,Option.bind_some]
  have h3 : p.f3.length ≤ 64:=by have:=h.1; have:=h.2.2.2.1; omega
  rw [if_pos (by simp),Option.bind_some,if_pos (by simp; omega),Option.bind_some,Option.bind_some,if_pos (by simp; omega)]
  have:=h.2.2.2.2.1
  exact enc_l0 p (h.fits hw) p.f4.length 700 0 _ (by omega) (by omega) (by simp; omega)
 ·rw [if_neg (fun e=>h (hi.1 e)),if_neg h]
  exact ⟨_,rfl⟩
theorem firstP_none {α : Type} (q : α → Bool) : ∀ l : List α,firstP q l < 0 → ∀ x ∈ l,q x = false
 | [],_,x,hx=>by simp at hx
 | c :: r,h,x,hx=>by
  unfold firstP at h
  by_cases hc : q c = true
  ·rw [if_pos hc] at h
   omega
  ·rw [if_neg hc] at h
   by_cases hr : firstP q r < 0
   ·rcases List.mem_cons.1 hx with e | e
    ·rw [e]
     simpa using hc
    ·exact firstP_none q r hr x e
   ·rw [if_neg hr] at h
    omega
theorem firstP_some {α : Type} (q : α → Bool) : ∀ l : List α,(∀ x ∈ l,q x = false) → firstP q l < 0
 | [],_=>by simp [firstP]
 | c :: r,h=>by
  unfold firstP
  rw [if_neg (by simp [h c (by simp)]),if_pos (firstP_some q r fun x hx=>h x (List.mem_cons_of_mem _ hx))]
  omega
theorem firstE_zero {p : Im} : ∀ {l : List In},firstE p l = 0 ↔ (∀ i ∈ l,(putV i).2 = 0) ∧ ∀ x ∈ placesL p.f5.length,strayAt p.f4 p.f5 x = false
 | []=>by
  unfold firstE
  constructor
  ·intro h
   split at h
   ·omega
   ·rename_i h1
    exact ⟨by simp,firstP_none _ _ (by omega)⟩
  ·intro h
   rw [if_neg]
   have:=firstP_some _ _ h.2
   omega
 | i :: r=>by
  unfold firstE
  constructor
  ·intro h
   split at h
   ·rename_i h1
    have:=(firstE_zero (l:=r)).1 h
    exact ⟨fun j hj=>(List.mem_cons.1 hj).elim (fun e=>e ▸ h1) (this.1 j),this.2⟩
   ·rename_i h1
    exact absurd h h1
  ·intro h
   rw [if_pos (h.1 i (by simp))]
   exact (firstE_zero (l:=r)).2 ⟨fun j hj=>h.1 j (List.mem_cons_of_mem _ hj),h.2⟩
theorem encV_zero {p : Im} : encV p = 0 ↔ SizesP p ∧ (∀ i ∈ p.f5,(putV i).2 = 0) ∧ ∀ x ∈ placesL p.f5.length,strayAt p.f4 p.f5 x = false:=by
 unfold encV
 by_cases h : SizesP p
 ·rw [if_pos h,firstE_zero]
  exact ⟨fun h2=>⟨h,h2⟩,fun h2=>h2.2⟩
 ·rw [if_neg h]
  exact ⟨fun h2=>by omega,fun h2=>absurd h2.1 h⟩
/-- .. and an instruction's number is one of 64 bits. -/
def wfP (p : Im) : Prop:=wfF p ∧ ∀ i ∈ p.f5,0 ≤ i.f4
theorem rdI_mem {l : List In} {x : Int} (h0 : 0 ≤ x) (h1 : x < l.length) : z0a l x ∈ l:=by
 unfold z0a
 rw [List.getD_eq_getElem?_getD,List.getElem?_eq_getElem (by omega)]
 exact List.getElem_mem _
theorem encV_rt {p : Im} (hw : wfP p) (h : encV p = 0) : Rt p:=by
 obtain ⟨hs,hp,hst⟩:=encV_zero.1 h
 have hf:=hs.fits hw.1
 refine ⟨hf,fun x h0 h1 ho=>?_,fun x h0 h1 ho=>?_⟩
 ·have:=hst x (mem_placesL.2 ⟨h0,h1⟩)
  unfold strayAt strayI at this
  rw [Bool.or_eq_false_iff] at this
  have h2:=this.2
  rw [if_pos ho] at h2
  simp only [Bool.or_eq_false_iff,decide_eq_false_iff_not] at h2
  have hfp:=funP_in hf h0 h1
  have hlo:=rd_fits hf hfp.1 hfp.2
  have hhi:=hiP_fits hf hfp.1
  unfold loP at h2
  show 0 ≤ (z0a p.f5 x).f4 ∧ (z0a p.f5 x).f4 ≤ 9223372036854775807
  omega
 ·have:=hst x (mem_placesL.2 ⟨h0,h1⟩)
  unfold strayAt strayI at this
  rw [Bool.or_eq_false_iff] at this
  have h2:=this.2
  have ho' : (z0a p.f5 x).f0 = 23:=ho
  rw [if_neg (by rw [ho']; decide),if_pos ho'] at h2
  simp only [decide_eq_false_iff_not] at h2
  have:=hw.2 _ (rdI_mem h0 h1)
  show 0 ≤ (z0a p.f5 x).f4 ∧ (z0a p.f5 x).f4 < _
  omega
end Go.Proofs.Ytcbnhfnnjkkceaa.X
end
section
namespace Go.Proofs.Ytcbnhfnnjkkceaa.X
open Go.RowKit Go.Proofs.YtcbnhfnnjkkceaaW.PrintWords Go.Proofs.Ytcbnhfnnjkkceaa.Gr
/-- The last function begins in the code. -/
def LastIn (p : Im) : Prop:=rd p.f4 ((p.f4.length : Int) - 1) < p.f5.length
theorem fun_in {p : Im} (hs : SizesP p) (hl : LastIn p) {f : Int} (h0 : 0 ≤ f) (h1 : f < p.f4.length) : rd p.f4 f < p.f5.length:=by
 have h:=hs.mono (p.f4.length - 1 - f.toNat) f.toNat (by omega)
 unfold LastIn at hl
 rw [show ((f.toNat : Nat) : Int) = f by omega,show ((f.toNat + (p.f4.length - 1 - f.toNat) : Nat) : Int) = (p.f4.length : Int) - 1 by omega] at h
 omega
theorem hi_in {p : Im} (hs : SizesP p) (hl : LastIn p) {f : Int} (h0 : 0 ≤ f) : hiP p.f4 p.f5.length f ≤ p.f5.length:=by
 unfold hiP
 split
 ·rename_i h
  exact Int.le_of_lt (fun_in hs hl (by omega) h)
 ·exact Int.le_refl _
theorem next_in {p : Im} (hw : wfP p) (h : encV p = 0) (hl : LastIn p) {v : Int} (hv : 0 ≤ v ∧ v < p.f5.length) : ∀ u ∈ nextL p v,0 ≤ u ∧ u < p.f5.length:=by
 intro u hu
 obtain ⟨hs,hp,hst⟩:=encV_zero.1 h
 have hf:=hs.fits hw.1
 have goes : ∀ x : Int,0 ≤ x → x < p.f5.length → goesB (z0a p.f5 x).f0 = true → x + 1 < p.f5.length:=fun x hx0 hx1 hg=>by
  have:=hst x (mem_placesL.2 ⟨hx0,hx1⟩)
  unfold strayAt strayI at this
  rw [Bool.or_eq_false_iff,hg,Bool.true_and] at this
  have h2:=this.1
  simp only [decide_eq_false_iff_not] at h2
  have:=hi_in hs hl (funP_in hf hx0 hx1).1
  omega
 have jumps : (z0a p.f5 v).f0 = 21 ∨ (z0a p.f5 v).f0 = 22 → 0 ≤ (z0a p.f5 v).f4 ∧ (z0a p.f5 v).f4 < p.f5.length:=fun ho=>by
  have:=hst v (mem_placesL.2 hv)
  unfold strayAt strayI at this
  rw [Bool.or_eq_false_iff] at this
  have h2:=this.2
  rw [if_pos ho] at h2
  simp only [Bool.or_eq_false_iff,decide_eq_false_iff_not] at h2
  have hfp:=funP_in hf hv.1 hv.2
  have hlo:=rd_fits hf hfp.1 hfp.2
  have hhi:=hi_in hs hl hfp.1
  unfold loP at h2
  omega
 have hu:=(mem_uniq u _).1 hu
 unfold outL at hu
 rw [if_pos hv] at hu
 simp only at hu
 by_cases h21 : (z0a p.f5 v).f0 = 21
 ·rw [if_pos h21] at hu
  have : u = (z0a p.f5 v).f4:=by simpa using hu
  have:=jumps (.inl h21)
  omega
 rw [if_neg h21] at hu
 by_cases h22 : (z0a p.f5 v).f0 = 22
 ·rw [if_pos h22] at hu
  have hj:=jumps (.inr h22)
  have hg:=goes v hv.1 hv.2 (by rw [h22]; rfl)
  have : u = (z0a p.f5 v).f4 ∨ u = v + 1:=by simpa using hu
  omega
 rw [if_neg h22] at hu
 by_cases h23 : (z0a p.f5 v).f0 = 23
 ·rw [if_pos h23] at hu
  have hc:=(encV_rt hw h).cal v hv.1 hv.2 h23
  have hc : 0 ≤ (z0a p.f5 v).f4 ∧ (z0a p.f5 v).f4 < p.f4.length:=hc
  have : u = rd p.f4 (z0a p.f5 v).f4:=by simpa using hu
  have h1:=rd_fits hf hc.1 hc.2
  have h2:=fun_in hs hl hc.1 hc.2
  omega
 rw [if_neg h23] at hu
 by_cases h24 : (z0a p.f5 v).f0 = 24
 ·rw [if_pos h24] at hu
  obtain ⟨z,hz,rfl⟩:=List.mem_map.1 hu
  obtain ⟨h0,h1,h2,_⟩:=mem_sites.1 hz
  have h2 : (z0a p.f5 z).f0 = 23:=h2
  have:=goes z h0 h1 (by rw [h2]; rfl)
  omega
 rw [if_neg h24] at hu
 by_cases hg : goesB (z0a p.f5 v).f0 = true
 ·rw [if_pos hg] at hu
  have:=goes v hv.1 hv.2 hg
  have : u = v + 1:=by simpa using hu
  omega
 ·rw [if_neg hg] at hu
  simp at hu
theorem mem_prev {p : Im} {v u : Int} : u ∈ prevL p v ↔ (0 ≤ u ∧ u < p.f5.length) ∧ v ∈ nextL p u:=by
 unfold prevL nextL
 rw [List.mem_filter,mem_placesL,isB_mem,mem_uniq]
theorem prev_in {p : Im} {v : Int} : ∀ u ∈ prevL p v,0 ≤ u ∧ u < p.f5.length:=fun u hu=>(mem_prev.1 hu).1
theorem far_next_prev {p : Im} (u v : Int) (hu : 0 ≤ u ∧ u < p.f5.length) : v ∈ nextL p u ↔ u ∈ prevL p v:=by
 rw [mem_prev]
 exact ⟨fun h=>⟨hu,h⟩,fun h=>h.2⟩
end Go.Proofs.Ytcbnhfnnjkkceaa.X
end
section
namespace Go.Proofs.Ytcbnhfnnjkkceaa.X
open Go.RowKit Go.Proofs.YtcbnhfnnjkkceaaW.PrintWords Go.Proofs.YtcbnhfnnjkkceaaW.PrintLast Go.Proofs.YtcbnhfnnjkkceaaW.PrintMore Go.Proofs.Ytcbnhfnnjkkceaa.Gr Go.ChangeMaps Go.MapKept Go.ChangeShapes
/-- Of the four maps those of mask m are made, the first j fields are written. -/
structure MkSt (w : World) (b1 g : Nat) (p : Im) (dv fv cv : Value) (m j : Nat) (b : Nat → Nat) (w' : World) : Prop where
 box : w'.heap[b1]? = some (.cells #[.pointer (some ⟨g,0,none⟩)] 29 (0,0))
 cells : w'.heap[g]? = some (.cells (GrCells p dv fv cv 0 1 (fun t=>.map (if t < j then some (b t) else none))) 63 (0,0))
 maps : ∀ t,t < 4 → m.testBit t = true → w'.heap[b t]? = some (.map #[] 0) ∧ w.heap.size + 1 ≤ b t
 apart : ∀ s t,s < 4 → t < 4 → m.testBit s = true → m.testBit t = true → b s = b t → s = t
 fr : Fr w w' (fun i=>i = g)
 size : w.heap.size + 1 ≤ w'.heap.size
 here : b1 = w.heap.size
 old : g < w.heap.size
 hav : ∀ t,t < j → m.testBit t = true
theorem MkSt.make {w w' : World} {b1 g : Nat} {p : Im} {dv fv cv : Value} {m m' j : Nat} {b : Nat → Nat} (h : MkSt w b1 g p dv fv cv m j b w') (t : Nat) (ht : t < 4) (hm : m.testBit t = false) (hm' : m' = m ||| (1 <<< t)) :
  MkSt w b1 g p dv fv cv m' j (fun s=>if s = t then w'.heap.size else b s) (w'.alloc (.map #[] 0)):=by
 have hbit : ∀ s,m'.testBit s = (m.testBit s || decide (t = s)):=fun s=>by
  rw [hm',Nat.testBit_or,Nat.one_shiftLeft,Nat.testBit_two_pow]
 have hgrow:=Below.heap_alloc w' (.map #[] 0)
 refine ⟨z06 h.box _,?_,fun s hs hb=>?_,fun s r hs hr hb1 hb2 e=>?_,h.fr.trans (Fr.of_grown (World.grownBy_alloc w' (.map #[] 0) none) (by simp)),Nat.le_trans h.size (by show _ ≤ (w'.heap.push _).size; simp),h.here,h.old,fun s hs=>by rw [hbit,h.hav s hs]; rfl⟩
 ·have h0:=z06 h.cells (.map #[] 0)
  rw [h0]
  congr 3
  funext s
  by_cases hs : s < j
  ·rw [if_pos hs,if_pos hs,if_neg (fun e=>by have:=h.hav s hs; rw [e,hm] at this; cases this)]
  ·rw [if_neg hs,if_neg hs]
 ·by_cases e : s = t
  ·simp only [e,if_pos]
   exact ⟨blk_new w' _,h.size⟩
  ·simp only [if_neg e]
   rw [hbit] at hb
   have hb' : m.testBit s = true:=by simpa [Ne.symm e] using hb
   obtain ⟨h1,h2⟩:=h.maps s hs hb'
   exact ⟨z06 h1 _,h2⟩
 ·rw [hbit] at hb1 hb2
  by_cases e1 : s = t
  ·by_cases e2 : r = t
   ·rw [e1,e2]
   ·simp only [e1,if_pos,if_neg e2] at e
    have hb' : m.testBit r = true:=by simpa [Ne.symm e2] using hb2
    have:=blk_lt (h.maps r hr hb').1
    omega
  ·by_cases e2 : r = t
   ·simp only [e2,if_pos,if_neg e1] at e
    have hb' : m.testBit s = true:=by simpa [Ne.symm e1] using hb1
    have:=blk_lt (h.maps s hs hb').1
    omega
   ·simp only [if_neg e1,if_neg e2] at e
    exact h.apart s r hs hr (by simpa [Ne.symm e1] using hb1) (by simpa [Ne.symm e2] using hb2) e
theorem MkSt.drew {w w' : World} {b1 g : Nat} {p : Im} {dv fv cv : Value} {m j : Nat} {b : Nat → Nat} (h : MkSt w b1 g p dv fv cv m j b w') : MkSt w b1 g p dv fv cv m j b w'.drew :=
 ⟨h.box,h.cells,h.maps,h.apart,⟨h.fr.os,h.fr.tape,h.fr.output,h.fr.size,h.fr.block⟩,h.size,h.here,h.old,h.hav⟩
theorem grCells_set (p : Im) (dv fv cv : Value) (done st : Int) (m : Nat → Value) (t : Nat) (ht : t < 4) (v : Value) : (GrCells p dv fv cv done st m).setIfInBounds (9 + t) v = GrCells p dv fv cv done st (fun s=>if s = t then v else m s):=by
 rcases t with _ | _ | _ | _ | t
 ·rfl
 ·rfl
 ·rfl
 ·rfl
 ·omega
theorem MkSt.store {w w' : World} {b1 g : Nat} {p : Im} {dv fv cv : Value} {m j : Nat} {b : Nat → Nat} (h : MkSt w b1 g p dv fv cv m j b w') (t : Nat) (ht : t < 4) (hj : j = t) (hm : m.testBit t = true) :
  MkSt w b1 g p dv fv cv m (t + 1) b (w'.setCell ⟨g,9 + t,none⟩ (.map (some (b t)))):=by
 subst hj
 have hne : ∀ i,i ≠ g → (w'.setCell ⟨g,9 + j,none⟩ (.map (some (b j)))).heap[i]? = w'.heap[i]?:=fun i hi=>Below.heap_setCell w' ⟨g,9 + j,none⟩ _ i hi
 have hb1 : b1 ≠ g:=by have:=h.here; have:=h.old; omega
 refine ⟨(hne b1 hb1).trans h.box,?_,fun s hs hb=>?_,h.apart,h.fr.trans ⟨rfl,rfl,rfl,by simp [World.setCell],fun i _ hi=>hne i hi⟩,by have:=h.size; simp [World.setCell]; omega,h.here,h.old,fun s hs=>?_⟩
 ·have h0:=blk_set h.cells (9 + j) (.map (some (b j)))
  rw [h0,grCells_set _ _ _ _ _ _ _ _ ht]
  congr 3
  funext s
  by_cases e : s = j
  ·rw [if_pos e,e,if_pos (by omega)]
  ·by_cases hs : s < j
   ·rw [if_neg e,if_pos hs,if_pos (by omega)]
   ·rw [if_neg e,if_neg hs,if_neg (by omega)]
 ·obtain ⟨h1,h2⟩:=h.maps s hs hb
  exact ⟨(hne (b s) (by have:=h.old; omega)).trans h1,h2⟩
 ·by_cases e : s = j
  ·rw [e]; exact hm
  ·exact h.hav s (by omega)
/-- All are made: four empty tables. -/
theorem MkSt.tab {w w' : World} {b1 g : Nat} {p : Im} {dv fv cv : Value} {b : Nat → Nat} (h : MkSt w b1 g p dv fv cv 15 4 b w') : Tab Try.prog 3 w' (w.heap.size + 1) b 0 (fun _ _=>nilS) (fun _ _=>[]) ∧
  w'.heap[g]? = some (.cells (GrCells p dv fv cv 0 1 (fun t=>.map (some (b t)))) 63 (0,0)):=by
 have hbit : ∀ t,t < 4 → (15 : Nat).testBit t = true:=fun t ht=>by
  rcases t with _ | _ | _ | _ | t
  ·decide
  ·decide
  ·decide
  ·decide
  ·omega
 refine ⟨⟨fun t ht=>?_,fun s t hs ht e=>h.apart s t hs ht (hbit s hs) (hbit t ht) e,fun t ht=>(h.maps t ht (hbit t ht)).2,fun t x _ _=>World.ownsInts_nil _ _ _ _,fun _ _ _ _ _ _ _ _ _=>.inl rfl,fun _ _ _ _=>Nat.le_refl _⟩,?_⟩
 ·have hb:=(h.maps t ht (hbit t ht)).1
  exact ⟨.map [],⟨#[],0,hb,⟨by simp,stamped_empty 0,by simp⟩,Nat.le_refl _,rfl⟩,fun _ _=>rfl⟩
 ·rw [h.cells]
  rfl
/-- While the tables are filled: the variable that holds the graph, the graph's block, its lists; nothing else has turned but what lies behind that variable. -/
structure MkW (w : World) (g B0 : Nat) (p : Im) (dv fv cv : Value) (bs : Nat → Nat) (wr : World) : Prop where
 box : wr.heap[w.heap.size]? = some (.cells #[.pointer (some ⟨g,0,none⟩)] 29 (0,0))
 cells : wr.heap[g]? = some (.cells (GrCells p dv fv cv 0 1 (fun t=>.map (some (bs t)))) 63 (0,0))
 grp : GrP wr B0 p dv fv cv
 old : ∀ k,dv.ownBlock = some k ∨ fv.ownBlock = some k ∨ cv.ownBlock = some k → k < w.heap.size
 fr : Fr w wr (fun i=>i = g ∨ w.heap.size + 1 ≤ i)
 size : w.heap.size + 1 ≤ wr.heap.size
 lt : g < w.heap.size
theorem GrP.keep {w w1 : World} {B : Nat} {p : Im} {dv fv cv : Value} (h : GrP w B p dv fv cv) (hk : ∀ k,dv.ownBlock = some k ∨ fv.ownBlock = some k ∨ cv.ownBlock = some k → w1.heap[k]? = w.heap[k]?) : GrP w1 B p dv fv cv :=
 ⟨R_other rfl h.d fun k e=>hk k (.inl e),R_other rfl h.f fun k e=>hk k (.inr (.inl e)),R_other rfl h.c fun k e=>hk k (.inr (.inr e))⟩
theorem GrP.ne {w : World} {B g : Nat} {p : Im} {dv fv cv : Value} (h : GrP w B p dv fv cv) {c : Array Value} (hg : w.heap[g]? = some (.cells c 63 (0,0))) {k : Nat} (hk : dv.ownBlock = some k ∨ fv.ownBlock = some k ∨ cv.ownBlock = some k) : k < w.heap.size ∧ k ≠ g:=by
 have : ∃ c t,w.heap[k]? = some (.cells c t (0,0)) ∧ t ≠ 63:=by
  rcases hk with hk | hk | hk
  ·obtain ⟨c,hc⟩:=Kd.R_typed h.d k hk; exact ⟨c,_,hc,by decide⟩
  ·obtain ⟨c,hc⟩:=Kd.R_typed h.f k hk; exact ⟨c,_,hc,by decide⟩
  ·obtain ⟨c,hc⟩:=Kd.R_typed h.c k hk; exact ⟨c,_,hc,by decide⟩
 obtain ⟨c',t,hc,ht⟩:=this
 refine ⟨blk_lt hc,fun e=>?_⟩
 rw [e,hg] at hc
 cases hc
 exact ht rfl
theorem MkW.step {w wr w1 : World} {g B0 : Nat} {p : Im} {dv fv cv : Value} {bs : Nat → Nat} (h : MkW w g B0 p dv fv cv bs wr) (hf : Fr wr w1 (fun i=>w.heap.size + 1 ≤ i)) : MkW w g B0 p dv fv cv bs w1 :=
 ⟨(hf.block _ (blk_lt h.box) (by omega)).trans h.box,(hf.block _ (blk_lt h.cells) (by have:=h.lt; omega)).trans h.cells,h.grp.keep fun k hk=>hf.block k (h.grp.ne h.cells hk).1 (by have:=h.old k hk; omega),
  h.old,h.fr.trans (hf.mono fun i _ hi=>.inr hi),Nat.le_trans h.size hf.size,h.lt⟩
theorem MkW.below {w wr w1 : World} {g B0 : Nat} {p : Im} {dv fv cv : Value} {bs : Nat → Nat} (h : MkW w g B0 p dv fv cv bs wr) (hb : Below wr.heap.size wr w1) : MkW w g B0 p dv fv cv bs w1 :=
 h.step ((Fr.of_below hb).mono fun i hi hi2=>by omega)
theorem MkSt.mkw {w w' : World} {g B0 : Nat} {p : Im} {dv fv cv : Value} {b : Nat → Nat} (h : MkSt w w.heap.size g p dv fv cv 15 4 b w') (hg : w.heap[g]? = some (.cells (GrCells p dv fv cv 0 1 (fun _=>.map none)) 63 (0,0))) (hp : GrP w B0 p dv fv cv) : MkW w g B0 p dv fv cv b w' :=
 ⟨h.box,h.tab.2,hp.keep fun k hk=>h.fr.block k (hp.ne hg hk).1 (hp.ne hg hk).2,fun k hk=>(hp.ne hg hk).1,h.fr.mono fun i _ hi=>.inl hi,h.size,h.old⟩
theorem below_drewN {B : Nat} {a w : World} (h : Below B a w) (n : Nat) : Below B a (w.drewN n):=h.trans ⟨rfl,rfl,rfl,Nat.le_refl _,fun _ _=>rfl⟩
theorem ints_R {w : World} {base : Nat} {v : Value} {zs : List Int} (h : w.ownsInts base 3 .i64 v zs) : Kd.R (Kd.int .i64) 3 w base (fun _=>True) v zs:=by
 refine ⟨fun _ _=>trivial,zs.map (Value.int .i64),h.1,by simp [Kd.int,Kd.scalar],fun j p hj=>?_⟩
 have hl:=(List.getElem?_eq_some_iff.1 hj).1
 show (List.take 1 (List.drop (j * 1) (zs.map (Value.int .i64)))) = [Value.int .i64 p]
 rw [Nat.mul_one,List.drop_eq_getElem_cons (by simpa using hl),List.take_succ_cons,List.take_zero,List.getElem_map,(List.getElem?_eq_some_iff.1 hj).2]
/-- A body that defers, and never panics. -/
def endPost (P : Program) (fn : Func) (R : Ending → World → Prop) : Exit → Act → World → Prop
 | .normal,a,w | .ret,a,w=>Leaves P fn a.tmps R a.defers .returning w
 | _,_,_=>False
theorem calls_of_wp_ends {P : Program} {f : FuncId} {fn : Func} {c : Code} {args : Array Value} {w : World} {R : Ending → World → Prop} (hf : P.funcs[f]? = some fn) (hb : fn.body = some c)
  (h : c.wp P (endPost P fn R) { tmps:=args ++ Array.replicate (fn.ntmps - args.size) undef,defers:=[] } w) : Calls P f args w R :=
 calls_of_wp_defers hf hb (wp_mono h fun e a w he=>by cases e <;> first | exact he | exact he.elim)
end Go.Proofs.Ytcbnhfnnjkkceaa.X
end
section
namespace Go.Proofs.Ytcbnhfnnjkkceaa.X
open Go.RowKit Go.Proofs.YtcbnhfnnjkkceaaW.PrintWords Go.Proofs.YtcbnhfnnjkkceaaW.PrintLast Go.Proofs.YtcbnhfnnjkkceaaW.PrintMore Go.Proofs.Ytcbnhfnnjkkceaa.Gr
theorem goesC_ {P : Program} {ops : Array Oper} {Q : Exit → Act → World → Prop} {oi : Oper} {N : Option Tmp} {a : Act} {w : World} {K : Act → World → Prop} {f : FuncId} {fn : Func} {tt : Operand} {cap : Array Value} {aas : Array Operand} {ts : Array TypeId} (hf : P.funcs[f]? = some fn) (hname : (fn.name == "runtime.NumGoroutine") = false) (hb : fn.body.isSome = true) (args : Array Value)
  (hw : Region.wanted oi (yielded ops a.tmps) = true) (hN : oi.dst = N) (hop : oi.op = .call { callee:=.value tt,args:=aas,argTypes:=ts }) (ht : a.eval tt = .func (.func f) #[] cap) (hargs : aas.map a.eval ++ cap = args)
  (h : Calls P f args w fun e w'=>∃ v,e = .returned v ∧ K (a.put N v) w') : if Region.wanted oi (yielded ops a.tmps) = true then Oper.wp P oi a w K Q else K (a.put N undef) w:=by
 refine call_ f args hw hN ?_ h
 have he:=enters_ hf hname hb args w
 unfold execOp
 simp [hop,resolve,Deferred.ofValue,invoke,ht,hargs,he]
end Go.Proofs.Ytcbnhfnnjkkceaa.X
end
