/- For the statement of the row ClauseBack: what its proof needs of the text B3. -/
import Derived.Maps.RangeWalk
import Derived.Maps.OwnSet
import Derived.Maps.OwnOps
import Derived.Maps.Views
import Derived.WalkKit
import Derived.Deep.Draws
import Derived.Maps.GroupsBeside
import Derived.Test.YtnknoaolbjofiaaDoorProg
import Derived.KernelRfl
import Derived.Tactics
import Derived.OneCell
import Derived.Lib.Hide
import Derived.Test.YtnknoaolbjofiaaDoorKWWords
import Derived.Outline
import Derived.Deep.LoopGhost
import Derived.LoopN
import Derived.Shelf.Strings.Builder1
import Derived.Shelf.Small.Bits
import Derived.Shelf.Small.Wraps
import Derived.Shelf.Strings.BuilderF
import Derived.Shelf.Strings.BuilderK
import Derived.Shelf.Strconv.Itoa0
import Derived.Shelf.Strconv.Itoa1
import Derived.Shelf.LaysM
import Derived.Shelf.Strconv.Itoa2
import Derived.Shelf.Strconv.Itoa3
import Derived.Shelf.Strings.Search1
import Derived.Shelf.Strings.Search2
import Derived.Shelf.Strings.Search3
import Derived.Shelf.Strings.Count
import Derived.Shelf.Strings.Shaped
import Derived.Shelf.Unicode.DecodeSlow
import Derived.Shelf.Unicode.DecodeAny
import Derived.Shelf.Strings.BuilderCap
import Derived.Ground.SlsfProg
import Derived.Shelf.SlSortCmp.Insertion
import Derived.Shelf.SlSortCmp.SiftDown1
import Derived.Shelf.SlSortCmp.HeapSort1
import Derived.Shelf.SlSortCmp.Insertion1
import Derived.Shelf.SlSortCmp.Median1
import Derived.Shelf.SlSortCmp.Pivot1
import Derived.Shelf.SlSortCmp.ReverseRange1
import Derived.Shelf.SlSortCmp.PartialInsertion1
import Derived.Shelf.SlSortCmp.PartitionEqual1
import Derived.Shelf.SlSortCmp.Partition1
import Derived.Shelf.SlSortCmp.Pdq1
import Derived.Shelf.SlSortCmp.Whole1
import Derived.Shelf.SlSortCmp.NoneTotal
import Derived.Test.YtnknoaolbjofiaaDoorKWMore
import Derived.Deep.QuietTactic
import Derived.BigQuiet
import Derived.Sort.OwnSortedInts
import Derived.Deep.RegionHeld3
import Derived.Deep.AppendLies
import Derived.Laws.Rows
import Derived.Test.YtnknoaolbjofiaaDoorKWLast
import Derived.Lib.AppendIntMem
import Derived.Lib.ItoaLen
import Derived.Shelf.Strings.MapGrows
import Derived.Test.YtnknoaolbjofiaaDoorKB1
import Derived.Test.YtnknoaolbjofiaaDoorKB2

section
set_option linter.unusedVariables false
set_option linter.unusedSimpArgs false
namespace Go.Proofs.YtnknoaolbjofiaaDoor.Cl
open Go.RowKit Go.Proofs.YtnknoaolbjofiaaDoorW.PrintWords Go.Proofs.YtnknoaolbjofiaaDoorW.PrintMore
open Go.Proofs.YtnknoaolbjofiaaDoor.X
theorem wrap_nat {i : Nat} (h : i < 9223372036854775807) : wrap64 ((i : Int) + 1) = ((i + 1 : Nat) : Int) := by rw [wrap_up (by omega) (by omega)]; omega
theorem lit_f (x : Int) : backreachref14_Literal.f x = some (litOk x) := by
  unfold backreachref14_Literal.f litOk
  by_cases h : x = 0
  · subst h; rfl
  · rw [if_neg h]
    by_cases h1 : x ≥ -1048576
    · rw [if_pos h1]; simp [h, show -1048576 ≤ x from h1]
    · rw [if_neg h1]; simp [h, show ¬ -1048576 ≤ x from h1]
/-- Lists whose lengths are whole numbers of Go's. -/
def Fine (l : List (List Int)) : Prop := l.length < 9223372036854775807 ∧ ∀ c ∈ l, c.length < 9223372036854775807
theorem rright_in {l : List (List Int)} (hf : Fine l) {m : Nat} (hm : m < l.length) {r0 : Bool} (h0 : Ev (fun k => backreachref14_Right.l0 k l ((m + 1 : Nat) : Int)) r0) (d : Nat) :
    ∀ i : Nat, i ≤ l[m].length → l[m].length - i = d → Ev (fun k => backreachref14_Right.l1 k l (m : Int) (i : Int)) ((l[m].drop i).all litOk && r0) := by
  have hc := hf.2 _ (List.getElem_mem hm)
  have hl := hf.1
  induction d with
  | zero =>
    intro i hi hd
    have e : i = l[m].length := by omega
    subst e
    rw [List.drop_length, List.all_nil, Bool.true_and]
    refine Ev.step (f := fun k => backreachref14_Right.l0 k l ((m + 1 : Nat) : Int)) (fun k => ?_) h0
    simp only [backreachref14_Right.l1]
    rw [if_pos (by omega), if_pos (by omega), rdL_at hm, if_neg (by omega), wrap_nat (by omega)]
  | succ d ih =>
    intro i hi hd
    have hlt : i < l[m].length := by omega
    rw [drop_all litOk hlt]
    cases hx : litOk l[m][i] with
    | true =>
      refine Ev.step (f := fun k => backreachref14_Right.l1 k l (m : Int) ((i + 1 : Nat) : Int)) (fun k => ?_) (ih (i + 1) hlt (by omega))
      simp only [backreachref14_Right.l1]
      rw [if_pos (by omega), if_pos (by omega), rdL_at hm, if_pos (by omega), if_pos (by omega), rd_at hlt, lit_f, hx, Option.bind_some, if_pos rfl, wrap_nat (by omega)]
    | false =>
      refine Ev.step (f := fun _ => some false) (fun k => ?_) (Ev.now false)
      simp only [backreachref14_Right.l1]
      rw [if_pos (by omega), if_pos (by omega), rdL_at hm, if_pos (by omega), if_pos (by omega), rd_at hlt, lit_f, hx, Option.bind_some]
      rfl
theorem rright_out {l : List (List Int)} (hf : Fine l) (d : Nat) : ∀ i : Nat, i ≤ l.length → l.length - i = d → Ev (fun k => backreachref14_Right.l0 k l (i : Int)) ((l.drop i).all cRight) := by
  induction d with
  | zero =>
    intro i hi hd
    have e : i = l.length := by omega
    subst e
    rw [List.drop_length]
    refine Ev.step (f := fun _ => some true) (fun k => ?_) (Ev.now true)
    simp only [backreachref14_Right.l0]
    rw [if_neg (by omega)]
  | succ d ih =>
    intro i hi hd
    have hlt : i < l.length := by omega
    have h1 := rright_in hf hlt (ih (i + 1) hlt (by omega)) _ 0 (Nat.zero_le _) rfl
    rw [drop_all cRight hlt]
    refine Ev.step (f := fun k => backreachref14_Right.l1 k l (i : Int) 0) (fun k => ?_) ?_
    · simp only [backreachref14_Right.l0]
      rw [if_pos (by omega)]
    · simpa [cRight] using h1
theorem rright_ev {l : List (List Int)} (hf : Fine l) : Ev (fun k => backreachref14_Right.f k l) (lRight l) := by
  have := rright_out hf _ 0 (Nat.zero_le _) rfl
  simpa [backreachref14_Right.f, lRight] using this
def mostC (n : Nat) : List Int → Nat
  | [] => n
  | x :: r => mostC (max n x.natAbs) r
def most (l : List (List Int)) : Nat := l.foldl mostC 0
theorem mostC_ge : ∀ (c : List Int) (n : Nat), n ≤ mostC n c ∧ ∀ x ∈ c, x.natAbs ≤ mostC n c
  | [], n => ⟨Nat.le_refl _, by simp⟩
  | x :: r, n => by
    have h := mostC_ge r (max n x.natAbs)
    refine ⟨by have := h.1; simp only [mostC]; omega, fun y hy => ?_⟩
    rcases List.mem_cons.1 hy with rfl | hy
    · have := h.1; simp only [mostC]; omega
    · exact h.2 y hy
theorem most_ge {l : List (List Int)} {c : List Int} (hc : c ∈ l) {x : Int} (hx : x ∈ c) : x.natAbs ≤ most l := by
  have : ∀ (l : List (List Int)) (n : Nat), n ≤ l.foldl mostC n ∧ ∀ c ∈ l, ∀ x ∈ c, x.natAbs ≤ l.foldl mostC n := by
    intro l
    induction l with
    | nil => intro n; exact ⟨Nat.le_refl _, by simp⟩
    | cons d l ih =>
      intro n
      have h := ih (mostC n d)
      have h2 := mostC_ge d n
      refine ⟨Nat.le_trans h2.1 h.1, fun c hc x hx => ?_⟩
      rcases List.mem_cons.1 hc with rfl | hc
      · exact Nat.le_trans (h2.2 x hx) h.1
      · exact h.2 c hc x hx
  exact (this l 0).2 c hc x hx
theorem var_f {x : Int} (h1 : -9223372036854775807 ≤ x) (h2 : x ≤ 9223372036854775807) : backreachref14_Var.f x = some (x.natAbs : Int) := by
  unfold backreachref14_Var.f
  split
  · rw [show wrap64 (-x) = -x by unfold wrap64; omega]
    congr 1
    omega
  · congr 1
    omega
/-- Whole numbers of Go's but the least. -/
def Plain (l : List (List Int)) : Prop := ∀ c ∈ l, ∀ x ∈ c, -9223372036854775807 ≤ x ∧ x ≤ 9223372036854775807
theorem plain_right {l : List (List Int)} (h : lRight l = true) : Plain l := fun c hc x hx => by
  have := List.all_eq_true.1 (cRight_of h hc) x hx
  simp [litOk] at this
  omega
theorem rmost_in {l : List (List Int)} (hf : Fine l) (hp : Plain l) {m : Nat} (hm : m < l.length) {r0 : Nat → Nat} (h0 : ∀ n : Nat, Ev (fun k => backreachref14_Most.l0 k l (n : Int) ((m + 1 : Nat) : Int)) (r0 n : Int)) (d : Nat) :
    ∀ (i n : Nat), i ≤ l[m].length → l[m].length - i = d → Ev (fun k => backreachref14_Most.l1 k l (n : Int) (m : Int) (i : Int)) (r0 (mostC n (l[m].drop i)) : Int) := by
  have hc := hf.2 _ (List.getElem_mem hm)
  have hl := hf.1
  induction d with
  | zero =>
    intro i n hi hd
    have e : i = l[m].length := by omega
    subst e
    rw [List.drop_length]
    refine Ev.step (f := fun k => backreachref14_Most.l0 k l (n : Int) ((m + 1 : Nat) : Int)) (fun k => ?_) (h0 n)
    simp only [backreachref14_Most.l1]
    rw [if_pos (by omega), if_pos (by omega), rdL_at hm, if_neg (by omega), wrap_nat (by omega)]
  | succ d ih =>
    intro i n hi hd
    have hlt : i < l[m].length := by omega
    have hx := hp _ (List.getElem_mem hm) _ (List.getElem_mem hlt)
    rw [List.drop_eq_getElem_cons hlt]
    simp only [mostC]
    refine Ev.step (f := fun k => backreachref14_Most.l1 k l ((max n l[m][i].natAbs : Nat) : Int) (m : Int) ((i + 1 : Nat) : Int)) (fun k => ?_) (ih (i + 1) _ hlt (by omega))
    simp only [backreachref14_Most.l1]
    rw [if_pos (by omega), if_pos (by omega), rdL_at hm, if_pos (by omega), if_pos (by omega), rd_at hlt, var_f hx.1 hx.2, Option.bind_some, wrap_nat (by omega)]
    split
    · rw [show (max n l[m][i].natAbs : Nat) = l[m][i].natAbs by omega]
    · rw [show (max n l[m][i].natAbs : Nat) = n by omega]
theorem rmost_out {l : List (List Int)} (hf : Fine l) (hp : Plain l) (d : Nat) : ∀ (i n : Nat), i ≤ l.length → l.length - i = d → Ev (fun k => backreachref14_Most.l0 k l (n : Int) (i : Int)) (((l.drop i).foldl mostC n : Nat) : Int) := by
  induction d with
  | zero =>
    intro i n hi hd
    have e : i = l.length := by omega
    subst e
    rw [List.drop_length]
    refine Ev.step (f := fun _ => some (n : Int)) (fun k => ?_) (Ev.now _)
    simp only [backreachref14_Most.l0]
    rw [if_neg (by omega)]
  | succ d ih =>
    intro i n hi hd
    have hlt : i < l.length := by omega
    have h1 := rmost_in hf hp hlt (r0 := fun n => (l.drop (i + 1)).foldl mostC n) (fun n => ih (i + 1) n hlt (by omega)) _ 0 n (Nat.zero_le _) rfl
    rw [List.drop_eq_getElem_cons hlt, List.foldl_cons]
    refine Ev.step (f := fun k => backreachref14_Most.l1 k l (n : Int) (i : Int) 0) (fun k => ?_) (by simpa using h1)
    simp only [backreachref14_Most.l0]
    rw [if_pos (by omega)]
theorem rmost_ev {l : List (List Int)} (hf : Fine l) (hp : Plain l) : Ev (fun k => backreachref14_Most.f k l) (most l : Int) := by
  have := rmost_out hf hp _ 0 0 (Nat.zero_le _) rfl
  simpa [backreachref14_Most.f, most] using this
def small (l : List (List Int)) (a b : Nat) (v : Nat) : Bool := decide (l.length ≤ a) && (l.all (fun c => decide (c.length ≤ b)) && (!lRight l || decide (most l ≤ v)))
theorem rsmall_ev {l : List (List Int)} (hl : l.length < 9223372036854775807) {a b v : Nat} (hb : b < 9223372036854775807) : Ev (fun k => backreachref14_Small.f k l (a : Int) (b : Int) (v : Int)) (small l a b v) := by
  unfold small
  by_cases h1 : l.length ≤ a
  · rw [decide_eq_true h1, Bool.true_and]
    have loop : ∀ d i : Nat, i ≤ l.length → l.length - i = d → (∀ j, j < i → ∀ hj : j < l.length, l[j].length ≤ b) → Ev (fun k => backreachref14_Small.l0 k l (b : Int) (v : Int) (i : Int)) (l.all (fun c => decide (c.length ≤ b)) && (!lRight l || decide (most l ≤ v))) := by
      intro d
      induction d with
      | zero =>
        intro i hi hd hprev
        have e : i = l.length := by omega
        subst e
        have hall : ∀ c ∈ l, c.length ≤ b := fun c hc => by
          obtain ⟨j, hj, rfl⟩ := List.mem_iff_getElem.1 hc
          exact hprev j hj hj
        have hf : Fine l := ⟨hl, fun c hc => by have := hall c hc; omega⟩
        rw [List.all_eq_true.2 (fun c hc => decide_eq_true (hall c hc)), Bool.true_and]
        refine Ev.step (f := fun k => (backreachref14_Right.f k l).bind fun t122 => (if t122 = true then ((backreachref14_Most.f k l).bind fun t123 => (some (decide (t123 ≤ (v : Int))))) else (some true))) (fun k => ?_) ?_
        · simp only [backreachref14_Small.l0]
          rw [if_neg (by omega)]
        · refine Ev.bind (rright_ev hf) ?_
          cases h2 : lRight l with
          | true =>
            refine Ev.congr (f := fun k => (backreachref14_Most.f k l).bind fun t123 => (some (decide (t123 ≤ (v : Int))))) (fun k => rfl) (Ev.bind (rmost_ev hf (plain_right h2)) ?_)
            have : decide ((most l : Int) ≤ (v : Int)) = (!true || decide (most l ≤ v)) := by simp
            rw [this]
            exact Ev.now _
          | false => exact Ev.now _
      | succ d ih =>
        intro i hi hd hprev
        have hlt : i < l.length := by omega
        by_cases h2 : l[i].length ≤ b
        · refine Ev.step (f := fun k => backreachref14_Small.l0 k l (b : Int) (v : Int) ((i + 1 : Nat) : Int)) (fun k => ?_) (ih (i + 1) hlt (by omega) fun j hj hj2 => ?_)
          · simp only [backreachref14_Small.l0]
            rw [if_pos (by omega), if_pos (by omega), rdL_at hlt, if_neg (by omega), wrap_nat (by omega)]
          · rcases Nat.lt_or_ge j i with h3 | h3
            · exact hprev j h3 hj2
            · obtain rfl : j = i := by omega
              exact h2
        · have hno : l.all (fun c => decide (c.length ≤ b)) = false := by
            rw [List.all_eq_false]
            exact ⟨l[i], List.getElem_mem hlt, by simpa using h2⟩
          rw [hno, Bool.false_and]
          refine Ev.step (f := fun _ => some false) (fun k => ?_) (Ev.now false)
          simp only [backreachref14_Small.l0]
          rw [if_pos (by omega), if_pos (by omega), rdL_at hlt, if_pos (by omega)]
    refine Ev.congr (f := fun k => backreachref14_Small.l0 k l (b : Int) (v : Int) 0) (fun k => ?_) (loop l.length 0 (Nat.zero_le _) rfl fun j hj => by omega)
    simp only [backreachref14_Small.f]
    rw [if_neg (by omega)]
  · rw [decide_eq_false h1, Bool.false_and]
    refine Ev.congr (f := fun _ => some false) (fun k => ?_) (Ev.now false)
    simp only [backreachref14_Small.f]
    rw [if_pos (by omega)]
theorem small_fine {l : List (List Int)} {a b v : Nat} (ha : a < 9223372036854775807) (hb : b < 9223372036854775807) (h : small l a b v = true) : Fine l ∧ l.length ≤ a ∧ (∀ c ∈ l, c.length ≤ b) ∧ (lRight l = true → most l ≤ v) := by
  simp only [small, Bool.and_eq_true, decide_eq_true_eq, List.all_eq_true, Bool.or_eq_true, Bool.not_eq_true'] at h
  refine ⟨⟨by omega, fun c hc => by have := h.2.1 c hc; omega⟩, h.1, h.2.1, fun hr => ?_⟩
  rcases h.2.2 with h' | h'
  · rw [hr] at h'; cases h'
  · exact h'
theorem small_total {l : List (List Int)} {b : Nat} (h : ∀ c ∈ l, c.length ≤ b) : total l ≤ l.length * b := by
  induction l with
  | nil => simp [total]
  | cons c l ih =>
    have h1 := ih fun d hd => h d (by simp [hd])
    have h2 := h c (by simp)
    simp only [total, List.map_cons, List.foldr_cons, List.length_cons] at *
    rw [Nat.add_mul, Nat.one_mul]
    omega
end Go.Proofs.YtnknoaolbjofiaaDoor.Cl
end
section
set_option linter.unusedVariables false
set_option linter.unusedSimpArgs false
namespace Go.Proofs.YtnknoaolbjofiaaDoor.Cl
def sg (x : Int) : Int := if x < 0 then -1 else 1
def at0 (s : List Int) (n : Nat) : Int := s.getD n 0
/-- Is a literal held? -/
def hb (s : List Int) (x : Int) : Bool := at0 s x.natAbs == sg x
def Tri (s : List Int) : Prop := ∀ n, at0 s n = 0 ∨ at0 s n = 1 ∨ at0 s n = -1
theorem hb_iff {s : List Int} {x : Int} : hb s x = true ↔ at0 s x.natAbs = sg x := by simp [hb]
theorem at0_set (s : List Int) (n : Nat) (v : Int) (h : n < s.length) (m : Nat) : at0 (s.set n v) m = if m = n then v else at0 s m := by
  unfold at0
  simp only [List.getD_eq_getElem?_getD, List.getElem?_set]
  by_cases e : m = n
  · subst e; simp [h]
  · rw [if_neg (fun e' => e e'.symm), if_neg e]
theorem tri_set {s : List Int} (ht : Tri s) {n : Nat} (h : n < s.length) (x : Int) : Tri (s.set n (sg x)) := fun m => by
  rw [at0_set s n _ h]
  split
  · unfold sg; split <;> omega
  · exact ht m
theorem hb_set {s : List Int} {x : Int} (h : x.natAbs < s.length) (h1 : at0 s x.natAbs = 0 ∨ at0 s x.natAbs = sg x) (z : Int) (hz : z ≠ 0) : hb (s.set x.natAbs (sg x)) z = true ↔ z = x ∨ hb s z = true := by
  rw [hb_iff, hb_iff, at0_set _ _ _ h]
  split
  · rename_i e
    rw [e]
    unfold sg at *
    split <;> split <;> rcases h1 with h1 | h1 <;> (try split at h1) <;> constructor <;> intro h2 <;> omega
  · rename_i e
    constructor
    · exact .inr
    · rintro (rfl | h)
      · exact absurd rfl e
      · exact h
def zeros : List Int → Nat
  | [] => 0
  | x :: r => (if x = 0 then 1 else 0) + zeros r
theorem sg_ne (x : Int) : sg x ≠ 0 := by unfold sg; split <;> omega
/-- All that is known on the way. -/
structure RWay (l : List (List Int)) (fr : List Int) (n : Nat) (s : List Int) : Prop where
  len : s.length = n + 1
  tri : Tri s
  der : ∀ x, x ≠ 0 → hb s x = true → Der l fr x
theorem RWay.set {l : List (List Int)} {fr s : List Int} {n : Nat} {x : Int} (h : RWay l fr n s) (hx : Der l fr x) (h0 : x ≠ 0) (hn : x.natAbs ≤ n) (h1 : at0 s x.natAbs = 0 ∨ at0 s x.natAbs = sg x) : RWay l fr n (s.set x.natAbs (sg x)) :=
  ⟨by rw [List.length_set]; exact h.len, tri_set h.tri (by rw [h.len]; omega) x, fun z hz hb => by
    rcases (hb_set (by rw [h.len]; omega) h1 z hz).1 hb with rfl | hb
    · exact hx
    · exact h.der z hz hb⟩
theorem RWay.start (l : List (List Int)) (fr : List Int) (n : Nat) : RWay l fr n (List.replicate (n + 1) 0) := by
  have h : ∀ m, at0 (List.replicate (n + 1) (0 : Int)) m = 0 := fun m => by
    unfold at0
    rw [List.getD_eq_getElem?_getD]
    by_cases e : m < n + 1
    · simp [List.getElem?_replicate, e]
    · simp [List.getElem?_replicate, e]
  exact ⟨by simp, fun m => .inl (h m), fun x hx hb => by
    rw [hb_iff, h] at hb
    exact absurd hb.symm (sg_ne x)⟩
end Go.Proofs.YtnknoaolbjofiaaDoor.Cl
end
section
set_option linter.unusedVariables false
set_option linter.unusedSimpArgs false
namespace Go.Proofs.YtnknoaolbjofiaaDoor.Cl
open Go.RowKit Go.Proofs.YtnknoaolbjofiaaDoorW.PrintWords Go.Proofs.YtnknoaolbjofiaaDoorW.PrintMore
open Go.Proofs.YtnknoaolbjofiaaDoor.X
section
variable {l : List (List Int)} {fr : List Int} {n : Nat} (hl : lRight l = true) (hf : cRight fr = true) (hfine : ∀ c ∈ l, c.length < 4398046511104) (hll : l.length < 4398046511104) (hn : n ≤ 1048576)
  (hln : ∀ c ∈ l, ∀ x ∈ c, x.natAbs ≤ n) (hfn : ∀ x ∈ fr, x.natAbs ≤ n)
include hl hf hfine hll hn hln hfn
end
end Go.Proofs.YtnknoaolbjofiaaDoor.Cl
end
section
namespace Go.Proofs.YtnknoaolbjofiaaDoor.X
open Go.RowKit Go.Proofs.YtnknoaolbjofiaaDoorW.PrintWords Go.Proofs.YtnknoaolbjofiaaDoorW.PrintLast Go.Proofs.YtnknoaolbjofiaaDoorW.PrintMore
attribute [local go_sem] max2_int min2_int max_two min_two max_three min_three max_four min_four
set_option linter.unusedVariables false
set_option linter.unusedSimpArgs false
def backreachref03_Ints.l0 : Nat → List Int → List Int → Int → Option (Bool)
  | 0, _, _, _ => none
  | k + 1, x0, x1, x5 => if x5 < (x0.length : Int) then (if 0 ≤ x5 then (if x5 < (x1.length : Int) then (if (rd x0 x5) = (rd x1 x5) then (backreachref03_Ints.l0 k x0 x1 (wrap64 (x5 + 1))) else (some false)) else (none)) else (none)) else (some true)
def backreachref03_Ints.f (k : Nat) (l0 : List Int) (l1 : List Int) : Option (Bool) := if (l0.length : Int) = (l1.length : Int) then (backreachref03_Ints.l0 k l0 l1 0) else (some false)
theorem backreachref03_Ints.mono_l : ∀ k, (∀ y0 y1 y2, LeO (backreachref03_Ints.l0 k y0 y1 y2) (backreachref03_Ints.l0 (k + 1) y0 y1 y2))
  | 0 => fun _ _ _ r h => by simp [backreachref03_Ints.l0] at h
  | k + 1 => by
    have ih0 := backreachref03_Ints.mono_l k
    · intro y0 y1 y2
      unfold backreachref03_Ints.l0
      repeat' first
      | (with_reducible exact ih0 _ _ _)
      | (with_reducible exact LeO.refl _)
      | (with_reducible exact LeO.none _)
      | (with_reducible refine LeO.ite ?_ ?_)
      | (with_reducible refine LeO.bind ?_ (fun _ => ?_))
      | exact ih0 _ _ _
      | exact LeO.none _
      | refine LeO.ite ?_ ?_
      | refine LeO.bind ?_ (fun _ => ?_)
theorem backreachref03_Ints.mono : ∀ a0 a1 k, LeO (backreachref03_Ints.f k a0 a1) (backreachref03_Ints.f (k + 1) a0 a1) := by
  intro a0 a1 k
  have ih0 := backreachref03_Ints.mono_l k
  unfold backreachref03_Ints.f
  repeat' first
      | (with_reducible exact ih0 _ _ _)
      | (with_reducible exact LeO.refl _)
      | (with_reducible exact LeO.none _)
      | (with_reducible refine LeO.ite ?_ ?_)
      | (with_reducible refine LeO.bind ?_ (fun _ => ?_))
      | exact ih0 _ _ _
      | exact LeO.none _
      | refine LeO.ite ?_ ?_
      | refine LeO.bind ?_ (fun _ => ?_)
set_option maxHeartbeats 8000000 in
set_option maxRecDepth 100000 in
theorem backreachref03_Ints.calls (k : Nat) (A0 : Option Addr) (c0 : Nat) (l0 : List Int) (A1 : Option Addr) (c1 : Nat) (l1 : List Int) (r : Bool) (w : World) (hr0 : Kd.C (Kd.int .i64) w A0 l0.length l0) (hc0 : l0.length ≤ c0) (hr1 : Kd.C (Kd.int .i64) w A1 l1.length l1) (hc1 : l1.length ≤ c1) (h : backreachref03_Ints.f k l0 l1 = some r) :
    Calls Tryd.prog 14 #[.slice A0 l0.length c0, .slice A1 l1.length c1] w fun e w' => e = .returned (.bool r) ∧ Drawn0 w w' := by
  have HR0 := Aside0.mk hr0
  have HC0 := Aside0.mk hc0
  clear hr0 hc0
  have HR1 := Aside0.mk hr1
  have HC1 := Aside0.mk hc1
  clear hr1 hc1
  have H : (if (l0.length : Int) = (l1.length : Int) then (backreachref03_Ints.l0 k l0 l1 0) else (some false)) = some r := h
  clear h
  by_cases c3 : (l0.length : Int) = (l1.length : Int)
  · rw [if_pos c3] at H
    have c3b0 : ((l0.length : Int) == (l1.length : Int)) = true := beq_iff_eq.mpr c3
    have c3b1 : ((l0.length : Int) != (l1.length : Int)) = false := bne_eq_false_iff_eq.mpr c3
    have c3b2 : (l0.length == l1.length) = true := by first | simpa using c3 | (simp at c3 ⊢; omega)
    clear c3
    have H' := Aside0.mk H
    clear H
    go_enter Tryd.func14, Tryd.ntmps14
    go_wp2
    repeat (go_quiet (fail); try go_wp2)
    go_loopg [5] k (fun kq v5 w' => ∃ (x5_1 : Int), v5 = .int .i64 x5_1 ∧ Aside0 (backreachref03_Ints.l0 kq l0 l1 x5_1 = some r) ∧ Aside0 (kq ≤ k) ∧ Drawn0 w w')
    case atStart => exact ⟨(0), (by first | rfl | (simp; done) | (simp [*]; done)), H', ⟨Nat.le_refl _⟩, by repeat (first | exact Drawn0.refl _ | apply Drawn0.step)⟩
    case round =>
      clear H'
      try clear c1
      try clear p2
      try clear c3
      try clear c3b0
      try clear c3b1
      try clear c3b2
      obtain ⟨x5_1, rfl, HA, HK1, ⟨m1, rfl⟩⟩ := hrel
      cases gk with
      | zero => exact absurd HA.out (by simp [backreachref03_Ints.l0])
      | succ k1 =>
        have H := HA.out
        clear HA
        simp only [backreachref03_Ints.l0] at H
        by_cases c4 : x5_1 < (l0.length : Int)
        · rw [if_pos c4] at H
          have c4b0 : decide (x5_1 < (l0.length : Int)) = true := decide_eq_true c4
          clear c4
          by_cases c5 : 0 ≤ x5_1
          · rw [if_pos c5] at H
            have c5b0 : decide (0 ≤ x5_1) = true := decide_eq_true c5
            clear c5
            by_cases c6 : x5_1 < (l1.length : Int)
            · rw [if_pos c6] at H
              have c6b0 : decide (x5_1 < (l1.length : Int)) = true := decide_eq_true c6
              clear c6
              by_cases c7 : (rd l0 x5_1) = (rd l1 x5_1)
              · rw [if_pos c7] at H
                have c7b0 : ((rd l0 x5_1) == (rd l1 x5_1)) = true := beq_iff_eq.mpr c7
                have c7b1 : ((rd l0 x5_1) != (rd l1 x5_1)) = false := bne_eq_false_iff_eq.mpr c7
                clear c7
                have H' := Aside0.mk H
                clear H
                have p183 : 0 ≤ (x5_1 : Int) := of_decide_eq_true (by first | (with_reducible assumption) | assumption)
                have q183 : x5_1 < (l0.length : Int) := of_decide_eq_true (by first | (with_reducible assumption) | assumption)
                obtain ⟨ad183, e183, hx183_0⟩ := Kd.at_int HR0.out x5_1 p183 q183
                cases e183
                replace p183 := eq_true p183
                replace q183 := eq_true q183
                have p184 : 0 ≤ (x5_1 : Int) := of_decide_eq_true (by first | (with_reducible assumption) | assumption)
                have q184 : x5_1 < (l1.length : Int) := of_decide_eq_true (by first | (with_reducible assumption) | assumption)
                obtain ⟨ad184, e184, hx184_0⟩ := Kd.at_int HR1.out x5_1 p184 q184
                cases e184
                replace p184 := eq_true p184
                replace q184 := eq_true q184
                go_wp2
                repeat (go_quiet (fail); try go_wp2)
                go_roundg k1
                case measure => have := HK1.out; omega
                case rel => exact ⟨(wrap64 (x5_1 + 1)), (by first | rfl | (simp; done) | (simp [*]; done)), H', ⟨by have := HK1.out; omega⟩, by repeat (first | exact Drawn0.refl _ | apply Drawn0.step)⟩
              · rw [if_neg c7] at H
                have c7b0 : ((rd l0 x5_1) == (rd l1 x5_1)) = false := beq_eq_false_iff_ne.mpr c7
                have c7b1 : ((rd l0 x5_1) != (rd l1 x5_1)) = true := bne_iff_ne.mpr c7
                obtain rfl := Option.some.inj H
                have p183 : 0 ≤ (x5_1 : Int) := of_decide_eq_true (by first | (with_reducible assumption) | assumption)
                have q183 : x5_1 < (l0.length : Int) := of_decide_eq_true (by first | (with_reducible assumption) | assumption)
                obtain ⟨ad183, e183, hx183_0⟩ := Kd.at_int HR0.out x5_1 p183 q183
                cases e183
                replace p183 := eq_true p183
                replace q183 := eq_true q183
                have p184 : 0 ≤ (x5_1 : Int) := of_decide_eq_true (by first | (with_reducible assumption) | assumption)
                have q184 : x5_1 < (l1.length : Int) := of_decide_eq_true (by first | (with_reducible assumption) | assumption)
                obtain ⟨ad184, e184, hx184_0⟩ := Kd.at_int HR1.out x5_1 p184 q184
                cases e184
                replace p184 := eq_true p184
                replace q184 := eq_true q184
                go_wp2
                repeat (go_quiet (fail); try go_wp2)
                go_ret
                exact ⟨by first | rfl | (simp; done) | (simp [*]; done), by repeat (first | exact Drawn0.refl _ | apply Drawn0.step)⟩
            · rw [if_neg c6] at H
              exact absurd H (by simp)
          · rw [if_neg c5] at H
            exact absurd H (by simp)
        · rw [if_neg c4] at H
          have c4b0 : decide (x5_1 < (l0.length : Int)) = false := decide_eq_false c4
          clear c4
          obtain rfl := Option.some.inj H
          go_wp2
          repeat (go_quiet (fail); try go_wp2)
          go_ret
          exact ⟨by first | rfl | (simp; done) | (simp [*]; done), by repeat (first | exact Drawn0.refl _ | apply Drawn0.step)⟩
  · rw [if_neg c3] at H
    have c3b0 : ((l0.length : Int) == (l1.length : Int)) = false := beq_eq_false_iff_ne.mpr c3
    have c3b1 : ((l0.length : Int) != (l1.length : Int)) = true := bne_iff_ne.mpr c3
    have c3b2 : (l0.length == l1.length) = false := by first | simpa using c3 | (simp at c3 ⊢; omega)
    obtain rfl := Option.some.inj H
    go_enter Tryd.func14, Tryd.ntmps14
    go_wp2
    repeat (go_quiet (fail); try go_wp2)
    go_ret
    exact ⟨by first | rfl | (simp; done) | (simp [*]; done), by repeat (first | exact Drawn0.refl _ | apply Drawn0.step)⟩
end Go.Proofs.YtnknoaolbjofiaaDoor.X
end
section
set_option linter.unusedVariables false
set_option linter.unusedSimpArgs false
namespace Go.Proofs.YtnknoaolbjofiaaDoor.Cl
open Go.RowKit Go.Maps Go.WideMaps
/-- What is asked of a program's types: kt is int, mt a map of these. -/
structure IntMap (P : Program) (kt mt : TypeId) : Prop where
  hk : P.underlying kt = some (.int .i64)
  hm : P.underlying mt = some (.map kt kt)
  hz : ∀ w, (zeroValue kt).run P w = .ok (.int .i64 0) w
def wfI (x : Int) : Prop := (Lit.int .i64 x).wf = true
/-- Block b is a map whose keys are just S. -/
def IsSet (P : Program) (kt : TypeId) (w : World) (b : Nat) (S : List Int) : Prop :=
  ∃ (D : DataW Unit) (n : Nat), w.ownsMap P kt (plainElem P kt) b n D ∧ n ≤ S.length ∧ Maps.size D = S.length ∧ ∀ x, wfI x → Maps.has D (.int .i64 x) = S.contains x
section
variable {P : Program} {kt mt : TypeId} {w w1 : World} {b : Nat} {S : List Int}
theorem IntMap.keyed (M : IntMap P kt mt) : Keyed P kt := int_keyed M.hk
theorem IsSet.made (w : World) : IsSet P kt (w.alloc (.map #[] 0)) w.heap.size [] :=
  ⟨.map [], 0, World.ownsMap_made _ _ _ _, Nat.le_refl _, rfl, fun _ _ => rfl⟩
theorem IsSet.lt (h : IsSet P kt w b S) : b < w.heap.size := by
  obtain ⟨D, n, ho, _⟩ := h
  exact ho.lt
theorem IsSet.block (h : IsSet P kt w b S) : ∃ es clock, w.heap[b]? = some (.map es clock) := by
  obtain ⟨D, n, ⟨es, clock, hb, _⟩, _⟩ := h
  exact ⟨es, clock, hb⟩
theorem IsSet.at_ (h : IsSet P kt w b S) (he : w1.heap[b]? = w.heap[b]?) : IsSet P kt w1 b S := by
  obtain ⟨D, n, ⟨es, clock, hb, F, hs, hD⟩, r⟩ := h
  exact ⟨D, n, ⟨es, clock, he.trans hb, F, hs, hD⟩, r⟩
theorem IsSet.kept {row : Option Nat} (h : IsSet P kt w b S) (hg : w.grownBy w1 row) (hne : some b ≠ row) : IsSet P kt w1 b S := by
  obtain ⟨D, n, ho, r⟩ := h
  exact ⟨D, n, ho.kept hg hne, r⟩
theorem IsSet.alloc (h : IsSet P kt w b S) (o : Obj) : IsSet P kt (w.alloc o) b S := h.kept (World.grownBy_alloc w o none) (by simp)
theorem IsSet.drew (h : IsSet P kt w b S) : IsSet P kt w.drew b S := h
theorem IsSet.drewN (h : IsSet P kt w b S) (n : Nat) : IsSet P kt (w.drewN n) b S := h.at_ rfl
/-- '_, ok := m[x]'. -/
theorem IsSet.look (M : IntMap P kt mt) (h : IsSet P kt w b S) {x : Int} (hx : wfI x) : ∃ c : Int, (Instr.lookup mt (.map (some b)) (.int .i64 x) true).run P w = .ok (.tuple #[.int .i64 c, .bool (S.contains x)]) w := by
  obtain ⟨D, n, ho, hn, hs, hh⟩ := h
  obtain ⟨v, ps, hrun, hv⟩ := ho.look_ok M.keyed M.hm (M.hz w) (plainElem_int M.hk (by decide)) (keyOf_int_mk M.hk hx)
  obtain ⟨c, rfl, _, _⟩ := plainElem_int_inv M.hk hv
  exact ⟨c, by rw [hrun, hh x hx]⟩
/-- 'len(m)'. -/
theorem IsSet.len (M : IntMap P kt mt) (h : IsSet P kt w b S) (ty : TypeId) : (Builtin.len_ #[mt] ty #[.map (some b)]).run P w = .ok (.int .i64 (S.length : Int)) w := by
  obtain ⟨D, n, ho, hn, hs, hh⟩ := h
  rw [ho.len M.hm ty, hs]
theorem key_ne {x y : Int} (h : x ≠ y) : (Lit.int .i64 x) ≠ Lit.int .i64 y := fun e => h (by injection e)
/-- 'm[x] = c', x new. -/
theorem IsSet.store (M : IntMap P kt mt) (h : IsSet P kt w b S) {x c : Int} (hx : wfI x) (hc : wfI c) (hnew : S.contains x = false) (hl : S.length < 9223372036854775807) :
    ∃ w1, (Instr.mapUpdate mt (.map (some b)) (.int .i64 x) (.int .i64 c)).run P w = .ok () w1 ∧ IsSet P kt w1 b (x :: S) ∧ w.mapTurned w1 b := by
  obtain ⟨D, n, ho, hn, hs, hh⟩ := h
  obtain ⟨w1, hrun, ho1, hg⟩ := ho.store M.keyed M.hm (by unfold maxLen; omega) (keyOf_int_mk M.hk hx) (plainElem_int M.hk hc)
  refine ⟨w1, hrun, ⟨_, _, ho1, by simp only [List.length_cons]; omega, ?_, fun y hy => ?_⟩, hg⟩
  · have ht : Tidy D := by
      obtain ⟨es, he, hp, _⟩ := ho.entries M.keyed
      exact ⟨es, he, hp⟩
    rw [size_put ht, hh x hx, hnew]
    simp [hs]
  · have him : IsMap D := by
      obtain ⟨es, he, _⟩ := ho.entries M.keyed
      exact ⟨es, he⟩
    by_cases e : y = x
    · subst e
      rw [has_put_same him (by simp [WideAt.IsKeyLit])]
      simp
    · rw [has_put_other (key_ne e), hh y hy]
      simp [e]
/-- A range over the map, on its way: those in 'left' are still to come. -/
def Going (P : Program) (kt : TypeId) (w : World) (b r : Nat) (S left : List Int) (cnt : Nat) : Prop :=
  ∃ (D : DataW Unit) (n : Nat) (f : Lit → Bool), w.ranges P kt (plainElem P kt) b r n D f cnt ∧ n ≤ S.length ∧ Maps.size D = S.length ∧ (∀ x, wfI x → Maps.has D (.int .i64 x) = S.contains x) ∧ (∀ x, wfI x → f (.int .i64 x) = left.contains x) ∧ left.Nodup ∧ (∀ x ∈ left, wfI x) ∧ (∀ x ∈ left, x ∈ S)
theorem Going.set {r cnt : Nat} {left : List Int} (h : Going P kt w b r S left cnt) : IsSet P kt w b S := by
  obtain ⟨D, n, f, hr, h1, h2, h3, _⟩ := h
  exact ⟨D, n, hr.owns, h1, h2, h3⟩
theorem Going.ne {r cnt : Nat} {left : List Int} (h : Going P kt w b r S left cnt) : r ≠ b := by
  obtain ⟨D, n, f, hr, _⟩ := h
  exact hr.ne
theorem Going.lt {r cnt : Nat} {left : List Int} (h : Going P kt w b r S left cnt) : r < w.heap.size := by
  obtain ⟨D, n, f, hr, _⟩ := h
  exact hr.lt
theorem Going.left_eq {r cnt : Nat} {left : List Int} (h : Going P kt w b r S left cnt) : w.rangeLeft b r = cnt := by
  obtain ⟨D, n, f, hr, _⟩ := h
  exact hr.left_eq
theorem Going.kept {r cnt : Nat} {left : List Int} {row : Option Nat} (h : Going P kt w b r S left cnt) (hg : w.grownBy w1 row) (hb : some b ≠ row) (hr' : some r ≠ row) : Going P kt w1 b r S left cnt := by
  obtain ⟨D, n, f, hr, rest⟩ := h
  exact ⟨D, n, f, hr.kept hg hb hr', rest⟩
theorem Going.alloc {r cnt : Nat} {left : List Int} (h : Going P kt w b r S left cnt) (o : Obj) : Going P kt (w.alloc o) b r S left cnt := h.kept (World.grownBy_alloc w o none) (by simp) (by simp)
section
variable {ops : Array Oper} {rest : List Oper} {o : Oper} {a : Act} {Q : Exit → Act → World → Prop}
/-- 'range m' begins. -/
theorem set_range (M : IntMap P kt mt) (hg : o.guard = none) (m : Operand) (hop : o.op = Op.range mt m) (hm : a.eval m = .map (some b)) (h : IsSet P kt w b S) (hnd : S.Nodup) (hwf : ∀ x ∈ S, wfI x)
    (hK : ∀ w' cnt, Going P kt w' b w.heap.size S S cnt → w.grownBy w' none → w'.heap.size = w.heap.size + 1 → wpList P ops Q rest (a.put o.dst (.pointer (some ⟨w.heap.size, 0, none⟩))) w') :
    wpList P ops Q (o :: rest) a w := by
  obtain ⟨D, n, ho, hn, hs, hh⟩ := h
  refine wpList_range_own w hg m mt hop kt kt M.keyed M.hm _ b n D hm ho ?_
  intro w' hr hg' hsz
  exact hK w' _ ⟨D, n, _, hr, hn, hs, hh, hh, hnd, hwf, fun _ hx => hx⟩ hg' hsz
/-- Its step. -/
theorem set_next (M : IntMap P kt mt) (hg : o.guard = none) (it : Operand) (hop : o.op = Op.next it false) {r cnt : Nat} {left : List Int} (hit : a.eval it = .pointer (some ⟨r, 0, none⟩)) (h : Going P kt w b r S left cnt)
    (hDone : left = [] → wpList P ops Q rest (a.put o.dst (.tuple #[.bool false])) w)
    (hMore : ∀ (x c : Int) (w' : World) (cnt' : Nat), x ∈ left → wfI x → Going P kt w' b r S (left.erase x) cnt' → cnt' < cnt → w.grownBy w' (some r) → w'.heap.size = w.heap.size →
      (Instr.entry (.pointer (some ⟨r, 0, none⟩))).run P w' = .ok (.tuple #[.int .i64 x, .int .i64 c]) w' → wpList P ops Q rest (a.put o.dst (.tuple #[.bool true, .int .i64 x, .int .i64 c])) w') :
    wpList P ops Q (o :: rest) a w := by
  obtain ⟨D, n, f, hr, hn, hs, hh, hf, hnd, hwf, hsub⟩ := h
  refine wpList_next_ranges_ii w hg it hop kt kt .i64 .i64 M.keyed M.hk M.hk b r n D f cnt hit hr ?_ ?_
  · intro _ h0
    refine hDone (List.eq_nil_iff_forall_not_mem.2 fun x hx => ?_)
    have := hf x (hwf x hx)
    rw [h0] at this
    simp [hx] at this
  · intro x c w' cnt' hx hc hfx _ hr' hlt hg' hsz hen
    have hxl : x ∈ left := by
      have := hf x hx
      rw [hfx] at this
      simpa using this.symm
    refine hMore x c w' cnt' hxl hx ⟨D, n, _, hr', hn, hs, hh, fun y hy => ?_, hnd.erase x, fun y hy => hwf y (List.mem_of_mem_erase hy), fun y hy => hsub y (List.mem_of_mem_erase hy)⟩ hlt hg' hsz hen
    by_cases e : y = x
    · subst e
      have : (Lit.int .i64 y).sameKey (.int .i64 y) = true := by simp [Lit.sameKey]
      simp only [this]
      have hn' : y ∉ left.erase y := fun h => by
        have := (List.Nodup.mem_erase_iff hnd).1 h
        exact this.1 rfl
      simp [hn']
    · have : (Lit.int .i64 y).sameKey (.int .i64 x) = false := sameKey_ne (key_ne e)
      simp only [this, Bool.not_false, Bool.and_true, hf y hy]
      rw [Bool.eq_iff_iff]
      simp only [List.contains_iff_mem]
      exact (List.mem_erase_of_ne e).symm
/-- 'delete(m, x)' right behind the step. -/
theorem set_delete (M : IntMap P kt mt) (hg : o.guard = none) (m x : Operand) (hop : o.op = Op.call { callee := Callee.builtin Builtin.delete, args := #[m, x], argTypes := #[mt, kt] }) {k : Int} (hS : IsSet P kt w b S) (hnd : S.Nodup) (hk : wfI k) (hmem : k ∈ S)
    (hm : a.eval m = .map (some b)) (hx : a.eval x = .int .i64 k)
    (hK : ∀ w', IsSet P kt w' b (S.erase k) → w.mapTurned w' b → wpList P ops Q rest (a.put o.dst (.tuple #[])) w') :
    wpList P ops Q (o :: rest) a w := by
  obtain ⟨D, n, ho, hn, hs, hh⟩ := hS
  refine wpList_delete_own w hg m x mt kt hop kt M.keyed M.hm _ b n D hm ho _ _ hx (keyOf_int_mk M.hk hk) ?_
  intro w' ho' ht
  have htd : Tidy D := by
    obtain ⟨es, he, hp, _⟩ := ho.entries M.keyed
    exact ⟨es, he, hp⟩
  have hsz : Maps.size (D.del (.int .i64 k)) + 1 = S.length := by
    have := size_del (k := .int .i64 k) htd
    rw [hh k hk] at this
    simp [hmem] at this
    omega
  have hle : (S.erase k).length = S.length - 1 := List.length_erase_of_mem hmem
  refine hK w' ⟨D.del (.int .i64 k), Maps.size (D.del (.int .i64 k)), ?_, by omega, by omega, fun y hy => ?_⟩ ht
  · obtain ⟨es, clock, hb, F, _, hD⟩ := ho'
    refine ⟨es, clock, hb, F, ?_, hD⟩
    rw [hD]
    simp [Maps.size, length_sorted]
  · by_cases e : y = k
    · subst e
      rw [has_del_same]
      have hn' : y ∉ S.erase y := fun h => by
        have := (List.Nodup.mem_erase_iff hnd).1 h
        exact this.1 rfl
      simp [hn']
    · rw [has_del_other (key_ne e), hh y hy, Bool.eq_iff_iff]
      simp only [List.contains_iff_mem]
      exact (List.mem_erase_of_ne e).symm
end
end
end Go.Proofs.YtnknoaolbjofiaaDoor.Cl
end
section
set_option linter.unusedVariables false
set_option linter.unusedSimpArgs false
namespace Go.Proofs.YtnknoaolbjofiaaDoor.Cl
open Go.RowKit Go.Maps Go.WideMaps Go.WideElems Go.ChangeMaps Go.MapKept Go.ChangeShapes
structure GroupMap (P : Program) (kt st gt : TypeId) : Prop where
  hk : P.underlying kt = some (.int .i64)
  hm : P.underlying gt = some (.map kt st)
  hz : ∀ w, (zeroValue st).run P w = .ok (.slice none 0 0) w
theorem GroupMap.keyed {P : Program} {kt st gt : TypeId} (M : GroupMap P kt st gt) : Keyed P kt := int_keyed M.hk
/-- What a row reads as. -/
def RowD (d : DataW Unit) (zs : List Int) : Prop := (d = .nil ∧ zs = []) ∨ d = .slice (lits .i64 zs) []
theorem lits_inj {xs ys : List Int} (h : (lits .i64 xs : List (DataW Unit)) = lits .i64 ys) : xs = ys := by
  have : ∀ (xs ys : List Int), (lits .i64 xs : List (DataW Unit)) = lits .i64 ys → xs = ys := by
    intro xs
    induction xs with
    | nil => intro ys h; cases ys with
      | nil => rfl
      | cons y ys => simp [lits] at h
    | cons x xs ih => intro ys h; cases ys with
      | nil => simp [lits] at h
      | cons y ys =>
        simp [lits] at h
        rw [h.1, ih ys (by simp [lits, h.2])]
  exact this xs ys h
theorem RowD.uniq {d : DataW Unit} {xs ys : List Int} (h : RowD d xs) (h' : RowD d ys) : xs = ys := by
  rcases h with ⟨rfl, rfl⟩ | rfl
  · rcases h' with ⟨_, rfl⟩ | h'
    · rfl
    · cases h'
  · rcases h' with ⟨h', _⟩ | h'
    · cases h'
    · injection h' with h'
      exact lits_inj h'
theorem rowD_of {w : World} {base : Nat} {e : TypeId} {v : Value} {zs : List Int} (h : w.ownsInts base e .i64 v zs) : RowD (rowDatum .i64 v zs) zs := by
  rcases h.datum (H := Unit) with h | h
  · exact .inl h
  · exact .inr h
/-- Block b is a map that holds at each key x just G x; its rows lie from base on. -/
def HasRows (P : Program) (kt : TypeId) (w : World) (base b n : Nat) (G : Int → List Int) : Prop :=
  ∃ D : DataW Unit, w.ownsGroups P kt base kt .i64 b n D ∧ Maps.IsMap D ∧ ∀ x, wfI x → RowD (D.atKey (.int .i64 x) .nil) (G x)
section
variable {P : Program} {kt st gt : TypeId} {w w1 : World} {base b n : Nat} {G : Int → List Int}
theorem HasRows.made (w : World) (kt : TypeId) {base : Nat} (hb : w.heap.size < base) : HasRows P kt (w.alloc (.map #[] 0)) base w.heap.size 0 (fun _ => []) :=
  ⟨.map [], ⟨#[], 0, (MapKept.heap_alloc w _).1, ⟨by simp, stamped_empty 0, by simp⟩, Nat.le_refl _, rfl, hb, by simp, by simp⟩, Maps.isMap_empty, fun _ _ => .inl ⟨rfl, rfl⟩⟩
theorem HasRows.lt (h : HasRows P kt w base b n G) : b < w.heap.size := by
  obtain ⟨D, ⟨es, clock, hb, _⟩, _⟩ := h
  exact (Array.getElem?_eq_some_iff.1 hb).1
theorem HasRows.block (h : HasRows P kt w base b n G) : ∃ es clock, w.heap[b]? = some (.map es clock) := by
  obtain ⟨D, ⟨es, clock, hb, _⟩, _⟩ := h
  exact ⟨es, clock, hb⟩
theorem rowsOff {D : DataW Unit} (h : w.ownsGroups P kt base kt .i64 b n D) {row : Option Nat} (hr : ∀ j, row = some j → j < base ∨ ∀ c t f, w.heap[j]? ≠ some (.cells c t f)) : ∀ es clock, w.heap[b]? = some (.map es clock) → ∀ x ∈ es.toList, x.val.ownBlock = none ∨ x.val.ownBlock ≠ row := fun es clock hb x hx => by
  obtain ⟨es', clock', hb', F, _⟩ := h
  obtain ⟨rfl, rfl⟩ : es' = es ∧ clock' = clock := by rw [hb'] at hb; simpa using hb
  cases hx' : x.val.ownBlock with
  | none => exact Or.inl rfl
  | some g =>
    refine Or.inr (fun e1 => ?_)
    obtain ⟨y, hy⟩ := F.reads x hx
    obtain ⟨z, hz, _⟩ := rd_val hy
    obtain ⟨zs, hoi, _⟩ := rowElem_inv hz
    have hlt := (hoi.1.lt g hx').1
    rcases hr g e1.symm with h1 | h1
    · omega
    · rcases hoi.1.2 with ⟨hv, _⟩ | ⟨g', cap, cur, hv, _, hh, _⟩
      · rw [hv] at hx'
        simp [Value.ownBlock] at hx'
      · rw [hv] at hx'
        have : g' = g := by simpa [Value.ownBlock] using hx'
        subst this
        exact h1 _ _ _ hh
theorem HasRows.kept {row : Option Nat} (h : HasRows P kt w base b n G) (hg : w.grownBy w1 row) (hb' : some b ≠ row) (hr : ∀ j, row = some j → j < base ∨ ∀ c t f, w.heap[j]? ≠ some (.cells c t f)) : HasRows P kt w1 base b n G := by
  obtain ⟨D, ho, r⟩ := h
  exact ⟨D, ho.kept hg hb' (rowsOff ho hr), r⟩
theorem HasRows.alloc (h : HasRows P kt w base b n G) (o : Obj) : HasRows P kt (w.alloc o) base b n G := h.kept (World.grownBy_alloc w o none) (by simp) (by simp)
theorem HasRows.drew (h : HasRows P kt w base b n G) : HasRows P kt w.drew base b n G := h.kept (row := none) ⟨rfl, rfl, rfl, Nat.le_refl _, fun _ _ _ => rfl⟩ (by simp) (by simp)
theorem HasRows.drewN (h : HasRows P kt w base b n G) (m : Nat) : HasRows P kt (w.drewN m) base b n G := h.kept (row := none) ⟨rfl, rfl, rfl, Nat.le_refl _, fun _ _ _ => rfl⟩ (by simp) (by simp)
/-- 'm[x]'. -/
theorem HasRows.look (M : GroupMap P kt st gt) (h : HasRows P kt w base b n G) (hn : n < maxLen) {x : Int} (hx : wfI x) :
    ∃ v, (Instr.lookup gt (.map (some b)) (.int .i64 x) false).run P w = .ok v w ∧ w.ownsInts base kt .i64 v (G x) ∧ (G x).length ≤ n ∧
      ∀ (w1 : World) (v' : Value) (zs' : List Int), w.grownBy w1 v.ownBlock → w1.ownsInts base kt .i64 v' zs' → zs'.length ≤ n + 1 → (v'.ownBlock = v.ownBlock ∨ ∃ g, v'.ownBlock = some g ∧ w.heap.size ≤ g) →
        ∃ w2, (Instr.mapUpdate gt (.map (some b)) (.int .i64 x) v').run P w1 = .ok () w2 ∧ HasRows P kt w2 base b (n + 1) (fun y => if y = x then zs' else G y) ∧ w1.grownBy w2 (some b) := by
  obtain ⟨D, ho, him, hG⟩ := h
  obtain ⟨v, zs, hrun, hat, hoi, hl, hback⟩ := ho.at M.keyed M.hm (M.hz w) hn (keyOf_int_mk M.hk hx)
  have hzs : zs = G x := by
    have h1 := hG x hx
    rw [hat] at h1
    exact (rowD_of hoi).uniq h1
  subst hzs
  refine ⟨v, hrun, hoi, hl, fun w1 v' zs' hg hoi' hl' hloc => ?_⟩
  obtain ⟨w2, hrun2, ho2, hg2⟩ := hback w1 v' zs' hg hoi' hl' hloc
  refine ⟨w2, hrun2, ⟨_, ho2, him.put _ _, fun y hy => ?_⟩, hg2⟩
  by_cases e : y = x
  · subst e
    rw [Maps.atKey_put_same him (by simp [WideAt.IsKeyLit])]
    simp only [if_pos]
    exact rowD_of hoi'
  · rw [Maps.atKey_put_other (key_ne e)]
    simp only [if_neg e]
    exact hG y hy
/-- The look-up reads the map's block alone. -/
theorem HasRows.look_same (M : GroupMap P kt st gt) (h : HasRows P kt w base b n G) {x : Int} (hx : wfI x) {v : Value} (hrun : (Instr.lookup gt (.map (some b)) (.int .i64 x) false).run P w = .ok v w) {W : World} (hW : W.heap[b]? = w.heap[b]?) :
    (Instr.lookup gt (.map (some b)) (.int .i64 x) false).run P W = .ok v W := by
  obtain ⟨D, ⟨es, clock, hb, F, _⟩, _⟩ := h
  have hkey := keyOf_int_mk M.hk hx
  rcases Maps.fit_look false M.keyed M.hm (M.hz w) hb F hkey with ⟨hr, hno, _⟩ | ⟨e0, y, hm, hk, hr, _⟩
  · rw [hrun] at hr
    rcases Maps.fit_look false M.keyed M.hm (M.hz W) (hW.trans hb) F hkey with ⟨hr', _, _⟩ | ⟨e1, _, hm', hk', _⟩
    · rw [hr']
      simp only [Result.ok.injEq, and_true] at hr
      rw [hr]
    · exact absurd hk' (hno e1 hm')
  · rw [hrun] at hr
    rcases Maps.fit_look false M.keyed M.hm (M.hz W) (hW.trans hb) F hkey with ⟨_, hno, _⟩ | ⟨e1, _, hm', hk', hr', _⟩
    · exact absurd hk (hno e0 hm)
    · have : e0 = e1 := entry_eq_of_key (List.pairwise_map.1 F.stamped.2.2) hm hm' (hk.trans hk'.symm)
      subst this
      rw [hr']
      simp only [Result.ok.injEq, and_true] at hr
      rw [hr]
theorem HasRows.ext {G' : Int → List Int} (h : HasRows P kt w base b n G) (e : ∀ x, G x = G' x) : HasRows P kt w base b n G' := by
  obtain rfl : G = G' := funext e
  exact h
end
end Go.Proofs.YtnknoaolbjofiaaDoor.Cl
end
section
set_option linter.unusedVariables false
set_option linter.unusedSimpArgs false
namespace Go.Proofs.YtnknoaolbjofiaaDoor.Cl
open Go.RowKit Go.Maps
theorem im : IntMap Tryd.prog 3 56 := ⟨Tryd.underlying3, Tryd.underlying56, fun _ => by kernel_rfl⟩
theorem gm : GroupMap Tryd.prog 3 23 55 := ⟨Tryd.underlying3, Tryd.underlying55, fun _ => by kernel_rfl⟩
/-- A spreader in block g. -/
def SpBlk (w : World) (g : Nat) (lv : Value) (bi bs bw : Nat) : Prop := w.heap[g]? = some (.cells #[lv, .map (some bi), .map (some bs), .map (some bw)] 58 (0, 0))
theorem SpBlk.c0 {w : World} {g bi bs bw : Nat} {lv : Value} (h : SpBlk w g lv bi bs bw) : w.cell? ⟨g, 0, none⟩ = some lv := by unfold SpBlk at h; simp [World.cell?, h]
theorem SpBlk.c1 {w : World} {g bi bs bw : Nat} {lv : Value} (h : SpBlk w g lv bi bs bw) : w.cell? ⟨g, 1, none⟩ = some (.map (some bi)) := by unfold SpBlk at h; simp [World.cell?, h]
theorem SpBlk.c2 {w : World} {g bi bs bw : Nat} {lv : Value} (h : SpBlk w g lv bi bs bw) : w.cell? ⟨g, 2, none⟩ = some (.map (some bs)) := by unfold SpBlk at h; simp [World.cell?, h]
theorem SpBlk.c3 {w : World} {g bi bs bw : Nat} {lv : Value} (h : SpBlk w g lv bi bs bw) : w.cell? ⟨g, 3, none⟩ = some (.map (some bw)) := by unfold SpBlk at h; simp [World.cell?, h]
theorem SpBlk.at_ {w w1 : World} {g bi bs bw : Nat} {lv : Value} (h : SpBlk w g lv bi bs bw) (he : w1.heap[g]? = w.heap[g]?) : SpBlk w1 g lv bi bs bw := he.trans h
theorem SpBlk.lt {w : World} {g bi bs bw : Nat} {lv : Value} (h : SpBlk w g lv bi bs bw) : g < w.heap.size := lt_of_block h
/-- Nothing but the blocks of which S tells has turned. -/
structure Fr (w w' : World) (S : Nat → Prop) : Prop where
  os : w'.os = w.os
  tape : w'.tape = w.tape
  output : w'.output = w.output
  size : w.heap.size ≤ w'.heap.size
  block : ∀ i, i < w.heap.size → ¬ S i → w'.heap[i]? = w.heap[i]?
theorem Fr.refl (w : World) (S : Nat → Prop) : Fr w w S := ⟨rfl, rfl, rfl, Nat.le_refl _, fun _ _ _ => rfl⟩
theorem Fr.trans {a b c : World} {S : Nat → Prop} (h : Fr a b S) (k : Fr b c S) : Fr a c S :=
  ⟨k.os.trans h.os, k.tape.trans h.tape, k.output.trans h.output, Nat.le_trans h.size k.size, fun i hi hn => (k.block i (Nat.lt_of_lt_of_le hi h.size) hn).trans (h.block i hi hn)⟩
theorem Fr.of_grown {w w' : World} {row : Option Nat} {S : Nat → Prop} (h : w.grownBy w' row) (hS : ∀ j, row = some j → j < w.heap.size → S j) : Fr w w' S :=
  ⟨h.os, h.tape, h.output, h.size, fun i hi hn => h.block i hi fun e => hn (hS i e.symm hi)⟩
theorem Fr.of_turned {w w' : World} {b : Nat} {S : Nat → Prop} (h : w.mapTurned w' b) (hS : S b) : Fr w w' S := Fr.of_grown h.grown fun j e _ => by cases e; exact hS
theorem Fr.mono {w w' : World} {S S' : Nat → Prop} (h : Fr w w' S) (hS : ∀ i, i < w.heap.size → S i → S' i) : Fr w w' S' := ⟨h.os, h.tape, h.output, h.size, fun i hi hn => h.block i hi fun hs => hn (hS i hi hs)⟩
theorem Fr.below {w0 w w' : World} {B : Nat} {S : Nat → Prop} (h : Fr w w' S) (hb : Below B w0 w) (hB : B ≤ w.heap.size) (hS : ∀ i, S i → B ≤ i) : Below B w0 w' :=
  hb.trans ⟨h.os, h.tape, h.output, h.size, fun k hk => h.block k (by omega) fun hs => by have := hS k hs; omega⟩
theorem wf_lit {x : Int} (h1 : -1048576 ≤ x) (h2 : x ≤ 1048576) : wfI x := WalkArith.wf_i64 (by omega)
theorem turned_other {w w1 : World} {b i : Nat} (h : w.mapTurned w1 b) (hne : i ≠ b) (hlt : i < w.heap.size) : w1.heap[i]? = w.heap[i]? := h.grown.block i hlt (fun e => hne (by cases e; rfl))
theorem SpBlk.ne_map {w : World} {g bi bs bw : Nat} {lv : Value} (h : SpBlk w g lv bi bs bw) {b : Nat} {es : Array MapEntry} {c : Nat} (hb : w.heap[b]? = some (.map es c)) : g ≠ b := by
  rintro rfl
  unfold SpBlk at h
  rw [h] at hb
  cases hb
set_option maxHeartbeats 1000000 in
/-- Its opposite is true already. -/
theorem hold_no {w : World} {g bi bs bw : Nat} {lv : Value} {S : List Int} {x : Int} (hg : SpBlk w g lv bi bs bw) (hS : IsSet Tryd.prog 3 w bs S) (h1 : -1048576 ≤ x) (h2 : x ≤ 1048576) (hn : S.contains (-x) = true) :
    Calls Tryd.prog 31 #[.pointer (some ⟨g, 0, none⟩), .int .i64 x] w fun e w' => e = .returned (.bool false) ∧ w' = w := by
  obtain ⟨c, hl⟩ := hS.look im (x := -x) (wf_lit (by omega) (by omega))
  rw [hn] at hl
  have hc2 := hg.c2
  clear hS hn
  go_enter Tryd.func31, Tryd.ntmps31
  go_wp2
  go_ret
  exact ⟨rfl, rfl⟩
set_option maxHeartbeats 1000000 in
/-- It is true already. -/
theorem hold_old {w : World} {g bi bs bw : Nat} {lv : Value} {S : List Int} {x : Int} (hg : SpBlk w g lv bi bs bw) (hS : IsSet Tryd.prog 3 w bs S) (h1 : -1048576 ≤ x) (h2 : x ≤ 1048576) (hn : S.contains (-x) = false) (ho : S.contains x = true) :
    Calls Tryd.prog 31 #[.pointer (some ⟨g, 0, none⟩), .int .i64 x] w fun e w' => e = .returned (.bool true) ∧ w' = w := by
  obtain ⟨c, hl⟩ := hS.look im (x := -x) (wf_lit (by omega) (by omega))
  obtain ⟨c', hl'⟩ := hS.look im (x := x) (wf_lit (by omega) (by omega))
  rw [hn] at hl
  rw [ho] at hl'
  have hc2 := hg.c2
  clear hS hn ho
  go_enter Tryd.func31, Tryd.ntmps31
  go_wp2
  go_ret
  exact ⟨rfl, rfl⟩
set_option maxHeartbeats 1000000 in
/-- It is new. -/
theorem hold_new {w : World} {g bi bs bw : Nat} {lv : Value} {S W : List Int} {x : Int} (hg : SpBlk w g lv bi bs bw) (hS : IsSet Tryd.prog 3 w bs S) (hW : IsSet Tryd.prog 3 w bw W) (hne : bs ≠ bw) (hlS : S.length < 9223372036854775807) (hlW : W.length < 9223372036854775807)
    (h1 : -1048576 ≤ x) (h2 : x ≤ 1048576) (hn : S.contains (-x) = false) (ho : S.contains x = false) (hw : W.contains x = false) :
    Calls Tryd.prog 31 #[.pointer (some ⟨g, 0, none⟩), .int .i64 x] w fun e w' => e = .returned (.bool true) ∧ (IsSet Tryd.prog 3 w' bs (x :: S) ∧ IsSet Tryd.prog 3 w' bw (x :: W) ∧ Fr w w' (fun i => i = bs ∨ i = bw)) := by
  obtain ⟨c, hl⟩ := hS.look im (x := -x) (wf_lit (by omega) (by omega))
  obtain ⟨c', hl'⟩ := hS.look im (x := x) (wf_lit (by omega) (by omega))
  rw [hn] at hl
  rw [ho] at hl'
  obtain ⟨w1, hr1, hS1, ht1⟩ := hS.store im (x := x) (c := 1) (wf_lit (by omega) (by omega)) (wf_lit (by omega) (by omega)) ho hlS
  have hgw : g ≠ bs := by obtain ⟨es, cl, hb⟩ := hS.block; exact hg.ne_map hb
  have hW1 : IsSet Tryd.prog 3 w1 bw W := hW.at_ (turned_other ht1 (Ne.symm hne) hW.lt)
  have hg1 : SpBlk w1 g lv bi bs bw := hg.at_ (turned_other ht1 hgw hg.lt)
  obtain ⟨w2, hr2, hW2, ht2⟩ := hW1.store im (x := x) (c := 1) (wf_lit (by omega) (by omega)) (wf_lit (by omega) (by omega)) hw hlW
  have hS2 : IsSet Tryd.prog 3 w2 bs (x :: S) := hS1.at_ (turned_other ht2 hne hS1.lt)
  have hend := Lib.hid (show IsSet Tryd.prog 3 w2 bs (x :: S) ∧ IsSet Tryd.prog 3 w2 bw (x :: W) ∧ Fr w w2 (fun i => i = bs ∨ i = bw) from ⟨hS2, hW2, (Fr.of_turned ht1 (.inl rfl)).trans (Fr.of_turned ht2 (.inr rfl))⟩)
  have hc2 := hg.c2
  have hc3 := hg1.c3
  clear hS hn ho hw hS1 hW1 hg1 hW2 hS2 ht1 ht2 hgw hne hW hg
  go_enter Tryd.func31, Tryd.ntmps31
  go_wp2
  go_ret
  exact ⟨rfl, hend.out⟩
end Go.Proofs.YtnknoaolbjofiaaDoor.Cl
end
section
set_option linter.unusedVariables false
set_option linter.unusedSimpArgs false
namespace Go.Proofs.YtnknoaolbjofiaaDoor.Cl
/-- none: it asks for nothing; some 0: all its literals are false; some z: z alone is left. -/
def askLoop (S : List Int) : Int → List Int → Option Int
  | last, [] => some last
  | last, x :: r => if (S.contains (-x) || x == last) = true then askLoop S last r else if (S.contains x || last != 0) = true then none else askLoop S x r
theorem askLoop_some {S : List Int} : ∀ (c : List Int) (last z : Int), (∀ x ∈ c, x ≠ 0) → askLoop S last c = some z →
    (∀ y ∈ c, y = z ∨ -y ∈ S) ∧ (last ≠ 0 → z = last) ∧ (z = last ∨ (z ∈ c ∧ z ∉ S ∧ -z ∉ S))
  | [], last, z, _, h => by
    simp only [askLoop, Option.some.injEq] at h
    exact ⟨by simp, fun _ => h.symm, .inl h.symm⟩
  | x :: r, last, z, h0, h => by
    have h0r : ∀ y ∈ r, y ≠ 0 := fun y hy => h0 y (by simp [hy])
    have hx0 := h0 x (by simp)
    unfold askLoop at h
    by_cases h1 : (S.contains (-x) || x == last) = true
    · rw [if_pos h1] at h
      obtain ⟨i1, i2, i3⟩ := askLoop_some r last z h0r h
      refine ⟨fun y hy => ?_, i2, ?_⟩
      · rcases List.mem_cons.1 hy with rfl | hy
        · simp only [Bool.or_eq_true, List.contains_iff_mem, beq_iff_eq] at h1
          rcases h1 with h1 | h1
          · exact .inr h1
          · subst h1
            exact .inl (i2 hx0).symm
        · exact i1 y hy
      · rcases i3 with h | ⟨h, h', h''⟩
        · exact .inl h
        · exact .inr ⟨by simp [h], h', h''⟩
    · rw [if_neg h1] at h
      by_cases h2 : (S.contains x || last != 0) = true
      · rw [if_pos h2] at h
        cases h
      · rw [if_neg h2] at h
        simp only [Bool.or_eq_true, not_or, List.contains_iff_mem, bne_iff_ne, ne_eq, Decidable.not_not] at h1 h2
        obtain ⟨i1, i2, i3⟩ := askLoop_some r x z h0r h
        have hz : z = x := i2 hx0
        subst hz
        refine ⟨fun y hy => ?_, fun hl => absurd h2.2 hl, .inr ⟨by simp, h2.1, h1.1⟩⟩
        rcases List.mem_cons.1 hy with rfl | hy
        · exact .inl rfl
        · exact i1 y hy
theorem askLoop_none {S : List Int} : ∀ (c : List Int) (last : Int), (∀ x ∈ c, x ≠ 0) → askLoop S last c = none →
    (∃ x ∈ c, x ∈ S) ∨ (∃ u ∈ c, ∃ v ∈ c, u ≠ v ∧ -u ∉ S ∧ -v ∉ S) ∨ (last ≠ 0 ∧ ∃ u ∈ c, u ≠ last ∧ -u ∉ S)
  | [], last, _, h => by simp [askLoop] at h
  | x :: r, last, h0, h => by
    have h0r : ∀ y ∈ r, y ≠ 0 := fun y hy => h0 y (by simp [hy])
    have hx0 := h0 x (by simp)
    unfold askLoop at h
    by_cases h1 : (S.contains (-x) || x == last) = true
    · rw [if_pos h1] at h
      rcases askLoop_none r last h0r h with ⟨y, hy, hS⟩ | ⟨u, hu, v, hv, r1⟩ | ⟨hl, u, hu, r1⟩
      · exact .inl ⟨y, by simp [hy], hS⟩
      · exact .inr (.inl ⟨u, by simp [hu], v, by simp [hv], r1⟩)
      · exact .inr (.inr ⟨hl, u, by simp [hu], r1⟩)
    · rw [if_neg h1] at h
      simp only [Bool.or_eq_true, not_or, List.contains_iff_mem, beq_iff_eq] at h1
      by_cases h2 : (S.contains x || last != 0) = true
      · simp only [Bool.or_eq_true, List.contains_iff_mem, bne_iff_ne] at h2
        rcases h2 with h2 | h2
        · exact .inl ⟨x, by simp, h2⟩
        · exact .inr (.inr ⟨h2, x, by simp, h1.2, h1.1⟩)
      · rw [if_neg h2] at h
        rcases askLoop_none r x h0r h with ⟨y, hy, hS⟩ | ⟨u, hu, v, hv, r1⟩ | ⟨hl, u, hu, hne, hS⟩
        · exact .inl ⟨y, by simp [hy], hS⟩
        · exact .inr (.inl ⟨u, by simp [hu], v, by simp [hv], r1⟩)
        · exact .inr (.inl ⟨x, by simp, u, by simp [hu], fun e => hne e.symm, h1.1, hS⟩)
/-- What is to be done of a clause. -/
theorem ask_none {S c : List Int} (h0 : ∀ x ∈ c, x ≠ 0) (h : askLoop S 0 c = none) : Settled S c := by
  rcases askLoop_none c 0 h0 h with h | h | h
  · exact .inl h
  · exact .inr h
  · exact absurd rfl h.1
theorem ask_zero {S c : List Int} (h0 : ∀ x ∈ c, x ≠ 0) (h : askLoop S 0 c = some 0) : ∀ y ∈ c, -y ∈ S := fun y hy => by
  rcases (askLoop_some c 0 0 h0 h).1 y hy with h1 | h1
  · exact absurd h1 (h0 y hy)
  · exact h1
theorem ask_one {S c : List Int} {z : Int} (h0 : ∀ x ∈ c, x ≠ 0) (h : askLoop S 0 c = some z) (hz : z ≠ 0) : z ∈ c ∧ z ∉ S ∧ -z ∉ S ∧ ∀ y ∈ c, y ≠ z → -y ∈ S := by
  obtain ⟨h1, _, h3⟩ := askLoop_some c 0 z h0 h
  rcases h3 with h3 | ⟨h3, h4, h5⟩
  · exact absurd h3 hz
  · exact ⟨h3, h4, h5, fun y hy hne => (h1 y hy).resolve_left hne⟩
end Go.Proofs.YtnknoaolbjofiaaDoor.Cl
end
section
set_option linter.unusedVariables false
set_option linter.unusedSimpArgs false
namespace Go.Proofs.YtnknoaolbjofiaaDoor.Cl
open Go.RowKit Go.Maps Go.Proofs.YtnknoaolbjofiaaDoorW.PrintWords
def Lits (c : List Int) : Prop := ∀ x ∈ c, -1048576 ≤ x ∧ x ≤ 1048576 ∧ x ≠ 0
theorem lits_of {c : List Int} (h : cRight c = true) : Lits c := fun x hx => by
  have := List.all_eq_true.1 h x hx
  simp [litOk] at this
  omega
/-- What a call of 'ask' comes to. -/
def AskPost (S W c : List Int) (bs bw : Nat) (w : World) (e : Ending) (w' : World) : Prop :=
  (askLoop S 0 c = none ∧ e = .returned (.bool true) ∧ w' = w) ∨ (askLoop S 0 c = some 0 ∧ e = .returned (.bool false) ∧ w' = w) ∨
  ∃ z, z ≠ 0 ∧ askLoop S 0 c = some z ∧ e = .returned (.bool true) ∧ IsSet Tryd.prog 3 w' bs (z :: S) ∧ IsSet Tryd.prog 3 w' bw (z :: W) ∧ Fr w w' (fun i => i = bs ∨ i = bw)
/-- On the way: so much of the clause has been gone through. -/
def AskRel (S c : List Int) (k : Nat) (last : Int) : Prop := k ≤ c.length ∧ (last = 0 ∨ (last ∈ c ∧ last ∉ S ∧ -last ∉ S)) ∧ askLoop S last (c.drop k) = askLoop S 0 c
theorem AskRel.start (S c : List Int) : AskRel S c 0 0 := ⟨Nat.zero_le _, .inl rfl, rfl⟩
theorem ask_drop {c : List Int} {k : Nat} (h : k < c.length) : c.drop k = rd c k :: c.drop (k + 1) := by
  rw [List.drop_eq_getElem_cons h]
  simp [rd, List.getD_eq_getElem?_getD, List.getElem?_eq_getElem h]
theorem rd_mem {c : List Int} {k : Nat} (h : k < c.length) : rd c k ∈ c := by
  simp [rd, List.getD_eq_getElem?_getD, List.getElem?_eq_getElem h]
theorem AskRel.skip {S c : List Int} {k : Nat} {last : Int} (h : AskRel S c k last) (hk : k < c.length) (hx : (S.contains (-(rd c k)) || rd c k == last) = true) : AskRel S c (k + 1) last := by
  refine ⟨hk, h.2.1, ?_⟩
  rw [← h.2.2, ask_drop hk]
  simp only [askLoop]
  rw [if_pos hx]
theorem AskRel.take_ {S c : List Int} {k : Nat} {last : Int} (h : AskRel S c k last) (hk : k < c.length) (h1 : S.contains (-(rd c k)) = false) (h2 : (rd c k == last) = false) (h3 : S.contains (rd c k) = false) (h4 : last = 0) : AskRel S c (k + 1) (rd c k) := by
  refine ⟨hk, .inr ⟨rd_mem hk, by simpa using h3, by simpa using h1⟩, ?_⟩
  rw [← h.2.2, ask_drop hk]
  subst h4
  simp only [askLoop]
  rw [if_neg (by simp only [h1, h2]; decide), if_neg (by simp only [h3]; decide)]
theorem AskRel.stop {S c : List Int} {k : Nat} {last : Int} (h : AskRel S c k last) (hk : k < c.length) (h1 : S.contains (-(rd c k)) = false) (h2 : (rd c k == last) = false) (h3 : (S.contains (rd c k) || last != 0) = true) : askLoop S 0 c = none := by
  rw [← h.2.2, ask_drop hk]
  simp only [askLoop]
  rw [if_neg (by simp only [h1, h2]; decide), if_pos h3]
theorem AskRel.done {S c : List Int} {last : Int} (h : AskRel S c c.length last) : askLoop S 0 c = some last := by
  rw [← h.2.2, List.drop_length]
  rfl
set_option maxHeartbeats 2000000 in
theorem ask_calls {w : World} {g bi bs bw : Nat} {lv : Value} {S W : List Int} {A : Option Addr} {c : List Int} {cap : Nat} (hg : SpBlk w g lv bi bs bw) (hS : IsSet Tryd.prog 3 w bs S) (hW : IsSet Tryd.prog 3 w bw W) (hne : bs ≠ bw)
    (hlS : S.length < 9223372036854775807) (hlW : W.length < 9223372036854775807) (hWS : ∀ x ∈ W, x ∈ S) (hc : Lits c) (hC : Kd.C (Kd.int .i64) w A c.length c) (hcap : c.length ≤ cap) (hlen : c.length ≤ 9223372036854775807) :
    Calls Tryd.prog 32 #[.pointer (some ⟨g, 0, none⟩), .slice A c.length cap] w (AskPost S W c bs bw w) := by
  have HC := Lib.hid hc
  have HR := Aside0.mk hC
  clear hc hC
  have hc2 := hg.c2
  go_enter Tryd.func32, Tryd.ntmps32
  go_wp2
  go_loop [5, 14] (fun v5 v14 => ∃ (k : Nat) (last : Int), v5 = .int .i64 last ∧ v14 = .int .i64 k ∧ AskRel S c k last) (fun _ i => c.length - (intOf i).toNat)
  case atStart => exact ⟨0, 0, rfl, rfl, AskRel.start S c⟩
  case round =>
    obtain ⟨k, last, rfl, rfl, hr⟩ := hrel
    have hkl := hr.1
    by_cases hlt : k < c.length
    · have hx := HC.out _ (rd_mem hlt)
      obtain ⟨ad, e, hcell⟩ := Kd.at_int HR.out (k : Int) (by omega) (by omega)
      cases e
      rw [Int.toNat_natCast] at hcell
      have hmem : ∀ b, S.contains (-(rd c k)) = b → ∃ q : Int, (Instr.lookup 56 (.map (some bs)) (.int .i64 (-(rd c k))) true).run Tryd.prog w = .ok (.tuple #[.int .i64 q, .bool b]) w := fun b hb => by
        obtain ⟨q, hq⟩ := hS.look im (x := -(rd c k)) (wf_lit (by omega) (by omega))
        exact ⟨q, by rw [hq, hb]⟩
      have hmem2 : ∀ b, S.contains (rd c k) = b → ∃ q : Int, (Instr.lookup 56 (.map (some bs)) (.int .i64 (rd c k)) true).run Tryd.prog w = .ok (.tuple #[.int .i64 q, .bool b]) w := fun b hb => by
        obtain ⟨q, hq⟩ := hS.look im (x := rd c k) (wf_lit (by omega) (by omega))
        exact ⟨q, by rw [hq, hb]⟩
      cases h1 : S.contains (-(rd c k)) with
      | true =>
        obtain ⟨q1, hl1⟩ := hmem _ h1
        have hr' := hr.skip hlt (by rw [h1]; rfl)
        have HR' := Lib.hid hr'
        clear hr hr' hmem hmem2 h1
        go_wp2
        go_round
        case rel => exact ⟨k + 1, last, rfl, by go_num, HR'.out⟩
        case measure => simp [intOf]; omega
      | false =>
        obtain ⟨q1, hl1⟩ := hmem _ h1
        cases h2 : rd c k == last with
        | true =>
          have hr' := hr.skip hlt (by rw [h2]; simp)
          have HR' := Lib.hid hr'
          clear hr hr' hmem hmem2 h1
          go_wp2
          go_round
          case rel => exact ⟨k + 1, last, rfl, by go_num, HR'.out⟩
          case measure => simp [intOf]; omega
        | false =>
          cases h3 : S.contains (rd c k) with
          | true =>
            obtain ⟨q2, hl2⟩ := hmem2 _ h3
            have hf := Lib.hid (hr.stop hlt h1 h2 (by rw [h3]; rfl))
            clear hr hmem hmem2 h1 h3
            go_wp2
            go_ret
            exact .inl ⟨hf.out, rfl, rfl⟩
          | false =>
            obtain ⟨q2, hl2⟩ := hmem2 _ h3
            cases h4 : last != 0 with
            | true =>
              have hf := Lib.hid (hr.stop hlt h1 h2 (by rw [h4]; simp))
              clear hr hmem hmem2 h1 h3
              go_wp2
              go_ret
              exact .inl ⟨hf.out, rfl, rfl⟩
            | false =>
              have hr' := hr.take_ hlt h1 h2 h3 (by simpa using h4)
              have HR' := Lib.hid hr'
              clear hr hr' hmem hmem2 h1 h3
              go_wp2
              go_round
              case rel => exact ⟨k + 1, rd c k, rfl, by go_num, HR'.out⟩
              case measure => simp [intOf]; omega
    · have hk : k = c.length := by omega
      subst hk
      have hd := Lib.hid hr.done
      by_cases hz : last = 0
      · subst hz
        clear hr
        go_wp2
        go_ret
        exact .inr (.inl ⟨hd.out, rfl, rfl⟩)
      · have hb : (last != 0) = true := by simpa using hz
        obtain ⟨hm, hns, hno⟩ := hr.2.1.resolve_left hz
        have hx := HC.out _ hm
        have hcon := hold_new hg hS hW hne hlS hlW hx.1 hx.2.1 (by simpa using hno) (by simpa using hns) (by simpa using fun h => hns (hWS _ h))
        have HCON := Lib.hid hcon
        clear hr hcon hm hns hno hz
        go_wp2_with (go_at_call 31; refine (HCON.out).mono ?_; rintro e w' ⟨rfl, hq⟩)
        go_ret
        exact .inr (.inr ⟨last, by simpa using hb, hd.out, rfl, hq⟩)
end Go.Proofs.YtnknoaolbjofiaaDoor.Cl
end
section
set_option linter.unusedVariables false
set_option linter.unusedSimpArgs false
namespace Go.Proofs.YtnknoaolbjofiaaDoor.Cl
def row (l : List (List Int)) (m : Nat) : List Int := l.getD m []
theorem row_mem {l : List (List Int)} {m : Nat} (h : m < l.length) : row l m ∈ l := by
  simp [row, List.getD_eq_getElem?_getD, List.getElem?_eq_getElem h]
theorem mem_row {l : List (List Int)} {c : List Int} (h : c ∈ l) : ∃ m, m < l.length ∧ row l m = c := by
  obtain ⟨m, hm, e⟩ := List.mem_iff_getElem.1 h
  exact ⟨m, hm, by simp [row, List.getD_eq_getElem?_getD, List.getElem?_eq_getElem hm, e]⟩
/-- In which clauses a literal stands. -/
def inFrom (x : Int) : Nat → List (List Int) → List Int
  | _, [] => []
  | k, c :: l => (c.filter (· == x)).map (fun _ => (k : Int)) ++ inFrom x (k + 1) l
def inOf (l : List (List Int)) (x : Int) : List Int := inFrom x 0 l
theorem mem_inFrom {x z : Int} : ∀ {l : List (List Int)} {k : Nat}, z ∈ inFrom x k l ↔ ∃ m, m < l.length ∧ z = ((k + m : Nat) : Int) ∧ x ∈ row l m
  | [], k => by simp [inFrom]
  | c :: l, k => by
    simp only [inFrom, List.mem_append, mem_inFrom (l := l) (k := k + 1)]
    constructor
    · rintro (h | ⟨m, hm, rfl, hx⟩)
      · simp only [List.mem_map, List.mem_filter] at h
        obtain ⟨y, ⟨hy, hyx⟩, rfl⟩ := h
        refine ⟨0, by simp, by simp, ?_⟩
        obtain rfl : y = x := by simpa using hyx
        simpa [row] using hy
      · exact ⟨m + 1, by simpa using hm, by simp; omega, by simpa [row] using hx⟩
    · rintro ⟨m, hm, rfl, hx⟩
      cases m with
      | zero =>
        refine .inl ?_
        simp only [List.mem_map, List.mem_filter]
        exact ⟨x, ⟨by simpa [row] using hx, by simp⟩, by simp⟩
      | succ m => exact .inr ⟨m, by simpa using hm, by simp; omega, by simpa [row] using hx⟩
theorem mem_inOf {l : List (List Int)} {x z : Int} : z ∈ inOf l x ↔ ∃ m, m < l.length ∧ z = (m : Int) ∧ x ∈ row l m := by
  unfold inOf
  rw [mem_inFrom]
  simp
theorem inFrom_snoc (x : Int) (c : List Int) : ∀ (l : List (List Int)) (k : Nat), inFrom x k (l ++ [c]) = inFrom x k l ++ (c.filter (· == x)).map (fun _ => ((k + l.length : Nat) : Int))
  | [], k => by simp [inFrom]
  | d :: l, k => by
    simp only [List.cons_append, inFrom, inFrom_snoc x c l (k + 1), List.append_assoc, List.length_cons]
    rw [show k + 1 + l.length = k + (l.length + 1) from by omega]
/-- What the map holds after k clauses and j literals of the next. -/
def inAt (l : List (List Int)) (k j : Nat) (x : Int) : List Int := inFrom x 0 (l.take k) ++ (((row l k).take j).filter (· == x)).map (fun _ => (k : Int))
theorem inAt_zero (l : List (List Int)) (x : Int) : inAt l 0 0 x = [] := by simp [inAt, inFrom]
theorem inAt_next {l : List (List Int)} {k : Nat} (h : k < l.length) (x : Int) : inAt l k (row l k).length x = inAt l (k + 1) 0 x := by
  have ht : l.take (k + 1) = l.take k ++ [row l k] := by
    rw [List.take_succ_eq_append_getElem h]
    simp [row, List.getD_eq_getElem?_getD, List.getElem?_eq_getElem h]
  have hl : (l.take k).length = k := by rw [List.length_take]; omega
  simp only [inAt, ht, inFrom_snoc, hl, List.take_length, List.take_zero, List.filter_nil, List.map_nil, List.append_nil, Nat.zero_add]
theorem inAt_step {l : List (List Int)} {k j : Nat} (h : j < (row l k).length) (x : Int) : inAt l k (j + 1) x = if x = (row l k).getD j 0 then inAt l k j x ++ [(k : Int)] else inAt l k j x := by
  have ht : (row l k).take (j + 1) = (row l k).take j ++ [(row l k).getD j 0] := by
    rw [List.take_succ_eq_append_getElem h]
    simp [List.getD_eq_getElem?_getD, List.getElem?_eq_getElem h]
  simp only [inAt, ht, List.filter_append, List.map_append, List.append_assoc]
  by_cases e : x = (row l k).getD j 0
  · subst e; simp
  · have h1 : ((row l k).getD j 0 == x) = false := beq_eq_false_iff_ne.2 fun h => e h.symm
    rw [if_neg e, List.filter_cons, if_neg (by rw [h1]; decide)]
    simp
theorem inAt_end (l : List (List Int)) (x : Int) : inAt l l.length 0 x = inOf l x := by simp [inAt, inOf]
theorem total_take (l : List (List Int)) : ∀ k, k < l.length → total (l.take k) + (row l k).length ≤ total l := by
  induction l with
  | nil => intro k h; simp at h
  | cons c l ih =>
    intro k h
    cases k with
    | zero => simp [total, row]
    | succ k =>
      have := ih k (by simpa using h)
      simp [total, row] at *
      omega
/-- What holds on the way: the literals fr up to j are in, the clauses up to k have been asked, those whose numbers are in K are to be asked anew. -/
structure RInv (l : List (List Int)) (fr S W K : List Int) (j k : Nat) : Prop where
  way : Way l fr S
  sub : ∀ x ∈ W, x ∈ S
  nd : W.Nodup
  lit : ∀ x ∈ S, -1048576 ≤ x ∧ x ≤ 1048576 ∧ x ≠ 0
  src : ∀ x ∈ S, x ∈ fr ∨ ∃ c ∈ l, x ∈ c
  got : ∀ i, i < j → fr.getD i 0 ∈ S
  set : ∀ m, m < k → Settled S (row l m) ∨ (∃ y ∈ row l m, -y ∈ W) ∨ (m : Int) ∈ K
section
variable {l : List (List Int)} {fr S W K : List Int} {j k : Nat}
theorem RInv.start (l : List (List Int)) (fr : List Int) : RInv l fr [] [] [] 0 0 := ⟨Way.nil l fr, by simp, by simp, by simp, by simp, fun i h => by omega, fun m h => by omega⟩
theorem settled_more {z : Int} {c : List Int} (h : Settled S c) : Settled (z :: S) c ∨ ∃ y ∈ c, -y ∈ z :: W := by
  rcases h with ⟨x, hx, hS⟩ | ⟨u, hu, v, hv, hne, h1, h2⟩
  · exact .inl (.inl ⟨x, hx, by simp [hS]⟩)
  · by_cases e : -u = z
    · exact .inr ⟨u, hu, by simp [e]⟩
    · by_cases e' : -v = z
      · exact .inr ⟨v, hv, by simp [e']⟩
      · exact .inl (.inr ⟨u, hu, v, hv, hne, by simp [e, h1], by simp [e', h2]⟩)
/-- A literal more. -/
theorem RInv.more {z : Int} (h : RInv l fr S W K j k) (hd : Der l fr z) (h0 : z ≠ 0) (h1 : z ∉ S) (h2 : -z ∉ S) (hb : -1048576 ≤ z ∧ z ≤ 1048576) (hs : z ∈ fr ∨ ∃ c ∈ l, z ∈ c) : RInv l fr (z :: S) (z :: W) K j k where
  way := h.way.cons hd h0 h1 h2
  sub x hx := by rcases List.mem_cons.1 hx with rfl | hx <;> simp [h.sub, *]
  nd := List.nodup_cons.2 ⟨fun hw => h1 (h.sub z hw), h.nd⟩
  lit x hx := by
    rcases List.mem_cons.1 hx with rfl | hx
    · exact ⟨hb.1, hb.2, h0⟩
    · exact h.lit x hx
  src x hx := by
    rcases List.mem_cons.1 hx with rfl | hx
    · exact hs
    · exact h.src x hx
  got i hi := List.mem_cons_of_mem _ (h.got i hi)
  set m hm := by
    rcases h.set m hm with h' | ⟨y, hy, hW⟩ | hK
    · rcases settled_more (W := W) (z := z) h' with h' | h'
      · exact .inl h'
      · exact .inr (.inl h')
    · exact .inr (.inl ⟨y, hy, by simp [hW]⟩)
    · exact .inr (.inr hK)
theorem RInv.size (h : RInv l fr S W K j k) : S.length ≤ fr.length + total l := by
  have := length_le_of_sub S (fr ++ flat l) h.way.apart fun x hx => by
    rcases h.src x hx with h' | h'
    · simp [h']
    · simp [mem_flat.2 h']
  rwa [List.length_append, length_flat] at this
theorem RInv.ndS (h : RInv l fr S W K j k) : S.Nodup := h.way.apart.imp fun hne e => hne (by rw [e])
theorem length_sub : ∀ (W S : List Int), W.Nodup → (∀ x ∈ W, x ∈ S) → W.length ≤ S.length
  | [], S, _, _ => Nat.zero_le _
  | x :: W, S, hn, hs => by
    have hn' := List.nodup_cons.1 hn
    have hx : x ∈ S := hs x (by simp)
    have ih := length_sub W (S.erase x) hn'.2 fun y hy => (List.mem_erase_of_ne fun e => hn'.1 (by rw [← e]; exact hy)).2 (hs y (by simp [hy]))
    rw [List.length_erase_of_mem hx] at ih
    have : 0 < S.length := List.length_pos_of_mem hx
    simp only [List.length_cons]
    omega
theorem RInv.sizeW (h : RInv l fr S W K j k) : W.length ≤ S.length := length_sub W S h.nd h.sub
/-- 'from' goes on. -/
theorem RInv.held_old (h : RInv l fr S W K j k) (hx : fr.getD j 0 ∈ S) : RInv l fr S W K (j + 1) k := by
  refine { h with got := fun i hi => ?_ }
  rcases Nat.lt_or_ge i j with h' | h'
  · exact h.got i h'
  · obtain rfl : i = j := by omega
    exact hx
/-- A clause has been asked. -/
theorem RInv.asked (h : RInv l fr S W K j k) (hx : Settled S (row l k)) : RInv l fr S W K j (k + 1) := by
  refine { h with set := fun m hm => ?_ }
  rcases Nat.lt_or_ge m k with h' | h'
  · exact h.set m h'
  · obtain rfl : m = k := by omega
    exact .inl hx
theorem RInv.again {m : Nat} (h : RInv l fr S W ((m : Int) :: K) j k) (hx : Settled S (row l m)) : RInv l fr S W K j k := by
  refine { h with set := fun i hi => ?_ }
  rcases h.set i hi with h' | h' | h'
  · exact .inl h'
  · exact .inr (.inl h')
  · rcases List.mem_cons.1 h' with e | h'
    · obtain rfl : i = m := by omega
      exact .inl hx
    · exact .inr (.inr h')
/-- What is waiting is taken. -/
theorem RInv.pop {x : Int} (h : RInv l fr S W [] j l.length) (hx : x ∈ W) : RInv l fr S (W.erase x) (inOf l (-x)) j l.length := by
  refine { h with sub := fun y hy => h.sub y (List.mem_of_mem_erase hy), nd := h.nd.erase x, set := fun m hm => ?_ }
  rcases h.set m hm with h' | ⟨y, hy, hW⟩ | h'
  · exact .inl h'
  · by_cases e : -y = x
    · exact .inr (.inr (mem_inOf.2 ⟨m, hm, rfl, by subst e; simpa using hy⟩))
    · exact .inr (.inl ⟨y, hy, (List.mem_erase_of_ne e).2 hW⟩)
  · simp at h'
/-- Nothing is waiting. -/
theorem RInv.end_ (h : RInv l fr S [] [] fr.length l.length) : ¬ Fails l fr ∧ ∀ x, x ∈ S ↔ Der l fr x := by
  refine done (fun x hx => ?_) h.way.der h.way.apart h.way.zero (fun c hc => ?_)
  · obtain ⟨i, hi, e⟩ := List.mem_iff_getElem.1 hx
    have := h.got i hi
    rw [List.getD_eq_getElem?_getD, List.getElem?_eq_getElem hi] at this
    simpa [e] using this
  · obtain ⟨m, hm, rfl⟩ := mem_row hc
    rcases h.set m hm with h' | ⟨_, _, h'⟩ | h'
    · exact h'
    · simp at h'
    · simp at h'
/-- What a clause asks for follows. -/
theorem RInv.unit {c : List Int} {z : Int} (h : RInv l fr S W K j k) (hc : c ∈ l) (hz : z ∈ c) (hy : ∀ y ∈ c, y ≠ z → -y ∈ S) : Der l fr z :=
  Der.unit hc hz fun y hyc hne => h.way.der _ (hy y hyc hne)
theorem RInv.fails {c : List Int} (h : RInv l fr S W K j k) (hc : c ∈ l) (hy : ∀ y ∈ c, -y ∈ S) : Fails l fr := .inr ⟨c, hc, fun y hyc => h.way.der _ (hy y hyc)⟩
theorem RInv.clash {x : Int} (h : RInv l fr S W K j k) (hx : x ∈ fr) (hn : -x ∈ S) : Fails l fr := .inl ⟨x, Der.of_from hx, h.way.der _ hn⟩
end
end Go.Proofs.YtnknoaolbjofiaaDoor.Cl
end
section
set_option linter.unusedVariables false
set_option linter.unusedSimpArgs false
namespace Go.Proofs.YtnknoaolbjofiaaDoor.Cl
open Go.RowKit Go.Maps Go.Proofs.YtnknoaolbjofiaaDoorW.PrintWords
theorem Fr.then_ {a b c : World} {S S' : Nat → Prop} (h : Fr a b S) (k : Fr b c S') (hS : ∀ i, S' i → S i ∨ a.heap.size ≤ i) : Fr a c S :=
  ⟨k.os.trans h.os, k.tape.trans h.tape, k.output.trans h.output, Nat.le_trans h.size k.size, fun i hi hn => (k.block i (Nat.lt_of_lt_of_le hi h.size) (fun hs => by rcases hS i hs with h1 | h1; exact hn h1; omega)).trans (h.block i hi hn)⟩
theorem ownsInts_move {w w1 : World} {base : Nat} {e : TypeId} {q : IntKind} {v : Value} {zs : List Int} (h : w.ownsInts base e q v zs) (hm : ∀ k, v.ownBlock = some k → w1.heap[k]? = w.heap[k]?) : w1.ownsInts base e q v zs := ⟨own_move h.1 hm, h.2⟩
/-- The map of rows stays where its own block and the rows' stay. -/
theorem HasRows.move {P : Program} {kt : TypeId} {w w1 : World} {base b n : Nat} {G : Int → List Int} (h : HasRows P kt w base b n G) (hb : w1.heap[b]? = w.heap[b]?) (hr : ∀ i c t f, base ≤ i → w.heap[i]? = some (.cells c t f) → w1.heap[i]? = w.heap[i]?) : HasRows P kt w1 base b n G := by
  obtain ⟨D, ⟨es, clock, hb', F, hs, rfl, hbb, hlen, hap⟩, r⟩ := h
  have hmv : ∀ v zs, w.ownsInts base kt .i64 v zs → w1.ownsInts base kt .i64 v zs := fun v zs ho => ownsInts_move ho fun k hk => by
    obtain ⟨cells, hc⟩ := own_typed ho.1 k hk
    exact hr k _ _ _ (own_base ho.1 k hk) hc
  have hst : ∀ x ∈ es.toList, ∀ z, rowElem (H := Unit) w base kt .i64 x.val = some z → rowElem w1 base kt .i64 x.val = some z := fun x hx z hz => by
    obtain ⟨zs, ho, rfl⟩ := rowElem_inv hz
    exact rowElem_mk (hmv _ _ ho)
  obtain ⟨F1, hmap, _⟩ := F.stay hst
  refine ⟨_, ⟨es, clock, hb.trans hb', F1, hs, by rw [hmap], hbb, fun x hx zs ho => ?_, hap⟩, r⟩
  obtain ⟨y, hy⟩ := F.reads x hx
  obtain ⟨z, hz, _⟩ := Go.WideElems.rd_val hy
  obtain ⟨zs0, ho0, _⟩ := rowElem_inv hz
  rw [ho.unique (hmv _ _ ho0)]
  exact hlen x hx zs0 ho0
theorem Going.iter {P : Program} {kt : TypeId} {w : World} {b r cnt : Nat} {S left : List Int} (h : Going P kt w b r S left cnt) : ∃ since seen c0, w.heap[r]? = some (.mapIter (some b) since seen c0) := by
  obtain ⟨D, n', f, ⟨es, clk, since, seen, c0, h1, h2, h3, h4, h5, _⟩, _⟩ := h
  exact ⟨since, seen, c0, h5⟩
theorem isMap_ne {w : World} {P : Program} {kt : TypeId} {b : Nat} {S : List Int} (h : IsSet P kt w b S) : ∀ c t f, w.heap[b]? ≠ some (.cells c t f) := fun c t f e => by
  obtain ⟨es, cl, hb⟩ := h.block
  rw [hb] at e
  cases e
/-- All that a spreader's world is. -/
structure SpW (w : World) (g : Nat) (lv : Value) (bi bs bw base n : Nat) (G : Int → List Int) (S W : List Int) : Prop where
  blk : SpBlk w g lv bi bs bw
  rows : HasRows Tryd.prog 3 w base bi n G
  is_ : IsSet Tryd.prog 3 w bs S
  wt : IsSet Tryd.prog 3 w bw W
  ne : bs ≠ bw
  nis : bi ≠ bs
  niw : bi ≠ bw
theorem SpW.g_ne {w : World} {g : Nat} {lv : Value} {bi bs bw base n : Nat} {G : Int → List Int} {S W : List Int} (h : SpW w g lv bi bs bw base n G S W) : g ≠ bs ∧ g ≠ bw := by
  obtain ⟨es, cl, hb⟩ := h.is_.block
  obtain ⟨es', cl', hb'⟩ := h.wt.block
  exact ⟨h.blk.ne_map hb, h.blk.ne_map hb'⟩
/-- Other sets in the two blocks. -/
theorem SpW.turn {w w1 : World} {g : Nat} {lv : Value} {bi bs bw base n : Nat} {G : Int → List Int} {S W S1 W1 : List Int} (h : SpW w g lv bi bs bw base n G S W) (hS : IsSet Tryd.prog 3 w1 bs S1) (hW : IsSet Tryd.prog 3 w1 bw W1)
    (hf : ∀ i, i < w.heap.size → i ≠ bs → i ≠ bw → (∀ b s e c, w.heap[i]? ≠ some (.mapIter b s e c)) → w1.heap[i]? = w.heap[i]?) : SpW w1 g lv bi bs bw base n G S1 W1 := by
  have hg := h.g_ne
  refine ⟨h.blk.at_ (hf g h.blk.lt hg.1 hg.2 fun _ _ _ _ e => ?_), h.rows.move (hf bi h.rows.lt h.nis h.niw fun _ _ _ _ e => ?_) (fun i c t f _ he => hf i (lt_of_block he) (fun e => ?_) (fun e => ?_) fun _ _ _ _ e => ?_), hS, hW, h.ne, h.nis, h.niw⟩
  · have := h.blk
    unfold SpBlk at this
    rw [this] at e
    cases e
  · obtain ⟨es, cl, hb⟩ := h.rows.block
    rw [hb] at e
    cases e
  · subst e; exact isMap_ne h.is_ _ _ _ he
  · subst e; exact isMap_ne h.wt _ _ _ he
  · rw [he] at e; cases e
def Sp2 (bs bw : Nat) (i : Nat) : Prop := i = bs ∨ i = bw
/-- A list of clauses that came in: its rows. -/
theorem rows_at {w : World} {A : Option Addr} {n : Nat} {l : List (List Int)} (h : Kd.C (Kd.slice 3 (Kd.int .i64)) w A n l) {m : Nat} (hm : m < n) :
    ∃ ad A0 c0, A = some ad ∧ w.cell? (ad.add m) = some (.slice A0 (row l m).length c0) ∧ (row l m).length ≤ c0 ∧ (Kd.int .i64).C w A0 (row l m).length (row l m) := by
  obtain ⟨ad, c, e, _, hK, hc0⟩ := Kd.C_get h ([] : List Int) (m : Int) (by omega) (by omega)
  rw [Int.toNat_natCast] at hc0 hK
  obtain ⟨A0, c0, rfl, l0, g0⟩ := hK
  exact ⟨ad, A0, c0, e, by have hq := hc0 0 _ rfl; rwa [Nat.add_zero, show (m * (Kd.slice 3 (Kd.int .i64)).sz) = m from Nat.mul_one m] at hq, l0, g0⟩
section
variable {w : World} {g bi bs bw : Nat} {lv : Value} {S W : List Int} {A : Option Addr} {c : List Int} {cap : Nat}
theorem ask_c_none (hg : SpBlk w g lv bi bs bw) (hS : IsSet Tryd.prog 3 w bs S) (hW : IsSet Tryd.prog 3 w bw W) (hne : bs ≠ bw)
    (hlS : S.length < 9223372036854775807) (hlW : W.length < 9223372036854775807) (hWS : ∀ x ∈ W, x ∈ S) (hc : Lits c) (hC : Kd.C (Kd.int .i64) w A c.length c) (hcap : c.length ≤ cap) (hlen : c.length ≤ 9223372036854775807) (h : askLoop S 0 c = none) :
    Calls Tryd.prog 32 #[.pointer (some ⟨g, 0, none⟩), .slice A c.length cap] w fun e w' => e = .returned (.bool true) ∧ w' = w :=
  (ask_calls hg hS hW hne hlS hlW hWS hc hC hcap hlen).mono fun e w' hp => by
    rcases hp with ⟨_, h1, h2⟩ | ⟨h', _⟩ | ⟨z, _, h', _⟩
    · exact ⟨h1, h2⟩
    · rw [h] at h'; cases h'
    · rw [h] at h'; cases h'
theorem ask_c_zero (hg : SpBlk w g lv bi bs bw) (hS : IsSet Tryd.prog 3 w bs S) (hW : IsSet Tryd.prog 3 w bw W) (hne : bs ≠ bw)
    (hlS : S.length < 9223372036854775807) (hlW : W.length < 9223372036854775807) (hWS : ∀ x ∈ W, x ∈ S) (hc : Lits c) (hC : Kd.C (Kd.int .i64) w A c.length c) (hcap : c.length ≤ cap) (hlen : c.length ≤ 9223372036854775807) (h : askLoop S 0 c = some 0) :
    Calls Tryd.prog 32 #[.pointer (some ⟨g, 0, none⟩), .slice A c.length cap] w fun e w' => e = .returned (.bool false) ∧ w' = w :=
  (ask_calls hg hS hW hne hlS hlW hWS hc hC hcap hlen).mono fun e w' hp => by
    rcases hp with ⟨h', _⟩ | ⟨_, h1, h2⟩ | ⟨z, hz, h', _⟩
    · rw [h] at h'; cases h'
    · exact ⟨h1, h2⟩
    · rw [h] at h'; exact absurd (by simpa using h'.symm) hz
theorem ask_c_one {z : Int} (hg : SpBlk w g lv bi bs bw) (hS : IsSet Tryd.prog 3 w bs S) (hW : IsSet Tryd.prog 3 w bw W) (hne : bs ≠ bw)
    (hlS : S.length < 9223372036854775807) (hlW : W.length < 9223372036854775807) (hWS : ∀ x ∈ W, x ∈ S) (hc : Lits c) (hC : Kd.C (Kd.int .i64) w A c.length c) (hcap : c.length ≤ cap) (hlen : c.length ≤ 9223372036854775807) (h : askLoop S 0 c = some z) (hz : z ≠ 0) :
    Calls Tryd.prog 32 #[.pointer (some ⟨g, 0, none⟩), .slice A c.length cap] w fun e w' => e = .returned (.bool true) ∧ (IsSet Tryd.prog 3 w' bs (z :: S) ∧ IsSet Tryd.prog 3 w' bw (z :: W) ∧ Fr w w' (Sp2 bs bw)) :=
  (ask_calls hg hS hW hne hlS hlW hWS hc hC hcap hlen).mono fun e w' hp => by
    rcases hp with ⟨h', _⟩ | ⟨h', _⟩ | ⟨z', _, h', h1, h2⟩
    · rw [h] at h'; cases h'
    · rw [h] at h'; exact absurd (by simpa using h') hz
    · rw [h] at h'
      cases h'
      exact ⟨h1, h2⟩
end
/-- What a call of 'run' comes to. -/
def RunPost (l : List (List Int)) (fr : List Int) (bs bw : Nat) (w : World) (e : Ending) (w' : World) : Prop :=
  Fr w w' (Sp2 bs bw) ∧ ((Fails l fr ∧ e = .returned (.bool false)) ∨ (¬ Fails l fr ∧ e = .returned (.bool true) ∧ ∃ S, IsSet Tryd.prog 3 w' bs S ∧ S.Nodup ∧ Apart S ∧ Lits S ∧ ∀ x, x ∈ S ↔ Der l fr x))
set_option maxRecDepth 100000 in
set_option maxHeartbeats 4000000 in
theorem run_calls {w0 w : World} {g bi bs bw base n : Nat} {A : Option Addr} {cap : Nat} {l : List (List Int)} {fr S W : List Int} (h : SpW w g (.slice A l.length cap) bi bs bw base n (inOf l) S W) (hn : n < 4611686018427387904) (hR : RInv l fr S W [] fr.length l.length)
    (hC : Kd.C (Kd.slice 3 (Kd.int .i64)) w0 A l.length l) (hcap : l.length ≤ cap) (h0 : Below w0.heap.size w0 w) (hb1 : w0.heap.size ≤ bs) (hb2 : w0.heap.size ≤ bw) (hl : lRight l = true)
    (hsz : fr.length + total l < 4611686018427387904) (hll : l.length < 4611686018427387904) (hcl : ∀ c ∈ l, c.length < 4611686018427387904) :
    Calls Tryd.prog 33 #[.pointer (some ⟨g, 0, none⟩)] w (RunPost l fr bs bw w) := by
  have HSW := Aside0.mk h
  have HRI := Aside0.mk hR
  have HC := Aside0.mk hC
  have H0 := Aside0.mk h0
  have HL := Aside0.mk hl
  have HCL := Aside0.mk hcl
  clear h hR hC h0 hl hcl
  go_enter Tryd.func33, Tryd.ntmps33
  go_wp2
  go_loopg [3] (2 * (fr.length + total l - S.length) + W.length) (fun kq v3 wr => ∃ S W : List Int, Aside0 (SpW wr g (.slice A l.length cap) bi bs bw base n (inOf l) S W) ∧ Aside0 (RInv l fr S W [] fr.length l.length) ∧ Aside0 (Fr w wr (Sp2 bs bw)) ∧ Aside0 (2 * (fr.length + total l - S.length) + W.length ≤ kq))
  case atStart => exact ⟨S, W, HSW, HRI, ⟨Fr.refl _ _⟩, ⟨Nat.le_refl _⟩⟩
  case round =>
    obtain ⟨S, W, hsw, hri, hfr, hk⟩ := hrel
    have hc3 := hsw.out.blk.c3
    have hlen := hsw.out.wt.len im
    by_cases hW : W = []
    · subst hW
      simp only [List.length_nil] at hlen
      have hend := Lib.hid hri.out.end_
      go_wp2
      go_ret
      exact ⟨hfr.out, .inr ⟨hend.out.1, rfl, S, hsw.out.is_, hri.out.ndS, hri.out.way.apart, hri.out.lit, hend.out.2⟩⟩
    · have hpos : 0 < W.length := List.length_pos_iff.2 hW
      have hposB : decide ((W.length : Int) > 0) = true := by simp; omega
      have hposC : decide (0 < (W.length : Int)) = true := by simp; omega
      have hposD : (0 : Int) < (W.length : Int) := by omega
      have hWf : ∀ x ∈ W, wfI x := fun x hx => by have := hri.out.lit x (hri.out.sub x hx); exact wf_lit this.1 this.2.1
      have HWf := Aside0.mk hWf
      have HW := Aside0.mk hW
      clear hWf hW
      go_wp2_with (first
        | (at_range; refine set_range im rfl _ rfl rfl hsw.out.wt hri.out.nd HWf.out ?_; intro w1 cnt hgo hgr hs1)
        | go_in)
      go_frame
      have hf1 : ∀ i, i < wr.heap.size → w1.heap[i]? = wr.heap[i]? := fun i hi => hgr.block i hi (by simp)
      have hsw1 := hsw.out.turn (hsw.out.is_.at_ (hf1 _ hsw.out.is_.lt)) (hsw.out.wt.at_ (hf1 _ hsw.out.wt.lt)) (fun i hi _ _ _ => hf1 i hi)
      have hfr1 := Aside0.mk (hfr.out.then_ (Fr.of_grown (S := fun _ => False) hgr (by simp)) (by simp))
      have HSW1 := Aside0.mk hsw1
      have HGO := Aside0.mk hgo
      have hgoI := Aside0.mk hgo.iter
      have hsz1 : wr.heap.size < w1.heap.size := by omega
      have hszr : w.heap.size ≤ wr.heap.size := hfr.out.size
      have hglt : g < wr.heap.size := hsw.out.blk.lt
      have hslt : bs < wr.heap.size := hsw.out.is_.lt
      clear hf1 hsw1 hgo hgr hs1 hsw hfr hlen
      refine wp_loop_rounds 1 ?_
      rw [rounds_succ]
      go_wp2_with (first
        | (at_next; refine set_next im rfl _ rfl rfl HGO.out ?_ ?_)
        | go_in)
      · intro he
        exact absurd he HW.out
      · intro x c w2 cnt2 hxW hxwf hgo2 _ hg2 hs2 hen
        have hS2 : IsSet Tryd.prog 3 w2 bs S := HSW1.out.is_.at_ (hg2.block bs HSW1.out.is_.lt fun e => by injection e; omega)
        have hsw2 := HSW1.out.turn hS2 hgo2.set fun i hi h1 h2 h3 => hg2.block i hi fun e => by
          obtain ⟨since, seen, c0, hb⟩ := hgoI.out
          cases e
          exact h3 _ _ _ _ hb
        have hfr2 := hfr1.out.then_ (Fr.of_grown (S := fun i => i = wr.heap.size) hg2 (fun j e _ => by cases e; rfl)) (fun i e => .inr (by omega))
        have hc3' := hsw2.blk.c3
        have hxb := hri.out.lit x (hri.out.sub x hxW)
        have HSW2 := Aside0.mk hsw2
        have HFR2 := Aside0.mk hfr2
        have HW2 := Aside0.mk hgo2.set
        have hxm := Aside0.mk hxW
        have hxwf' := Aside0.mk hxwf
        have HSZ2 := Aside0.mk hg2.size
        clear hsw2 hfr2 hS2 hgo2 hg2 hs2 hxW hxwf HSW1 hfr1 HGO hgoI
        go_wp2_with (first
          | (at_delete; refine set_delete im rfl _ _ rfl HW2.out hri.out.nd hxwf'.out hxm.out rfl rfl ?_; intro w3 hW3 ht3; have HSW3 := Aside0.mk (HSW2.out.turn (HSW2.out.is_.at_ (turned_other ht3 HSW2.out.ne HSW2.out.is_.lt)) hW3 (fun i hi h1 h2 h3 => turned_other ht3 h2 hi)); have HFR3 := Aside0.mk (HFR2.out.then_ (Fr.of_turned (S := fun i => i = bw) ht3 rfl) (fun i e => .inl (.inr e))); have hc1' := HSW3.out.blk.c1; obtain ⟨v, hrun, hoi, hvl, _⟩ := HSW3.out.rows.look gm (by unfold maxLen; omega) (x := -x) (wf_lit (by omega) (by omega)); obtain ⟨Av, cv, rfl, hrv⟩ := own_reads (k := .i64) hoi.1; have HRV := Aside0.mk hoi; have HRI3 := Aside0.mk (hri.out.pop hxm.out); have hsz3 := Aside0.mk (Nat.lt_of_lt_of_le hsz1 (Nat.le_trans HSZ2.out ht3.grown.size)); have hri0 := hri; clear hW3 ht3 hoi hrv hri)
          | go_in)
        have hszw : W.length ≤ S.length := hri0.out.sizeW
        have hszs : S.length ≤ fr.length + total l := hri0.out.size
        have hera : (W.erase x).length + 1 = W.length := by have := List.length_erase_of_mem hxm.out; omega
        have HERA := Lib.hid hera
        have hw3 : wr.heap.size < w3.heap.size := hsz3.out
        clear hera hc3 hc3' hc1' hposB hposC hposD hrun hri0
        go_loopw [34] (fun v34 w4 => ∃ (i : Nat) (S' W' : List Int), v34 = .int .i64 i ∧ Aside0 (i ≤ (inOf l (-x)).length) ∧ Aside0 (SpW w4 g (.slice A l.length cap) bi bs bw base n (inOf l) S' W') ∧ Aside0 (RInv l fr S' W' ((inOf l (-x)).drop i) fr.length l.length) ∧ Aside0 (Fr w w4 (Sp2 bs bw)) ∧
            Aside0 (2 * (fr.length + total l - S'.length) + W'.length ≤ 2 * (fr.length + total l - S.length) + (W.erase x).length) ∧ Aside0 (w4.ownsInts base 3 .i64 (.slice Av (inOf l (-x)).length cv) (inOf l (-x))))
          (fun i _ => (inOf l (-x)).length - (intOf i).toNat)
        case atStart => exact ⟨0, S, W.erase x, rfl, ⟨Nat.zero_le _⟩, HSW3, HRI3, HFR3, ⟨Nat.le_refl _⟩, HRV⟩
        case round =>
          clear HSW3 HFR3 HRV HRI3
          obtain ⟨i, S', W', rfl, hi, hsw, hri, hfr, hm, hrv⟩ := hrel
          have hi := hi.out
          by_cases hlt : i < (inOf l (-x)).length
          · obtain ⟨m, hml, hz, hxm'⟩ := mem_inOf.1 (rd_mem hlt)
            have hdrop := ask_drop hlt
            rw [hz] at hdrop
            obtain ⟨ad, e, hcell⟩ := (own_reads' (k := .i64) hrv.out.1).at_ (i : Int) (by omega) (by omega)
            cases e
            rw [Int.toNat_natCast, hz] at hcell
            have hB4 := hfr.out.below H0.out H0.out.size (fun j hj => by rcases hj with rfl | rfl <;> assumption)
            obtain ⟨ad', A0, c0, e, hcell', hlc, hrow⟩ := rows_at (Kd.C_below HC.out hB4) hml
            cases e
            have hc0 := hsw.out.blk.c0
            have hri1 : RInv l fr S' W' ((m : Int) :: (inOf l (-x)).drop (i + 1)) fr.length l.length := by rw [← hdrop]; exact hri.out
            have hrm := row_mem hml
            have hlits := lits_of (cRight_of HL.out hrm)
            have hcl := HCL.out _ hrm
            have hs1 := hri1.size
            have hs2 := hri1.sizeW
            have h0s : ∀ z ∈ row l m, z ≠ 0 := fun z hz => (hlits z hz).2.2
            have hmB : (m : Int) < (l.length : Int) := by omega
            have hmB0 : (0 : Int) ≤ (m : Int) := by omega
            cases hask : askLoop S' 0 (row l m) with
            | none =>
              have HCON := Lib.hid (ask_c_none hsw.out.blk hsw.out.is_ hsw.out.wt hsw.out.ne (by omega) (by omega) hri1.sub hlits hrow hlc (by omega) hask)
              have HR1 := Aside0.mk (hri1.again (ask_none h0s hask))
              clear hdrop hz hlits hcl h0s hri1 hri hrow hask hs1 hs2 hB4
              go_wp2_with (go_at_call 32; refine (HCON.out).mono ?_; rintro e w' ⟨rfl, rfl⟩)
              go_roundw
              case rel => exact ⟨i + 1, S', W', by go_num, ⟨hlt⟩, hsw, HR1, hfr, hm, hrv⟩
              case measure => simp [intOf]; omega
            | some z =>
              by_cases hz0 : z = 0
              · subst hz0
                have HCON := Lib.hid (ask_c_zero hsw.out.blk hsw.out.is_ hsw.out.wt hsw.out.ne (by omega) (by omega) hri1.sub hlits hrow hlc (by omega) hask)
                have hend := Lib.hid (hri1.fails hrm (ask_zero h0s hask))
                clear hdrop hz hlits hcl h0s hri1 hri hrow hask hs1 hs2 hB4
                go_wp2_with (go_at_call 32; refine (HCON.out).mono ?_; rintro e w' ⟨rfl, rfl⟩)
                go_ret
                exact ⟨hfr.out, .inl ⟨hend.out, rfl⟩⟩
              · obtain ⟨z1, z2, z3, z4⟩ := ask_one h0s hask hz0
                have hzb := hlits z z1
                have HCON := Lib.hid (ask_c_one hsw.out.blk hsw.out.is_ hsw.out.wt hsw.out.ne (by omega) (by omega) hri1.sub hlits hrow hlc (by omega) hask hz0)
                have hri2 := hri1.more (hri1.unit hrm z1 z4) hz0 z2 z3 ⟨hzb.1, hzb.2.1⟩ (.inr ⟨_, hrm, z1⟩)
                have hss := hri2.size
                simp only [List.length_cons] at hss
                have HR1 := Aside0.mk (hri2.again (.inl ⟨z, z1, by simp⟩))
                clear hdrop hz hlits hcl h0s hri1 hri hrow hask hs1 hs2 hB4 hri2 z1 z2 z3 z4 hz0 hzb
                go_wp2_with (go_at_call 32; refine (HCON.out).mono ?_; rintro e w' ⟨rfl, hS', hW', hf'⟩; have HQ := Aside0.mk (And.intro hS' (And.intro hW' hf')); clear hS' hW' hf')
                go_roundw
                case rel =>
                  refine ⟨i + 1, z :: S', z :: W', by go_num, ⟨hlt⟩, ⟨hsw.out.turn HQ.out.1 HQ.out.2.1 (fun j hj h1 h2 _ => HQ.out.2.2.block j hj (fun h => by rcases h with h | h; exact h1 h; exact h2 h))⟩, HR1, ⟨hfr.out.trans HQ.out.2.2⟩, ⟨?_⟩, ⟨ownsInts_move hrv.out fun j hj => ?_⟩⟩
                  · have := hm.out; simp only [List.length_cons]; omega
                  · obtain ⟨cells, hcj⟩ := own_typed hrv.out.1 j hj
                    refine HQ.out.2.2.block j (lt_of_block hcj) fun h => ?_
                    rcases h with h | h
                    · subst h; exact isMap_ne hsw.out.is_ _ _ _ hcj
                    · subst h; exact isMap_ne hsw.out.wt _ _ _ hcj
                case measure => simp [intOf]; omega
          · have hi' : i = (inOf l (-x)).length := by omega
            subst hi'
            go_wp2
            go_roundg (2 * (fr.length + total l - S'.length) + W'.length)
            case measure => have := hm.out; have := hk.out; have := HERA.out; omega
            case rel => exact ⟨S', W', hsw, ⟨by have := hri.out; rw [List.drop_length] at this; exact this⟩, hfr, ⟨Nat.le_refl _⟩⟩
end Go.Proofs.YtnknoaolbjofiaaDoor.Cl
end
section
namespace Go.Proofs
open Go.Shelf
def Tryd.lays122_ren : Go.Shelf.Ren := ⟨fun | 122 => 53 | 215 => 63 | n => n, fun | 3 => 3 | 4 => 4 | n => n, fun | n => n⟩
theorem Tryd.lays122 : Go.Proofs.Lays.n122 Tryd.prog Tryd.lays122_ren := {
  mixed := by kernel_rfl
  f122 := Tryd.func53.trans (congrArg some (by kernel_rfl))
  f215 := Tryd.func63.trans (congrArg some (by kernel_rfl))
  t3 := Tryd.underlying3
  a3 := Tryd.isAgg3
  z3 := Tryd.sizeOf3
  v3 := Tryd.zeroValue3
  t4 := Tryd.underlying4
  a4 := Tryd.isAgg4
  z4 := Tryd.sizeOf4
  v4 := Tryd.zeroValue4 }
open Go.RowKit in
/-- cmp.Compare at int: "Compare returns -1 if x is less than y, 0 if x equals y, +1 if x is greater than y.": IT RETURNS 'Lib.compareInt x y'; the world is as it was. (LAID: no walk: one application.) -/
theorem Tryd.cmp_Compare_int (x y : Int) (w : World) :
    Calls Tryd.prog 53 #[.int .i64 x, .int .i64 y] w fun e w' => e = .returned (.int .i64 (Lib.compareInt x y)) ∧ w' = w := Any.cmp_Compare_int Tryd.lays122 x y w
def Tryd.laysSlF6_f51_ren : Go.Shelf.Ren := ⟨fun | 6 => 51 | 15 => 62 | 14 => 61 | 28 => 79 | 29 => 80 | 20 => 71 | 21 => 72 | 22 => 73 | 23 => 74 | 24 => 75 | 25 => 76 | 26 => 77 | 27 => 78 | 46 => 91 | 47 => 92 | 48 => 93 | 49 => 94 | 50 => 95 | 57 => 110 | n => n, fun | 22 => 23 | 24 => 3 | 25 => 81 | 3 => 3 | 39 => 91 | 0 => 0 | 53 => 107 | 55 => 84 | 4 => 4 | 46 => 101 | 45 => 100 | 50 => 79 | 5 => 5 | 9 => 9 | 66 => 118 | 70 => 122 | 76 => 133 | 77 => 134 | n => n, fun | n => n⟩
theorem Tryd.laysSlF6_f51 : Go.Proofs.SlLaysF.n6 Tryd.prog Tryd.laysSlF6_f51_ren := {
  mixed := by kernel_rfl
  f6 := ⟨Tryd.f51.name, by decide, Tryd.func51.trans (congrArg some (by kernel_rfl))⟩
  f14 := ⟨Tryd.f61.name, by decide, Tryd.func61.trans (congrArg some (by kernel_rfl))⟩
  f15 := Tryd.func62.trans (congrArg some (by kernel_rfl))
  f20 := ⟨Tryd.f71.name, by decide, Tryd.func71.trans (congrArg some (by kernel_rfl))⟩
  f21 := ⟨Tryd.f72.name, by decide, Tryd.func72.trans (congrArg some (by kernel_rfl))⟩
  f22 := ⟨Tryd.f73.name, by decide, Tryd.func73.trans (congrArg some (by kernel_rfl))⟩
  f23 := ⟨Tryd.f74.name, by decide, Tryd.func74.trans (congrArg some (by kernel_rfl))⟩
  f24 := ⟨Tryd.f75.name, by decide, Tryd.func75.trans (congrArg some (by kernel_rfl))⟩
  f25 := ⟨Tryd.f76.name, by decide, Tryd.func76.trans (congrArg some (by kernel_rfl))⟩
  f26 := ⟨Tryd.f77.name, by decide, Tryd.func77.trans (congrArg some (by kernel_rfl))⟩
  f27 := ⟨Tryd.f78.name, by decide, Tryd.func78.trans (congrArg some (by kernel_rfl))⟩
  f28 := Tryd.func79.trans (congrArg some (by kernel_rfl))
  f29 := Tryd.func80.trans (congrArg some (by kernel_rfl))
  f46 := ⟨Tryd.f91.name, by decide, Tryd.func91.trans (congrArg some (by kernel_rfl))⟩
  f47 := Tryd.func92.trans (congrArg some (by kernel_rfl))
  f48 := Tryd.func93.trans (congrArg some (by kernel_rfl))
  f49 := ⟨Tryd.f94.name, by decide, Tryd.func94.trans (congrArg some (by kernel_rfl))⟩
  f50 := ⟨Tryd.f95.name, by decide, Tryd.func95.trans (congrArg some (by kernel_rfl))⟩
  f57 := ⟨Tryd.f110.name, by decide, Tryd.func110.trans (congrArg some (by kernel_rfl))⟩
  t0 := Tryd.underlying0
  a0 := Tryd.isAgg0
  z0 := Tryd.sizeOf0
  v0 := Tryd.zeroValue0
  t3 := Tryd.underlying3
  a3 := Tryd.isAgg3
  z3 := Tryd.sizeOf3
  v3 := Tryd.zeroValue3
  t4 := Tryd.underlying4
  a4 := Tryd.isAgg4
  z4 := Tryd.sizeOf4
  v4 := Tryd.zeroValue4
  t5 := Tryd.underlying5
  a5 := Tryd.isAgg5
  z5 := Tryd.sizeOf5
  v5 := Tryd.zeroValue5
  t9 := Tryd.underlying9
  a9 := Tryd.isAgg9
  z9 := Tryd.sizeOf9
  v9 := Tryd.zeroValue9
  t22 := Tryd.underlying23
  a22 := Tryd.isAgg23
  z22 := Tryd.sizeOf23
  v22 := Tryd.zeroValue23
  a24 := Tryd.isAgg3
  z24 := Tryd.sizeOf3
  t25 := Tryd.underlying81
  a25 := Tryd.isAgg81
  z25 := Tryd.sizeOf81
  v25 := Tryd.zeroValue81
  t39 := Tryd.underlying91
  a39 := Tryd.isAgg91
  z39 := Tryd.sizeOf91
  v39 := Tryd.zeroValue91
  t45 := Tryd.underlying100
  a45 := Tryd.isAgg100
  z45 := Tryd.sizeOf100
  v45 := Tryd.zeroValue100
  t46 := Tryd.underlying101
  a46 := Tryd.isAgg101
  z46 := Tryd.sizeOf101
  v46 := Tryd.zeroValue101
  t50 := Tryd.underlying79
  a50 := Tryd.isAgg79
  z50 := Tryd.sizeOf79
  v50 := Tryd.zeroValue79
  t53 := Tryd.underlying107
  a53 := Tryd.isAgg107
  z53 := Tryd.sizeOf107
  v53 := Tryd.zeroValue107
  t55 := Tryd.underlying84
  a55 := Tryd.isAgg84
  z55 := Tryd.sizeOf84
  v55 := Tryd.zeroValue84
  t66 := Tryd.underlying118
  a66 := Tryd.isAgg118
  z66 := Tryd.sizeOf118
  v66 := Tryd.zeroValue118
  t70 := Tryd.underlying122
  a70 := Tryd.isAgg122
  z70 := Tryd.sizeOf122
  v70 := Tryd.zeroValue122
  t76 := Tryd.underlying133
  a76 := Tryd.isAgg133
  z76 := Tryd.sizeOf133
  v76 := Tryd.zeroValue133
  t77 := Tryd.underlying134
  a77 := Tryd.isAgg134
  z77 := Tryd.sizeOf134
  v77 := Tryd.zeroValue134 }
open Go.RowKit Go.Lib Go.Sort in
/-- **slices.SortFunc, IN THE DOCUMENTATION's OWN TERMS: A PERMUTATION OF WHAT THE ROW HELD, SORTED BY 'cmp(a, b) < 0'.** Which of two equals comes first is left open ("The sort is not guaranteed to be stable"). (LAID AT THE INSTANCE 'slices.SortFunc[[]int,int]': no walk: one application.) -/
theorem Tryd.slices_SortFunc {α : Type} [Inhabited α] (enc : α → Value) (h1 : OneCell enc) (cf : α → α → Int) (hO : SWO (ltOf cf)) (g : Nat) (cb : Array Value) (blk off cap : Nat) (d : Array α) (w : World) (eg : ∀ args w, (callFunc g args).run Tryd.prog w = .ok (.enter g args) w) (hcmp : CmpLays1 Tryd.prog g cb enc cf blk off d.size w) (hH : Holds enc w blk off d) (hblk : blk < w.heap.size) (hsz : d.size < 4611686018427387904) :
    Calls Tryd.prog 51 #[.slice (some ⟨blk, off, none⟩) d.size cap, .func (.func g) #[] cb] w fun e w' =>
      e = .returned (.tuple #[]) ∧ ∃ d' n os, PermIn 0 d.size d d' ∧ SortedIn (ltOf cf) 0 d.size d' ∧ w' = sortWorld enc w blk off n d' os := Any.slices_SortFunc Tryd.laysSlF6_f51 enc h1 cf hO g cb blk off cap d w eg hcmp hH hblk hsz
def Tryd.laysSlF06_f51_ren : Go.Shelf.Ren := ⟨fun | 6 => 51 | 15 => 62 | 14 => 61 | 28 => 79 | 29 => 80 | 20 => 71 | 21 => 72 | 22 => 73 | 23 => 74 | 24 => 75 | 25 => 76 | 26 => 77 | 27 => 78 | 46 => 91 | 47 => 92 | 48 => 93 | 49 => 94 | 50 => 95 | 57 => 110 | n => n, fun | 22 => 23 | 24 => 3 | 25 => 81 | 3 => 3 | 39 => 91 | 0 => 0 | 53 => 107 | 55 => 84 | 4 => 4 | 46 => 101 | 45 => 100 | 50 => 79 | 5 => 5 | 9 => 9 | 66 => 118 | 70 => 122 | 76 => 133 | 77 => 134 | n => n, fun | n => n⟩
theorem Tryd.laysSlF06_f51 : Go.Proofs.SlLaysF0.n6 Tryd.prog Tryd.laysSlF06_f51_ren := {
  mixed := by kernel_rfl
  f6 := ⟨Tryd.f51.name, by decide, Tryd.func51.trans (congrArg some (by kernel_rfl))⟩
  f14 := ⟨Tryd.f61.name, by decide, Tryd.func61.trans (congrArg some (by kernel_rfl))⟩
  f15 := Tryd.func62.trans (congrArg some (by kernel_rfl))
  f20 := ⟨Tryd.f71.name, by decide, Tryd.func71.trans (congrArg some (by kernel_rfl))⟩
  f21 := ⟨Tryd.f72.name, by decide, Tryd.func72.trans (congrArg some (by kernel_rfl))⟩
  f22 := ⟨Tryd.f73.name, by decide, Tryd.func73.trans (congrArg some (by kernel_rfl))⟩
  f23 := ⟨Tryd.f74.name, by decide, Tryd.func74.trans (congrArg some (by kernel_rfl))⟩
  f24 := ⟨Tryd.f75.name, by decide, Tryd.func75.trans (congrArg some (by kernel_rfl))⟩
  f25 := ⟨Tryd.f76.name, by decide, Tryd.func76.trans (congrArg some (by kernel_rfl))⟩
  f26 := ⟨Tryd.f77.name, by decide, Tryd.func77.trans (congrArg some (by kernel_rfl))⟩
  f27 := ⟨Tryd.f78.name, by decide, Tryd.func78.trans (congrArg some (by kernel_rfl))⟩
  f28 := Tryd.func79.trans (congrArg some (by kernel_rfl))
  f29 := Tryd.func80.trans (congrArg some (by kernel_rfl))
  f46 := ⟨Tryd.f91.name, by decide, Tryd.func91.trans (congrArg some (by kernel_rfl))⟩
  f47 := Tryd.func92.trans (congrArg some (by kernel_rfl))
  f48 := Tryd.func93.trans (congrArg some (by kernel_rfl))
  f49 := ⟨Tryd.f94.name, by decide, Tryd.func94.trans (congrArg some (by kernel_rfl))⟩
  f50 := ⟨Tryd.f95.name, by decide, Tryd.func95.trans (congrArg some (by kernel_rfl))⟩
  f57 := ⟨Tryd.f110.name, by decide, Tryd.func110.trans (congrArg some (by kernel_rfl))⟩
  t0 := Tryd.underlying0
  a0 := Tryd.isAgg0
  z0 := Tryd.sizeOf0
  v0 := Tryd.zeroValue0
  t3 := Tryd.underlying3
  a3 := Tryd.isAgg3
  z3 := Tryd.sizeOf3
  v3 := Tryd.zeroValue3
  t4 := Tryd.underlying4
  a4 := Tryd.isAgg4
  z4 := Tryd.sizeOf4
  v4 := Tryd.zeroValue4
  t5 := Tryd.underlying5
  a5 := Tryd.isAgg5
  z5 := Tryd.sizeOf5
  v5 := Tryd.zeroValue5
  t9 := Tryd.underlying9
  a9 := Tryd.isAgg9
  z9 := Tryd.sizeOf9
  v9 := Tryd.zeroValue9
  t22 := Tryd.underlying23
  a22 := Tryd.isAgg23
  z22 := Tryd.sizeOf23
  v22 := Tryd.zeroValue23
  t25 := Tryd.underlying81
  a25 := Tryd.isAgg81
  z25 := Tryd.sizeOf81
  v25 := Tryd.zeroValue81
  t39 := Tryd.underlying91
  a39 := Tryd.isAgg91
  z39 := Tryd.sizeOf91
  v39 := Tryd.zeroValue91
  t45 := Tryd.underlying100
  a45 := Tryd.isAgg100
  z45 := Tryd.sizeOf100
  v45 := Tryd.zeroValue100
  t46 := Tryd.underlying101
  a46 := Tryd.isAgg101
  z46 := Tryd.sizeOf101
  v46 := Tryd.zeroValue101
  t50 := Tryd.underlying79
  a50 := Tryd.isAgg79
  z50 := Tryd.sizeOf79
  v50 := Tryd.zeroValue79
  t53 := Tryd.underlying107
  a53 := Tryd.isAgg107
  z53 := Tryd.sizeOf107
  v53 := Tryd.zeroValue107
  t55 := Tryd.underlying84
  a55 := Tryd.isAgg84
  z55 := Tryd.sizeOf84
  v55 := Tryd.zeroValue84
  t66 := Tryd.underlying118
  a66 := Tryd.isAgg118
  z66 := Tryd.sizeOf118
  v66 := Tryd.zeroValue118
  t70 := Tryd.underlying122
  a70 := Tryd.isAgg122
  z70 := Tryd.sizeOf122
  v70 := Tryd.zeroValue122
  t76 := Tryd.underlying133
  a76 := Tryd.isAgg133
  z76 := Tryd.sizeOf133
  v76 := Tryd.zeroValue133
  t77 := Tryd.underlying134
  a77 := Tryd.isAgg134
  z77 := Tryd.sizeOf134
  v77 := Tryd.zeroValue134 }
open Go.RowKit Go.Lib Go.Sort in
/-- **slices.SortFunc AT NO ELEMENT, A nil SLICE TOO: nothing turns.** (LAID AT THE INSTANCE 'slices.SortFunc[[]int,int]': no walk: one application.) -/
theorem Tryd.slices_SortFunc_none {α : Type} [Inhabited α] (p : Option Addr) (cap : Nat) (fv : Value) (w : World) :
    Calls Tryd.prog 51 #[.slice p 0 cap, fv] w fun e w' => e = .returned (.tuple #[]) ∧ w' = w := AnyF.slices_SortFunc_none Tryd.laysSlF06_f51 p cap fv w
def Tryd.laysM171_ren : Go.Shelf.Ren := ⟨fun | 171 => 40 | 243 => 55 | 246 => 65 | 283 => 81 | 284 => 82 | 285 => 83 | 286 => 84 | 129 => 80 | 317 => 96 | 318 => 97 | 319 => 98 | 320 => 99 | 337 => 111 | 338 => 112 | n => n, fun | 3 => 3 | 9 => 9 | 2 => 2 | 4 => 4 | 171 => 109 | 0 => 0 | 53 => 84 | 37 => 63 | 5 => 5 | 173 => 111 | 212 => 125 | 51 => 107 | 20 => 20 | 213 => 126 | 46 => 91 | 232 => 148 | 233 => 149 | n => n, fun | 17 => 0 | 18 => 6 | 19 => 7 | n => n⟩
theorem Tryd.laysM171 : Go.Proofs.LaysM.n171 Tryd.prog Tryd.laysM171_ren := {
  mixed := by kernel_rfl
  f129 := Tryd.func80.trans (congrArg some (by kernel_rfl))
  f171 := Tryd.func40.trans (congrArg some (by kernel_rfl))
  f243 := Tryd.func55.trans (congrArg some (by kernel_rfl))
  f246 := Tryd.func65.trans (congrArg some (by kernel_rfl))
  f283 := Tryd.func81.trans (congrArg some (by kernel_rfl))
  f284 := Tryd.func82.trans (congrArg some (by kernel_rfl))
  f285 := Tryd.func83.trans (congrArg some (by kernel_rfl))
  f286 := Tryd.func84.trans (congrArg some (by kernel_rfl))
  f317 := Tryd.func96.trans (congrArg some (by kernel_rfl))
  f318 := Tryd.func97.trans (congrArg some (by kernel_rfl))
  f319 := Tryd.func98.trans (congrArg some (by kernel_rfl))
  f320 := Tryd.func99.trans (congrArg some (by kernel_rfl))
  f337 := Tryd.func111.trans (congrArg some (by kernel_rfl))
  f338 := Tryd.func112.trans (congrArg some (by kernel_rfl))
  t0 := Tryd.underlying0
  a0 := Tryd.isAgg0
  z0 := Tryd.sizeOf0
  v0 := Tryd.zeroValue0
  t2 := Tryd.underlying2
  a2 := Tryd.isAgg2
  z2 := Tryd.sizeOf2
  v2 := Tryd.zeroValue2
  t3 := Tryd.underlying3
  a3 := Tryd.isAgg3
  z3 := Tryd.sizeOf3
  v3 := Tryd.zeroValue3
  t4 := Tryd.underlying4
  a4 := Tryd.isAgg4
  z4 := Tryd.sizeOf4
  v4 := Tryd.zeroValue4
  t5 := Tryd.underlying5
  a5 := Tryd.isAgg5
  z5 := Tryd.sizeOf5
  v5 := Tryd.zeroValue5
  t9 := Tryd.underlying9
  a9 := Tryd.isAgg9
  z9 := Tryd.sizeOf9
  v9 := Tryd.zeroValue9
  t20 := Tryd.underlying20
  a20 := Tryd.isAgg20
  z20 := Tryd.sizeOf20
  v20 := Tryd.zeroValue20
  t37 := Tryd.underlying63
  a37 := Tryd.isAgg63
  z37 := Tryd.sizeOf63
  v37 := Tryd.zeroValue63
  t46 := Tryd.underlying91
  a46 := Tryd.isAgg91
  z46 := Tryd.sizeOf91
  v46 := Tryd.zeroValue91
  t51 := Tryd.underlying107
  a51 := Tryd.isAgg107
  z51 := Tryd.sizeOf107
  v51 := Tryd.zeroValue107
  t53 := Tryd.underlying84
  a53 := Tryd.isAgg84
  z53 := Tryd.sizeOf84
  v53 := Tryd.zeroValue84
  t171 := Tryd.underlying109
  a171 := Tryd.isAgg109
  z171 := Tryd.sizeOf109
  v171 := Tryd.zeroValue109
  t173 := Tryd.underlying111
  a173 := Tryd.isAgg111
  z173 := Tryd.sizeOf111
  v173 := Tryd.zeroValue111
  t212 := Tryd.underlying125
  a212 := Tryd.isAgg125
  z212 := Tryd.sizeOf125
  v212 := Tryd.zeroValue125
  t213 := Tryd.underlying126
  a213 := Tryd.isAgg126
  z213 := Tryd.sizeOf126
  t232 := Tryd.underlying148
  a232 := Tryd.isAgg148
  z232 := Tryd.sizeOf148
  v232 := Tryd.zeroValue148
  t233 := Tryd.underlying149
  a233 := Tryd.isAgg149
  z233 := Tryd.sizeOf149
  v233 := Tryd.zeroValue149
  g17 := by kernel_rfl
  g18 := by kernel_rfl
  g19 := by kernel_rfl
  i0 := by kernel_rfl
  i2 := by kernel_rfl
  i3 := by kernel_rfl
  i4 := by kernel_rfl
  i5 := by kernel_rfl
  i9 := by kernel_rfl
  i20 := by kernel_rfl
  i37 := by kernel_rfl
  i46 := by kernel_rfl
  i51 := by kernel_rfl
  i53 := by kernel_rfl
  i171 := by kernel_rfl
  i173 := by kernel_rfl
  i212 := by kernel_rfl
  i232 := by kernel_rfl
  i233 := by kernel_rfl
  m17 := by kernel_rfl
  m18 := by kernel_rfl
  m19 := by kernel_rfl }
open Go.RowKit Go.Sort Go.Lib in
/-- strconv.Itoa: "Itoa is equivalent to FormatInt(int64(i), 10).": i's DECIMAL NUMERAL ('Lib.itoa': a '-' where i is negative, then the digits), FOR EVERY int. The world behind the call: the world before it, new blocks behind the heap (the library's 'var a [24]byte'), draws. (LAID: no walk: one application.) -/
theorem Tryd.strconv_Itoa (n : Int) (h0 : -9223372036854775808 ≤ n) (h1 : n ≤ 9223372036854775807) (w : World) (htab : Lib.TabIs Tryd.prog w "internal/strconv.uint64pow10" .u64 Lib.pow10Tab) :
    Calls Tryd.prog 40 #[.int .i64 n] w fun e w' => e = .returned (.string ⟨(Lib.itoa n).toArray⟩) ∧ ∃ k os, w' = grow (w.drewN k) os := Any.strconv_Itoa Tryd.laysM171 n h0 h1 w htab
def Tryd.lays169_ren : Go.Shelf.Ren := ⟨fun | 169 => 41 | n => n, fun | 70 => 62 | 9 => 9 | 0 => 0 | 72 => 65 | 37 => 63 | 127 => 82 | 3 => 3 | 5 => 5 | n => n, fun | n => n⟩
theorem Tryd.lays169 : Go.Proofs.Lays.n169 Tryd.prog Tryd.lays169_ren := {
  mixed := by kernel_rfl
  f169 := Tryd.func41.trans (congrArg some (by kernel_rfl))
  t0 := Tryd.underlying0
  a0 := Tryd.isAgg0
  z0 := Tryd.sizeOf0
  v0 := Tryd.zeroValue0
  t3 := Tryd.underlying3
  a3 := Tryd.isAgg3
  z3 := Tryd.sizeOf3
  v3 := Tryd.zeroValue3
  t9 := Tryd.underlying9
  a9 := Tryd.isAgg9
  z9 := Tryd.sizeOf9
  v9 := Tryd.zeroValue9
  t37 := Tryd.underlying63
  a37 := Tryd.isAgg63
  z37 := Tryd.sizeOf63
  v37 := Tryd.zeroValue63
  t70 := Tryd.underlying62
  a70 := Tryd.isAgg62
  z70 := Tryd.sizeOf62
  v70 := Tryd.zeroValue62
  t72 := Tryd.underlying65
  a72 := Tryd.isAgg65
  z72 := Tryd.sizeOf65
  v72 := Tryd.zeroValue65
  t127 := Tryd.underlying82
  a127 := Tryd.isAgg82
  z127 := Tryd.sizeOf82
  v127 := Tryd.zeroValue82 }
theorem Tryd.Builder_Extra_169 : Builder.Extra Tryd.prog Tryd.lays169_ren := {
  sizeBuilder := by kernel_rfl
  liesBuilder := by kernel_rfl
  t5 := Tryd.underlying5
  a5 := Tryd.isAgg5
  z5 := Tryd.sizeOf5
  v5 := Tryd.zeroValue5
  infoByte := by kernel_rfl
  cellsByte := by kernel_rfl
  sizeByte := by kernel_rfl
  neB5 := by decide }
open Go.RowKit in
/-- (*strings.Builder).String: "String returns the accumulated string.": OF A BUILDER THAT HOLDS AT LEAST ONE BYTE. ✋ THE MODEL FREEZES THOSE BYTES IN THE BUFFER (unsafe.String): a later write INTO them ends the model's run without an answer; a later append BEHIND them goes on. The statement's order of evaluation is drawn: one draw. (LAID: no walk: one application.) -/
theorem Tryd.Builder_String (B b : Nat) (l : List UInt8) (w : World) (h : Lib.IsBuilder 65 5 B b (Lib.byteCells l) w) (h0 : l ≠ []) :
    Calls Tryd.prog 41 #[.pointer (some ⟨b, 0, none⟩)] w fun e w' => e = .returned (.string ⟨l.toArray⟩) ∧ Below B w w' := Any.Builder_String Tryd.lays169 Tryd.Builder_Extra_169 B b l w h h0
end Go.Proofs
end
section
set_option linter.unusedVariables false
set_option linter.unusedSimpArgs false
namespace Go.Proofs.YtnknoaolbjofiaaDoor.Cl
open Go.RowKit Go.Maps Go.Shelf Go.Lib Go.Sort Go.Proofs.YtnknoaolbjofiaaDoorW.PrintWords Go.Proofs.YtnknoaolbjofiaaDoorW.PrintLast Go.Proofs.YtnknoaolbjofiaaDoorW.PrintMore
attribute [local go_sem] max2_int min2_int max_two min_two max_three min_three max_four min_four
def vr (x : Int) : Int := mx x (wrap64 (-x))
theorem variable_any (x : Int) (w : World) : Calls Tryd.prog 35 #[.int .i64 x] w fun e w' => e = .returned (.int .i64 (vr x)) ∧ w' = w := by
  unfold vr
  go_enter Tryd.func35, Tryd.ntmps35
  go_wp2
  all_goals
    go_ret
    exact ⟨by simp only [mx] <;> first | (rw [if_pos (by assumption)]; rfl) | (rw [if_neg (by omega)]; rfl), rfl⟩
/-- How two literals are held against each other. -/
def cf (x y : Int) : Int := Lib.compareInt (vr x) (vr y)
set_option maxHeartbeats 1000000 in
theorem closure (x y : Int) (W : World) (B : Nat) (hB : W.cell? ⟨B, 0, none⟩ = some (.func (.func 35) #[] #[])) : Calls Tryd.prog 52 #[.int .i64 x, .int .i64 y, .pointer (some ⟨B, 0, none⟩)] W fun e w' => e = .returned (.int .i64 (cf x y)) ∧ ∃ q, w' = W.drewN q := by
  have hcon := Tryd.cmp_Compare_int (vr x) (vr y)
  show Calls _ _ _ _ fun e w' => e = .returned (.int .i64 (Lib.compareInt (vr x) (vr y))) ∧ _
  generalize Lib.compareInt (vr x) (vr y) = r at hcon ⊢
  have HCON := Lib.hid hcon
  clear hcon
  go_enter Tryd.func52, Tryd.ntmps52
  go_wp2
  go_quiet ((first
    | (go_at_call 35; exact Calls.quiet_of_same (variable_any _ _))
    | (go_at_call 53; exact Calls.quiet_of_same (HCON.out _))))
  go_wp2
  go_ret
  exact ⟨rfl, nq, rfl⟩
theorem vr_eq {x : Int} (h1 : -1048576 ≤ x) (h2 : x ≤ 1048576) : vr x = (x.natAbs : Int) := by
  have hw : wrap64 (-x) = -x := by unfold wrap64; omega
  unfold vr mx
  rw [hw]
  split <;> omega
theorem lt_cf (x y : Int) : ltOf cf x y = decide (vr x < vr y) := by
  unfold ltOf cf Lib.compareInt
  by_cases h1 : vr x < vr y
  · simp [h1]
  · by_cases h2 : vr y < vr x <;> simp [h1, h2]
theorem swo_cf : SWO (ltOf cf) where
  irrefl x := by rw [lt_cf]; simp
  trans x y z h1 h2 := by rw [lt_cf] at *; simp at *; omega
  ntrans x y z h1 h2 := by rw [lt_cf] at *; simp at *; omega
/-- What the sort leaves is the list by its variables. -/
theorem sorted_is {xs : List Int} {d' : Array Int} (ha : Apart xs) (hb : ∀ x ∈ xs, -1048576 ≤ x ∧ x ≤ 1048576) (hp : PermIn 0 xs.toArray.size xs.toArray d') (hs : SortedIn (ltOf cf) 0 xs.toArray.size d') : d'.toList = isort xs := by
  have hsz : d'.size = xs.length := by simpa using hp.1
  have hperm : d'.toList.Perm xs := by
    have h := hp.2.2
    simp only [Array.toList_extract, List.extract_eq_take_drop, List.drop_zero, Nat.sub_zero, List.size_toArray] at h
    rwa [List.take_of_length_le (by simp; omega), List.take_of_length_le (by simp)] at h
  have hap : Apart d'.toList := (List.Perm.pairwise_iff (fun h => Ne.symm h) hperm).2 ha
  refine up_unique _ _ ?_ (up_isort xs ha) fun x => by rw [mem_isort, hperm.mem_iff]
  refine List.pairwise_iff_getElem.2 fun i j hi hj hij => ?_
  have hi' : i < d'.size := by simpa using hi
  have hj' : j < d'.size := by simpa using hj
  have h1 := hs i j (Nat.zero_le _) hij (by simpa [← hsz] using hj')
  rw [lt_cf, getElem!_pos d' i hi', getElem!_pos d' j hj'] at h1
  have m1 := hb _ (hperm.mem_iff.1 (List.getElem_mem hi))
  have m2 := hb _ (hperm.mem_iff.1 (List.getElem_mem hj))
  have e1 : d'.toList[i] = d'[i] := by simp
  have e2 : d'.toList[j] = d'[j] := by simp
  rw [e1] at m1
  rw [e2] at m2
  rw [vr_eq m1.1 m1.2, vr_eq m2.1 m2.2] at h1
  have h2 := (List.pairwise_iff_getElem.1 hap) i j hi hj hij
  rw [e1, e2] at h2 ⊢
  simp at h1
  omega
set_option maxHeartbeats 1000000 in
theorem sorted_none (p : Option Addr) (cap : Nat) (W : World) :
    Calls Tryd.prog 34 #[.slice p 0 cap, .func (.func 35) #[] #[]] W fun e w' => e = .returned (.slice p 0 cap) ∧ W.grownBy w' none := by
  have hcon := fun fv w => Tryd.slices_SortFunc_none (α := Int) p cap fv w
  have HCON := Lib.hid hcon
  clear hcon
  go_enter Tryd.func34, Tryd.ntmps34
  go_wp2_with (go_at_call 51; refine (HCON.out _ _).mono ?_; rintro e w' ⟨rfl, rfl⟩)
  go_ret
  exact ⟨rfl, World.grownBy_alloc _ _ _⟩
set_option maxHeartbeats 2000000 in
theorem sorted_some {W : World} {base g cap : Nat} {cur : Array Value} {xs : List Int} (hbase : base ≤ g) (hb : W.heap[g]? = some (.cells cur 3 (0, 0))) (h1 : xs.length ≤ cap) (h2 : cap ≤ maxLen) (h3 : cur.size = cap * 1) (ht : cur.toList.take xs.length = xs.map (Value.int .i64))
    (ha : Apart xs) (hlit : Lits xs) (hl : xs.length < 4611686018427387904) :
    Calls Tryd.prog 34 #[.slice (some ⟨g, 0, none⟩) xs.length cap, .func (.func 35) #[] #[]] W fun e w' =>
      e = .returned (.slice (some ⟨g, 0, none⟩) xs.length cap) ∧ w'.ownsRow base 3 1 (.slice (some ⟨g, 0, none⟩) xs.length cap) xs.length ((isort xs).map (Value.int .i64)) ∧ W.grownBy w' (some g) := by
  have hglt := lt_of_block hb
  have hb1 : (W.alloc (.cells #[.func (.func 35) #[] #[]] 31)).heap[g]? = some (.cells cur 3 (0, 0)) := by
    rw [Go.RowKit.Below.heap_alloc _ _ _ hglt]; exact hb
  have hcell : (W.alloc (.cells #[.func (.func 35) #[] #[]] 31)).cell? ⟨W.heap.size, 0, none⟩ = some (.func (.func 35) #[] #[]) := by
    have : (W.alloc (.cells #[.func (.func 35) #[] #[]] 31)).heap[W.heap.size]? = some (.cells #[.func (.func 35) #[] #[]] 31 (0, 0)) := by
      show (W.heap.push _)[W.heap.size]? = _
      simp
    exact cell_of_one this
  have eg : ∀ args w, (callFunc 52 args).run Tryd.prog w = .ok (.enter 52 args) w := enters_of Tryd.func52 (by kernel_rfl) rfl
  have hcmp : CmpLays1 Tryd.prog 52 #[.pointer (some ⟨W.heap.size, 0, none⟩)] (Value.int .i64) cf g 0 xs.toArray.size (W.alloc (.cells #[.func (.func 35) #[] #[]] 31)) :=
    fun m os dk _ x y => (closure x y _ W.heap.size ((grownBy_sortedI dk).cell hcell (fun e => by injection e; simp at *; omega))).mono fun _ _ ⟨he, q, hq⟩ => ⟨he, q, #[], by rw [hq, grow_empty]; rfl⟩
  have hcon := Tryd.slices_SortFunc (Value.int .i64) (fun _ => rfl) cf swo_cf 52 #[.pointer (some ⟨W.heap.size, 0, none⟩)] g 0 cap xs.toArray (W.alloc (.cells #[.func (.func 35) #[] #[]] 31)) eg hcmp (holds_of_blockI hb1 ht) (by simp; omega) (by simpa using hl)
  have hend := fun d' n os (hp : PermIn 0 xs.toArray.size xs.toArray d') (hs : SortedIn (ltOf cf) 0 xs.toArray.size d') =>
    And.intro (ownsRow_sortedI (w := W.alloc (.cells #[.func (.func 35) #[] #[]] 31)) (n := n) (os := os) (ss := xs) (ts := d'.toList) (by simpa using hp.1) hbase hb1 h1 h2 h3)
      ((World.grownBy_alloc W (.cells #[.func (.func 35) #[] #[]] 31) (some g)).trans (grownBy_sortedI (g := g) (n := n) (os := os) d'))
  have hend2 := fun d' (hp : PermIn 0 xs.toArray.size xs.toArray d') (hs : SortedIn (ltOf cf) 0 xs.toArray.size d') => sorted_is ha (fun x hx => ⟨(hlit x hx).1, (hlit x hx).2.1⟩) hp hs
  have HEND := Lib.hid hend
  have HEND2 := Lib.hid hend2
  have HCON := Lib.hid hcon
  clear hcon hcmp hend hend2 hb hb1 hcell ha hlit ht
  go_enter Tryd.func34, Tryd.ntmps34
  go_wp2_with (go_at_call 51; refine (HCON.out).mono ?_; rintro e w' ⟨rfl, d', n, os, hp, hs, rfl⟩; have HP := Aside0.mk hp; have HS := Aside0.mk hs; clear hp hs)
  go_ret
  have h5 := HEND.out d' n os HP.out HS.out
  refine ⟨rfl, ?_, h5.2⟩
  rw [← HEND2.out d' HP.out HS.out]
  exact h5.1
/-- A row of the call's own, by its variables. -/
theorem sorted_calls {W : World} {base : Nat} {v : Value} {xs : List Int} (hown : W.ownsRow base 3 1 v xs.length (xs.map (Value.int .i64))) (ha : Apart xs) (hlit : Lits xs) (hl : xs.length < 4611686018427387904) :
    Calls Tryd.prog 34 #[v, .func (.func 35) #[] #[]] W fun e w' =>
      e = .returned v ∧ w'.ownsRow base 3 1 v xs.length ((isort xs).map (Value.int .i64)) ∧ W.grownBy w' v.ownBlock := by
  rcases hown.2 with ⟨rfl, h0⟩ | ⟨g, cap, cur, rfl, hbase, hb, h1, h2, h3, h4⟩
  · obtain rfl : xs = [] := List.eq_nil_of_length_eq_zero h0
    exact (sorted_none none 0 W).mono fun _ w' ⟨he, hg⟩ => ⟨he, ⟨rfl, .inl ⟨rfl, rfl⟩⟩, hg⟩
  · exact (sorted_some hbase hb h1 h2 h3 (by rwa [Nat.mul_one] at h4) ha hlit hl).mono fun _ w' h => h
end Go.Proofs.YtnknoaolbjofiaaDoor.Cl
end
section
set_option linter.unusedVariables false
set_option linter.unusedSimpArgs false
namespace Go.Proofs.YtnknoaolbjofiaaDoor.Cl
open Go.RowKit Go.Maps Go.Proofs.YtnknoaolbjofiaaDoorW.PrintWords Go.Proofs.YtnknoaolbjofiaaDoorW.PrintLast
theorem info3 : (Tryd.prog.info? 3).map (fun i => (i.zero, i.size, i.bytes)) = some (some (.int .i64 0), 1, 8) := by kernel_rfl
/-- What a call of 'Spread' comes to. -/
def SpreadPost (l : List (List Int)) (fr : List Int) (w : World) (e : Ending) (w' : World) : Prop :=
  ∃ v : Value, e = .returned (.tuple #[v, .bool (spread l fr).2]) ∧ Kd.R (Kd.int .i64) 3 w' w.heap.size (fun _ => True) v (spread l fr).1 ∧ Below w.heap.size w w'
theorem spreadPost_fail {l : List (List Int)} {fr : List Int} {w w' : World} (h : spread l fr = ([], false)) (hb : Below w.heap.size w w') : SpreadPost l fr w (.returned (.tuple #[.slice none 0 0, .bool false])) w' :=
  ⟨.slice none 0 0, by rw [h], by rw [h]; exact Kd.R_nil _ _ _ _ _, hb⟩
/-- One list as a list of lists. -/
theorem one_row {w : World} {A : Option Addr} {c : List Int} {cap : Nat} (h : Kd.C (Kd.int .i64) w A c.length c) (hcap : c.length ≤ cap) {b : Nat} {w1 : World} (hb : Below w.heap.size w w1) (hc : w1.cell? ⟨b, 0, none⟩ = some (.slice A c.length cap)) :
    Kd.C (Kd.slice 3 (Kd.int .i64)) w1 (some ⟨b, 0, none⟩) 1 [c] := by
  refine ⟨rfl, by omega, fun _ => ⟨_, rfl, fun j p hj => ?_⟩⟩
  have h0 : j = 0 ∧ p = c := by
    cases j with
    | zero => exact ⟨rfl, by simpa using hj.symm⟩
    | succ j => simp at hj
  obtain ⟨rfl, rfl⟩ := h0
  refine ⟨[.slice A p.length cap], rfl, ⟨A, cap, rfl, hcap, Kd.C_below h hb⟩, fun i u hi => ?_⟩
  cases i with
  | zero =>
    obtain rfl : u = .slice A p.length cap := by simpa using hi.symm
    rw [show 0 * (Kd.slice 3 (Kd.int .i64)).sz + 0 = 0 from rfl, add_plain]
    exact hc
  | succ i => simp at hi
theorem length_isort : ∀ xs : List Int, (isort xs).length = xs.length
  | [] => rfl
  | x :: r => by
    have h : ∀ l : List Int, (ins x l).length = l.length + 1 := by
      intro l
      induction l with
      | nil => rfl
      | cons y l ih =>
        unfold ins
        split
        · rfl
        · simp [ih]
    rw [isort, h, length_isort r, List.length_cons]
/-- What follows was given, or stands in a clause. -/
theorem der_src {l : List (List Int)} {fr : List Int} (h1 : lRight l = true) (h2 : cRight fr = true) {x : Int} (h : Der l fr x) : x ∈ fr ++ flat l :=
  h (fun x => x ∈ fr ++ flat l) (fun z hz => by simp [hz]) (fun c hc z hz _ => by
    exact List.mem_append.2 (.inr (mem_flat.2 ⟨c, hc, hz⟩)))
theorem inAt_next1 {l : List (List Int)} {k j : Nat} (h : j < (row l k).length) (x : Int) : inAt l k (j + 1) x = if x = rd (row l k) j then inAt l k j (rd (row l k) j) ++ [(k : Int)] else inAt l k j x := by
  rw [inAt_step h x, show rd (row l k) j = (row l k).getD j 0 by simp [rd]]
  by_cases e : x = (row l k).getD j 0
  · rw [if_pos e, if_pos e, e]
  · rw [if_neg e, if_neg e]
theorem total_snoc {l : List (List Int)} : ∀ {k : Nat}, k < l.length → total (l.take (k + 1)) = total (l.take k) + (row l k).length := by
  induction l with
  | nil => intro k h; simp at h
  | cons c l ih =>
    intro k h
    cases k with
    | zero => simp [total, row]
    | succ k =>
      have := ih (k := k) (by simpa using h)
      simp [total, row] at *
      omega
/-- The world in which a spreader has been made, and both lists have been looked at. -/
def spWorld (w : World) (lv : Value) (nd : Nat) (o : Obj) (nd2 : Nat) : World :=
  ((((((w.alloc (.map #[] 0)).alloc (.map #[] 0)).alloc (.map #[] 0)).alloc (.cells #[lv, .map (some w.heap.size), .map (some (w.heap.size + 1)), .map (some (w.heap.size + 1 + 1))] 58)).drewN nd).alloc o).drewN nd2
theorem heap_new (w : World) (o : Obj) : (w.alloc o).heap[w.heap.size]? = some o := by
  show (w.heap.push o)[w.heap.size]? = some o
  simp
theorem heap_old {w : World} {o o' : Obj} {k : Nat} (h : w.heap[k]? = some o') : (w.alloc o).heap[k]? = some o' := by
  rw [Below.heap_alloc _ _ _ (lt_of_block h)]; exact h
theorem size_alloc (w : World) (o : Obj) : (w.alloc o).heap.size = w.heap.size + 1 := by
  show (w.heap.push o).size = _
  simp
theorem spStart (w : World) (lv : Value) (nd : Nat) (o : Obj) (nd2 : Nat) : SpW (spWorld w lv nd o nd2) (w.heap.size + 1 + 1 + 1) lv w.heap.size (w.heap.size + 1) (w.heap.size + 1 + 1) (w.heap.size + 4) 0 (fun _ => []) [] [] ∧ Below w.heap.size w (spWorld w lv nd o nd2) ∧ w.heap.size + 5 ≤ (spWorld w lv nd o nd2).heap.size := by
  have hsz : (spWorld w lv nd o nd2).heap.size = w.heap.size + 5 := by
    show (World.alloc _ _).heap.size = _
    rw [size_alloc]
    show (World.alloc _ _).heap.size + 1 = _
    rw [size_alloc, size_alloc, size_alloc, size_alloc]
  have e1 := size_alloc w (.map #[] 0)
  have e2 : ((w.alloc (.map #[] 0)).alloc (.map #[] 0)).heap.size = w.heap.size + 1 + 1 := by rw [size_alloc, e1]
  have e3 : (((w.alloc (.map #[] 0)).alloc (.map #[] 0)).alloc (.map #[] 0)).heap.size = w.heap.size + 1 + 1 + 1 := by rw [size_alloc, e2]
  refine ⟨⟨?_, ?_, ?_, ?_, by omega, by omega, by omega⟩, ?_, by omega⟩
  · unfold SpBlk
    refine heap_old (w := World.drewN _ nd) ?_
    have h := heap_new (((w.alloc (.map #[] 0)).alloc (.map #[] 0)).alloc (.map #[] 0)) (.cells #[lv, .map (some w.heap.size), .map (some (w.heap.size + 1)), .map (some (w.heap.size + 1 + 1))] 58)
    rw [e3] at h
    exact h
  · exact (((((((HasRows.made w 3 (base := w.heap.size + 4) (by omega)).alloc _).alloc _).alloc _).drewN nd).alloc _).drewN nd2)
  · have h := IsSet.made (P := Tryd.prog) (kt := 3) (w.alloc (.map #[] 0))
    rw [e1] at h
    exact (((((h.alloc _).alloc _).drewN nd).alloc _).drewN nd2)
  · have h := IsSet.made (P := Tryd.prog) (kt := 3) ((w.alloc (.map #[] 0)).alloc (.map #[] 0))
    rw [e2] at h
    exact ((((h.alloc _).drewN nd).alloc _).drewN nd2)
  · unfold spWorld
    repeat (first | exact Below.refl _ _ | apply below_alloc | apply pw_below_drewN)
set_option maxRecDepth 100000 in
set_option maxHeartbeats 4000000 in
theorem spread_wrong1 (A : Option Addr) (cap : Nat) (l : List (List Int)) (B : Option Addr) (bcap : Nat) (fr : List Int) (w : World) (hC : Kd.C (Kd.slice 3 (Kd.int .i64)) w A l.length l) (hcap : l.length ≤ cap) (hF : Kd.C (Kd.int .i64) w B fr.length fr) (hbcap : fr.length ≤ bcap)
    (h : lRight l = false) : Calls Tryd.prog 12 #[.slice A l.length cap, .slice B fr.length bcap] w (SpreadPost l fr w) := by
  have HC := Aside0.mk hC
  have hpost := Lib.hid (spread_wrong (l := l) (fr := fr) (by rw [h]; rfl))
  have hcon := fun W (hb : Below w.heap.size w W) => right_calls A cap l W (Kd.C_below HC.out hb) hcap
  rw [h] at hcon
  have HCON := Lib.hid hcon
  have hmm := @run_makeMap Tryd.prog
  clear hC hF h hcon
  go_enter Tryd.func12, Tryd.ntmps12
  go_wp2_with (go_at_call 18; refine (HCON.out _ (by repeat (first | exact Below.refl _ _ | apply below_alloc))).mono ?_; rintro e w' ⟨rfl, nd, rfl⟩)
  go_ret2
  exact spreadPost_fail hpost.out (by repeat (first | exact Below.refl _ _ | apply below_alloc | apply pw_below_drewN))
set_option maxRecDepth 100000 in
set_option maxHeartbeats 4000000 in
theorem spread_wrong2 (A : Option Addr) (cap : Nat) (l : List (List Int)) (B : Option Addr) (bcap : Nat) (fr : List Int) (w : World) (hC : Kd.C (Kd.slice 3 (Kd.int .i64)) w A l.length l) (hcap : l.length ≤ cap) (hF : Kd.C (Kd.int .i64) w B fr.length fr) (hbcap : fr.length ≤ bcap)
    (h1 : lRight l = true) (h : cRight fr = false) : Calls Tryd.prog 12 #[.slice A l.length cap, .slice B fr.length bcap] w (SpreadPost l fr w) := by
  have HC := Aside0.mk hC
  have HF := Aside0.mk hF
  have hpost := Lib.hid (spread_wrong (l := l) (fr := fr) (by rw [h, Bool.and_false]))
  have hcon := fun W (hb : Below w.heap.size w W) => right_calls A cap l W (Kd.C_below HC.out hb) hcap
  rw [h1] at hcon
  have HCON := Lib.hid hcon
  have hcon2 := fun W b (hb : Below w.heap.size w W) (hc : W.cell? ⟨b, 0, none⟩ = some (.slice B fr.length bcap)) => (right_calls (some ⟨b, 0, none⟩) 1 [fr] W (one_row HF.out hbcap hb hc) (by simp))
  simp only [List.length_cons, List.length_nil, Nat.zero_add] at hcon2
  rw [show lRight [fr] = false by simp [lRight, h]] at hcon2
  have HCON2 := Lib.hid hcon2
  have hmm := @run_makeMap Tryd.prog
  clear hC hF h hcon hcon2 h1
  go_enter Tryd.func12, Tryd.ntmps12
  go_wp2_with fail
  refine (HCON.out _ (by repeat (first | exact Below.refl _ _ | apply below_alloc))).mono ?_
  rintro e w' ⟨rfl, nd, rfl⟩
  go_wp2_with fail
  refine (HCON2.out _ _ ?hb ?hc).mono ?_
  case hb => repeat (first | exact Below.refl _ _ | apply below_alloc | apply pw_below_drewN)
  case hc => go_simp
  rintro e w' ⟨rfl, nd2, rfl⟩
  go_wp2
  go_ret2
  exact spreadPost_fail hpost.out (by repeat (first | exact Below.refl _ _ | apply below_alloc | apply pw_below_drewN))
/-- A clause's number more, in the map: what the append and the store leave. -/
theorem in_step {wr W' w1 : World} {g bi bs bw base n k gg cap1 : Nat} {lv v : Value} {G : Int → List Int} {S W : List Int} {x : Int} (hoi : wr.ownsInts base 3 .i64 v (G x)) (hsw : SpW wr g lv bi bs bw base n G S W)
    (hgrow : W'.grownBy w1 v.ownBlock) (hsz : wr.heap.size + 1 = W'.heap.size) (hst : ∀ i, i < wr.heap.size → W'.heap[i]? = wr.heap[i]?) (e1 : W'.os = wr.os) (e2 : W'.tape = wr.tape) (e3 : W'.output = wr.output)
    (hown1 : w1.ownsRow base 3 1 (.slice (some ⟨gg, 0, none⟩) ((G x).length + 1) cap1) ((G x).length + 1) ((G x).map (Value.int .i64) ++ [.int .i64 (k : Int)])) (hat : v.ownBlock = some gg ∨ gg = wr.heap.size + 1)
    (hlk : ∀ W : World, W.heap[bi]? = wr.heap[bi]? → (Instr.lookup 55 (.map (some bi)) (.int .i64 x) false).run Tryd.prog W = .ok v W)
    (hback : ∀ (w1 : World) (v' : Value) (zs' : List Int), wr.grownBy w1 v.ownBlock → w1.ownsInts base 3 .i64 v' zs' → zs'.length ≤ n + 1 → (v'.ownBlock = v.ownBlock ∨ ∃ g, v'.ownBlock = some g ∧ wr.heap.size ≤ g) →
        ∃ w2, (Instr.mapUpdate 55 (.map (some bi)) (.int .i64 x) v').run Tryd.prog w1 = .ok () w2 ∧ HasRows Tryd.prog 3 w2 base bi (n + 1) (fun y => if y = x then zs' else G y) ∧ w1.grownBy w2 (some bi))
    (hvl : (G x).length ≤ n) (hk : k < 4611686018427387904 := by omega) (hb1 : bs < base := by omega) (hb2 : bw < base := by omega) (hb3 : g < base := by omega) (hb4 : bi < base := by omega) :
    ∃ w2, (Instr.mapUpdate 55 (.map (some bi)) (.int .i64 x) (.slice (some ⟨gg, 0, none⟩) ((G x).length + 1) cap1)).run Tryd.prog w1 = .ok () w2 ∧ w1.cell? ⟨g, 1, none⟩ = some (.map (some bi)) ∧
      (Instr.lookup 55 (.map (some bi)) (.int .i64 x) false).run Tryd.prog w1 = .ok v w1 ∧
      Aside0 (SpW w2 g lv bi bs bw base (n + 1) (fun y => if y = x then G x ++ [(k : Int)] else G y) S W ∧ (∀ w : World, Below w.heap.size w wr → w.heap.size ≤ bi → w.heap.size ≤ base → Below w.heap.size w w2) ∧ wr.heap.size ≤ w2.heap.size) := by
  have hgr : wr.grownBy w1 v.ownBlock := ⟨hgrow.os.trans e1, hgrow.tape.trans e2, hgrow.output.trans e3, Nat.le_trans (by omega) hgrow.size, fun i hi hn => (hgrow.block i (by omega) hn).trans (hst i hi)⟩
  have hoi1 := hoi.appended hown1 (WalkArith.wf_i64 (by omega))
  obtain ⟨w2, hr2, hrows2, hg2⟩ := hback w1 _ _ hgr hoi1 (by simp; omega) (by
    rcases hat with h | h
    · exact .inl (by rw [h]; rfl)
    · exact .inr ⟨gg, rfl, by omega⟩)
  have hrb : ∀ j, v.ownBlock = some j → base ≤ j := fun j hj => own_base hoi.1 j hj
  have hw1 : ∀ i, i < wr.heap.size → i < base → w1.heap[i]? = wr.heap[i]? := fun i hi hlt => hgr.block i hi fun e => by have := hrb i e.symm; omega
  have hw2 : ∀ i, i < wr.heap.size → i < base → i ≠ bi → w2.heap[i]? = wr.heap[i]? := fun i hi hlt hne => (hg2.block i (by have := hgr.size; omega) fun e => hne (by injection e)).trans (hw1 i hi hlt)
  have hgn : g ≠ bi := by obtain ⟨es, cl, hb⟩ := hsw.rows.block; exact hsw.blk.ne_map hb
  refine ⟨w2, hr2, (hsw.blk.at_ (hw1 g hsw.blk.lt hb3)).c1, hlk w1 (hw1 bi hsw.rows.lt hb4), ⟨⟨hsw.blk.at_ (hw2 g hsw.blk.lt hb3 hgn), hrows2, hsw.is_.at_ (hw2 bs hsw.is_.lt hb1 (Ne.symm hsw.nis)), hsw.wt.at_ (hw2 bw hsw.wt.lt hb2 (Ne.symm hsw.niw)), hsw.ne, hsw.nis, hsw.niw⟩,
    fun w hb hle hle' => (hb.grown hgr hb.size (fun j hj => Nat.le_trans hle' (hrb j hj))).grown hg2 (Nat.le_trans hb.size hgr.size) (fun j hj => by cases hj; exact hle), Nat.le_trans hgr.size hg2.size⟩⟩
set_option maxRecDepth 100000 in
set_option maxHeartbeats 8000000 in
theorem spread_right (A : Option Addr) (cap : Nat) (l : List (List Int)) (B : Option Addr) (bcap : Nat) (fr : List Int) (w : World) (hC : Kd.C (Kd.slice 3 (Kd.int .i64)) w A l.length l) (hcap : l.length ≤ cap) (hF : Kd.C (Kd.int .i64) w B fr.length fr) (hbcap : fr.length ≤ bcap)
    (h1 : lRight l = true) (h2 : cRight fr = true) (hsz : fr.length + total l < 4398046511104) (hll : l.length < 4398046511104) : Calls Tryd.prog 12 #[.slice A l.length cap, .slice B fr.length bcap] w (SpreadPost l fr w) := by
  have HC := Aside0.mk hC
  have HF := Aside0.mk hF
  have hcon := fun W (hb : Below w.heap.size w W) => right_calls A cap l W (Kd.C_below HC.out hb) hcap
  rw [h1] at hcon
  have HCON := Lib.hid hcon
  have hcon2 := fun W b (hb : Below w.heap.size w W) (hc : W.cell? ⟨b, 0, none⟩ = some (.slice B fr.length bcap)) => (right_calls (some ⟨b, 0, none⟩) 1 [fr] W (one_row HF.out hbcap hb hc) (by simp))
  simp only [List.length_cons, List.length_nil, Nat.zero_add] at hcon2
  rw [show lRight [fr] = true by simp [lRight, h2]] at hcon2
  have HCON2 := Lib.hid hcon2
  have H1 := Aside0.mk h1
  have H2 := Aside0.mk h2
  have hmm := @run_makeMap Tryd.prog
  obtain ⟨i0, hi, hz0, hz1, hz2⟩ := info_parts info3
  clear hC hF hcon hcon2 h1 h2
  go_enter Tryd.func12, Tryd.ntmps12
  go_wp2_with fail
  refine (HCON.out _ (by repeat (first | exact Below.refl _ _ | apply below_alloc))).mono ?_
  rintro e w' ⟨rfl, nd, rfl⟩
  go_wp2_with fail
  refine (HCON2.out _ _ ?hb ?hc).mono ?_
  case hb => repeat (first | exact Below.refl _ _ | apply below_alloc | apply pw_below_drewN)
  case hc => go_simp
  rintro e w' ⟨rfl, nd2, rfl⟩
  go_wp2
  show Code.wp _ _ _ _ (spWorld w (.slice A l.length cap) nd (.cells #[.slice B fr.length bcap] 23) nd2)
  obtain ⟨HST, HB, HSZ⟩ := spStart w (.slice A l.length cap) nd (.cells #[.slice B fr.length bcap] 23) nd2
  generalize spWorld w (.slice A l.length cap) nd (.cells #[.slice B fr.length bcap] 23) nd2 = W1 at HST HB HSZ ⊢
  have HST := Aside0.mk HST
  have HB := Aside0.mk HB
  have HB0 := HB
  have hcl : ∀ c ∈ l, c.length ≤ total l := fun c hc => by
    have := length_flat l
    obtain ⟨m, hm, rfl⟩ := mem_row hc
    have := total_take l m hm
    omega
  have HCL := Aside0.mk hcl
  clear hcl
  go_loopw [34] (fun v34 wr => ∃ (k n : Nat), v34 = .int .i64 k ∧ Aside0 (k ≤ l.length) ∧ Aside0 (n ≤ total (l.take k)) ∧ Aside0 (SpW wr (w.heap.size + 1 + 1 + 1) (.slice A l.length cap) w.heap.size (w.heap.size + 1) (w.heap.size + 1 + 1) (w.heap.size + 4) n (inAt l k 0) [] []) ∧ Aside0 (Below w.heap.size w wr) ∧ Aside0 (w.heap.size + 5 ≤ wr.heap.size))
    (fun i _ => l.length - (intOf i).toNat)
  case atStart => exact ⟨0, 0, rfl, ⟨Nat.zero_le _⟩, ⟨Nat.zero_le _⟩, ⟨{ HST.out with rows := HST.out.rows.ext (fun x => (inAt_zero l x).symm) }⟩, HB, ⟨HSZ⟩⟩
  case round =>
    clear HST HB HSZ
    obtain ⟨k, n, rfl, hk, hn, hsw, hb, hz⟩ := hrel
    have hk := hk.out
    by_cases hlt : k < l.length
    · obtain ⟨ad, A0, c0, e, hcell, hlc, hrow⟩ := rows_at (Kd.C_below HC.out hb.out) hlt
      cases e
      have HLC := Aside0.mk hlc
      have HROW := Aside0.mk (kdC_len hrow)
      have HROWC : Aside0 ((Kd.int .i64).C w A0 (row l k).length (row l k)) := by
        obtain ⟨ad2, A2, c2, e2, hcell2, _, hrow2⟩ := rows_at HC.out hlt
        cases e2
        have := (hb.out.cell (World.block_lt_of_cell? w _ hcell2)).trans hcell2
        rw [hcell] at this
        cases this
        exact ⟨hrow2⟩
      have hrlen := HCL.out _ (row_mem hlt)
      clear hlc
      go_wp2
      go_loopw [41] (fun v41 wr => ∃ (j n : Nat), v41 = .int .i64 j ∧ Aside0 (j ≤ (row l k).length) ∧ Aside0 (n ≤ total (l.take k) + j) ∧ Aside0 (SpW wr (w.heap.size + 1 + 1 + 1) (.slice (some ad) l.length cap) w.heap.size (w.heap.size + 1) (w.heap.size + 1 + 1) (w.heap.size + 4) n (inAt l k j) [] []) ∧ Aside0 (Below w.heap.size w wr) ∧ Aside0 (w.heap.size + 5 ≤ wr.heap.size))
        (fun i _ => (row l k).length - (intOf i).toNat)
      case atStart => exact ⟨0, n, rfl, ⟨Nat.zero_le _⟩, hn, hsw, hb, hz⟩
      case round =>
        clear hn hsw hb hz hcell hrow
        obtain ⟨j, n, rfl, hj, hn, hsw, hb, hz⟩ := hrel
        have hj := hj.out
        by_cases hltj : j < (row l k).length
        · obtain ⟨ad0, e, hcell⟩ := Kd.at_int (Kd.C_below HROWC.out hb.out) (j : Int) (by omega) (by omega)
          cases e
          rw [Int.toNat_natCast] at hcell
          have hlit := lits_of (cRight_of H1.out (row_mem hlt)) _ (rd_mem hltj)
          have hc1 := hsw.out.blk.c1
          have hnn : n < 4398046511104 := by have := hn.out; have := total_take l k hlt; omega
          obtain ⟨v, hrun, hoi, hvl, hback⟩ := hsw.out.rows.look gm (by unfold maxLen; omega) (x := rd (row l k) j) (wf_lit (by omega) (by omega))
          have HBACK := Aside0.mk hback
          have HOI := Aside0.mk hoi
          clear hback hoi
          have hlk : ∀ W : World, W.heap[w.heap.size]? = wr.heap[w.heap.size]? → (Instr.lookup 55 (.map (some w.heap.size)) (.int .i64 (rd (row l k) j)) false).run Tryd.prog W = .ok v W := fun W hW => hsw.out.rows.look_same gm (wf_lit (by omega) (by omega)) hrun hW
          have HLK := Aside0.mk hlk
          have hblt : w.heap.size < wr.heap.size := hsw.out.rows.lt
          have hglt := hsw.out.blk.lt
          clear hlk
          go_wp2_with fail
          refine start_ (n := 15) (S := fun w' => w'.cell? ⟨w.heap.size + 1 + 1 + 1, 1, none⟩ = some (.map (some w.heap.size)) ∧ (Instr.lookup 55 (.map (some w.heap.size)) (.int .i64 (rd (row l k) j)) false).run Tryd.prog w' = .ok v w') (ds := [14]) #[false, false, false, false, false, false, false, false, false, false, false, false, false, false, false] (by kernel_rfl) rfl rfl ⟨hc1, (HLK.out _ rfl)⟩ (fun hHeld => ?_)
          refine pure_ (i := 0) (N := some 45) (v := ?_) (a' := ?_) #[true, false, false, false, false, false, false, false, false, false, false, false, false, false, false] rfl rfl (by kernel_rfl) (fun _ _ _ h => h) (Or.inl ⟨by rfl, ?_⟩) ?_ ?_
          rotate_left
          · intro w'
            go_simp
            with_reducible rfl
          rotate_left
          · simp only [Act.put, List.setIfInBounds_toArray, List.set_cons_zero, List.set_cons_succ, i64_w, i32_w]
            rfl
          refine pure_ (i := 1) (N := some 46) (v := ?_) (a' := ?_) #[true, true, false, false, false, false, false, false, false, false, false, false, false, false, false] rfl rfl (by kernel_rfl) (fun _ _ _ h => h) (Or.inl ⟨by rfl, ?_⟩) ?_ ?_
          rotate_left
          · intro w'
            go_simp
            with_reducible rfl
          rotate_left
          · simp only [Act.put, List.setIfInBounds_toArray, List.set_cons_zero, List.set_cons_succ, i64_w, i32_w]
            rfl
          refine pure_ (i := 2) (N := some 47) (v := ?_) (a' := ?_) #[true, true, true, false, false, false, false, false, false, false, false, false, false, false, false] rfl rfl (by kernel_rfl) (fun _ _ _ h => h) (Or.inl ⟨by rfl, ?_⟩) ?_ ?_
          rotate_left
          · intro w'
            go_simp
            with_reducible rfl
          rotate_left
          · simp only [Act.put, List.setIfInBounds_toArray, List.set_cons_zero, List.set_cons_succ, i64_w, i32_w]
            rfl
          refine pure_ (i := 4) (N := some 49) (v := ?_) (a' := ?_) #[true, true, true, false, true, false, false, false, false, false, false, false, false, false, false] rfl rfl (by kernel_rfl) (fun _ _ _ h => h) (Or.inl ⟨by rfl, ?_⟩) ?_ ?_
          rotate_left
          · intro w'
            go_simp
            with_reducible rfl
          rotate_left
          · simp only [Act.put, List.setIfInBounds_toArray, List.set_cons_zero, List.set_cons_succ, i64_w, i32_w]
            rfl
          refine pure_ (i := 5) (N := some 50) (v := ?_) (a' := ?_) #[true, true, true, false, true, true, false, false, false, false, false, false, false, false, false] rfl rfl (by kernel_rfl) (fun _ _ _ h => h) (Or.inl ⟨by rfl, ?_⟩) ?_ ?_
          rotate_left
          · intro w'
            go_simp
            with_reducible rfl
          rotate_left
          · simp only [Act.put, List.setIfInBounds_toArray, List.set_cons_zero, List.set_cons_succ, i64_w, i32_w]
            rfl
          refine pure_ (i := 6) (N := some 51) (v := ?_) (a' := ?_) #[true, true, true, false, true, true, true, false, false, false, false, false, false, false, false] rfl rfl (by kernel_rfl) (fun _ _ _ h => h) (Or.inl ⟨by rfl, ?_⟩) ?_ ?_
          rotate_left
          · intro w'
            go_simp
            with_reducible rfl
          rotate_left
          · simp only [Act.put, List.setIfInBounds_toArray, List.set_cons_zero, List.set_cons_succ, i64_w, i32_w]
            rfl
          refine pure_ (i := 7) (N := some 52) (v := ?_) (a' := ?_) #[true, true, true, false, true, true, true, true, false, false, false, false, false, false, false] rfl rfl (by kernel_rfl) (fun _ _ _ h => h) (Or.inl ⟨by rfl, ?_⟩) ?_ ?_
          rotate_left
          · intro w'
            go_simp
            with_reducible rfl
          rotate_left
          · simp only [Act.put, List.setIfInBounds_toArray, List.set_cons_zero, List.set_cons_succ, i64_w, i32_w]
            rfl
          refine pure_ (i := 9) (N := some 54) (v := ?_) (a' := ?_) #[true, true, true, false, true, true, true, true, false, true, false, false, false, false, false] rfl rfl (by kernel_rfl) (fun _ _ _ h => h) (Or.inl ⟨by rfl, ?_⟩) ?_ ?_
          rotate_left
          · intro w'
            go_simp
            with_reducible rfl
          rotate_left
          · simp only [Act.put, List.setIfInBounds_toArray, List.set_cons_zero, List.set_cons_succ, i64_w, i32_w]
            rfl
          refine pure_ (i := 11) (N := some 56) (v := ?_) (a' := ?_) #[true, true, true, false, true, true, true, true, false, true, false, true, false, false, false] rfl rfl (by kernel_rfl) (fun _ _ _ h => h) (Or.inl ⟨by rfl, ?_⟩) ?_ ?_
          rotate_left
          · intro w'
            go_simp
            with_reducible rfl
          rotate_left
          · simp only [Act.put, List.setIfInBounds_toArray, List.set_cons_zero, List.set_cons_succ, i64_w, i32_w]
            rfl
          refine take_ (i := 3) (N := some 48) (v := ?_) (a' := ?_) #[true, true, true, true, true, true, true, true, false, true, false, true, false, false, false] rfl rfl (by kernel_rfl) (fun _ _ _ h => h) (Or.inl ⟨by rfl, ?_⟩) hHeld ?_ ?_
          rotate_left
          · rintro w' ⟨s0, s1⟩
            go_simp
            with_reducible rfl
          rotate_left
          · simp only [Act.put, List.setIfInBounds_toArray, List.set_cons_zero, List.set_cons_succ, i64_w, i32_w]
            rfl
          refine take_ (i := 8) (N := some 53) (v := ?_) (a' := ?_) #[true, true, true, true, true, true, true, true, true, true, false, true, false, false, false] rfl rfl (by kernel_rfl) (fun _ _ _ h => h) (Or.inl ⟨by rfl, ?_⟩) hHeld ?_ ?_
          rotate_left
          · rintro w' ⟨s0, s1⟩
            go_simp
            with_reducible rfl
          rotate_left
          · simp only [Act.put, List.setIfInBounds_toArray, List.set_cons_zero, List.set_cons_succ, i64_w, i32_w]
            rfl
          refine take_ (i := 10) (N := some 55) (v := ?_) (a' := ?_) #[true, true, true, true, true, true, true, true, true, true, true, true, false, false, false] rfl rfl (by kernel_rfl) (fun _ _ _ h => h) (Or.inl ⟨by rfl, ?_⟩) hHeld ?_ ?_
          rotate_left
          · rintro w' ⟨s0, s1⟩
            go_simp
            with_reducible rfl
          rotate_left
          · simp only [Act.put, List.setIfInBounds_toArray, List.set_cons_zero, List.set_cons_succ, i64_w, i32_w]
            rfl
          refine one_ (i := 12) (N := some 57) #[true, true, true, true, true, true, true, true, true, true, true, true, true, false, false] rfl rfl (by kernel_rfl) (by decide) (fun K hK => ?_)
          refine value_ (w1 := ?_) (v := ?_) (by rfl) rfl ?_ ?_
          rotate_left 2
          · go_simp
            constructor
            · rfl
            · rfl
          refine hK.out _ _ ⟨(by go_keep), (HLK.out _ (Below.heap_alloc wr _ _ hblt))⟩ (fun hHeld => ?_)
          clear hK K
          refine norm_ (a' := ?_) ?_ ?_
          rotate_left
          · show Act.put _ (some 57) _ = _
            simp only [Act.put, List.setIfInBounds_toArray, List.set_cons_zero, List.set_cons_succ, i64_w, i32_w]
            rfl
          refine one_ (i := 13) (N := some 58) #[true, true, true, true, true, true, true, true, true, true, true, true, true, true, false] rfl rfl (by kernel_rfl) (by decide) (fun K hK => ?_)
          refine step_append_lies _ (by rfl) _ _ _ (by rfl) (w.heap.size + 4) 3 i0 _ 1 8 Tryd.underlying23 hi hz0 hz1 hz2 rfl (by omega) v (inAt l k j (rd (row l k) j)).length ((inAt l k j (rd (row l k) j)).map (Value.int .i64)) (by rfl) (by exact own_move HOI.out.1 (fun q hq => Below.heap_alloc wr _ q (own_lt HOI.out.1 q hq))) ⟨wr.heap.size, 0, none⟩ 1 1 [.int .i64 k] (by rfl) (by rfl) (World.news_of_block (cs := #[.int .i64 k]) (t := 3) (fr := (0, 0)) (by exact heap_alloc_new wr _)) (by simp [Value.oneCell']) (by omega) (by unfold maxLen; omega) (by omega) (by simp; omega) (wr.heap.size + 1) (by simp) ?_
          intro gg cap1 w1 hown1 hgrow hat hltg
          obtain ⟨w2, hr2, hc1w, hlk1, HQ⟩ := in_step HOI.out hsw.out hgrow (by exact (size_alloc wr _).symm) (fun i hi => by exact Below.heap_alloc wr _ i hi) rfl rfl rfl hown1 hat HLK.out HBACK.out hvl
          clear hown1 hgrow hat hltg
          refine hK.out _ _ ⟨hc1w, hlk1⟩ (fun hHeld => ?_)
          clear hK K
          refine norm_ (a' := ?_) ?_ ?_
          rotate_left
          · show Act.put _ (some 58) _ = _
            simp only [Act.put, List.setIfInBounds_toArray, List.set_cons_zero, List.set_cons_succ, i64_w, i32_w]
            rfl
          refine last_ (i := 14) (N := none) #[true, true, true, true, true, true, true, true, true, true, true, true, true, true, true] rfl rfl (by kernel_rfl) (by decide) (fun K hK => ?_)
          refine skip_ (w1 := ?_) (by rfl) rfl ?_ ?_
          rotate_left
          · go_simp
            rfl
          refine hK.out _ _ ?_
          clear hK K
          refine done_ (by kernel_rfl) ?_
          go_wp2
          go_roundw
          case rel => exact ⟨j + 1, n + 1, by go_num, ⟨hltj⟩, ⟨by have := hn.out; omega⟩, ⟨{ HQ.out.1 with rows := HQ.out.1.rows.ext (fun x => (inAt_next1 hltj x).symm) }⟩, ⟨HQ.out.2.1 w hb.out (Nat.le_refl _) (by omega)⟩, ⟨Nat.le_trans hz.out HQ.out.2.2⟩⟩
          case measure => simp [intOf]; omega
        · have ej : j = (row l k).length := by omega
          subst ej
          go_wp2
          go_roundw
          case rel => exact ⟨k + 1, n, by go_num, ⟨hlt⟩, ⟨by have := hn.out; have := total_snoc hlt; omega⟩, ⟨{ hsw.out with rows := hsw.out.rows.ext (fun x => inAt_next hlt x) }⟩, hb, hz⟩
          case measure => simp [intOf]; omega
    · have ek : k = l.length := by omega
      subst ek
      have hn := hn.out
      rw [List.take_length] at hn
      have hsw0 := Aside0.mk ({ hsw.out with rows := hsw.out.rows.ext (fun x => inAt_end l x) } : SpW _ _ _ _ _ _ _ _ (inOf l) _ _)
      clear hsw
      have hgo := HB0.out
      go_wp2
      go_loopw [63] (fun v63 wr => ∃ (i : Nat) (S W : List Int), v63 = .int .i64 i ∧ Aside0 (i ≤ fr.length) ∧ Aside0 (RInv l fr S W [] i 0) ∧ Aside0 (SpW wr (w.heap.size + 1 + 1 + 1) (.slice A l.length cap) w.heap.size (w.heap.size + 1) (w.heap.size + 1 + 1) (w.heap.size + 4) n (inOf l) S W) ∧ Aside0 (Below w.heap.size w wr))
        (fun i _ => fr.length - (intOf i).toNat)
      case atStart => exact ⟨0, [], [], rfl, ⟨Nat.zero_le _⟩, ⟨RInv.start l fr⟩, hsw0, hb⟩
      case round =>
        clear hsw0 hb hz
        obtain ⟨i, S, W, rfl, hi, hri, hsw, hb⟩ := hrel
        have hi := hi.out
        by_cases hlti : i < fr.length
        · obtain ⟨ad0, e, hcell⟩ := Kd.at_int (Kd.C_below HF.out hb.out) (i : Int) (by omega) (by omega)
          cases e
          rw [Int.toNat_natCast] at hcell
          have hlit := lits_of H2.out _ (rd_mem hlti)
          have hrd : fr.getD i 0 = rd fr i := by simp [rd]
          have HRD := Lib.hid hrd
          have hs1 := hri.out.size
          have hs2 := hri.out.sizeW
          clear hrd
          cases hno : S.contains (-(rd fr i)) with
          | true =>
            have hcon := hold_no hsw.out.blk hsw.out.is_ hlit.1 hlit.2.1 hno
            have HC3 := Lib.hid hcon
            have hend := Lib.hid (spread_none H1.out H2.out (hri.out.clash (rd_mem hlti) (by simpa using hno)))
            clear hcon hno hlit
            go_wp2_with (go_at_call 31; refine (HC3.out).mono ?_; rintro e w' ⟨rfl, rfl⟩)
            go_ret2
            exact spreadPost_fail hend.out hb.out
          | false =>
            cases hold_ : S.contains (rd fr i) with
            | true =>
              have hcon := hold_old hsw.out.blk hsw.out.is_ hlit.1 hlit.2.1 hno hold_
              have HC3 := Lib.hid hcon
              have HR := Aside0.mk (hri.out.held_old (by rw [HRD.out]; simpa using hold_))
              clear hcon hno hlit hold_
              go_wp2_with (go_at_call 31; refine (HC3.out).mono ?_; rintro e w' ⟨rfl, rfl⟩)
              go_roundw
              case rel => exact ⟨i + 1, S, W, by go_num, ⟨hlti⟩, HR, hsw, hb⟩
              case measure => simp [intOf]; omega
            | false =>
              have hnS : rd fr i ∉ S := by simpa using hold_
              have hcon := hold_new hsw.out.blk hsw.out.is_ hsw.out.wt hsw.out.ne (by omega) (by omega) hlit.1 hlit.2.1 hno hold_ (by simpa using fun h => hnS (hri.out.sub _ h))
              have HC3 := Lib.hid hcon
              have HR := Aside0.mk ((hri.out.more (Der.of_from (rd_mem hlti)) hlit.2.2 hnS (by simpa using hno) ⟨hlit.1, hlit.2.1⟩ (.inl (rd_mem hlti))).held_old (by rw [HRD.out]; simp))
              clear hcon hno hlit hold_ hnS
              go_wp2_with (go_at_call 31; refine (HC3.out).mono ?_; rintro e w' ⟨rfl, hS', hW', hf'⟩; have HQ := Aside0.mk (And.intro hS' (And.intro hW' hf')); clear hS' hW' hf')
              go_roundw
              case rel => exact ⟨i + 1, _, _, by go_num, ⟨hlti⟩, HR, ⟨hsw.out.turn HQ.out.1 HQ.out.2.1 (fun j hj h1 h2 _ => HQ.out.2.2.block j hj (fun h => by rcases h with h | h; exact h1 h; exact h2 h))⟩, ⟨HQ.out.2.2.below hb.out hb.out.size (fun j hj => by rcases hj with rfl | rfl <;> omega)⟩⟩
              case measure => simp [intOf]; omega
        · have ei : i = fr.length := by omega
          subst ei
          go_wp2
          go_loopw [74] (fun v74 wr => ∃ (k : Nat) (S W : List Int), v74 = .int .i64 k ∧ Aside0 (k ≤ l.length) ∧ Aside0 (RInv l fr S W [] fr.length k) ∧ Aside0 (SpW wr (w.heap.size + 1 + 1 + 1) (.slice A l.length cap) w.heap.size (w.heap.size + 1) (w.heap.size + 1 + 1) (w.heap.size + 4) n (inOf l) S W) ∧ Aside0 (Below w.heap.size w wr))
            (fun i _ => l.length - (intOf i).toNat)
          case atStart => exact ⟨0, S, W, rfl, ⟨Nat.zero_le _⟩, hri, hsw, hb⟩
          case round =>
            clear hri hsw hb
            obtain ⟨k, S, W, rfl, hk, hri, hsw, hb⟩ := hrel
            have hk := hk.out
            by_cases hltk : k < l.length
            · obtain ⟨ad, A0, c0, e, hcell, hlc, hrow⟩ := rows_at (Kd.C_below HC.out hb.out) hltk
              cases e
              have hrm := row_mem hltk
              have hlits := lits_of (cRight_of H1.out hrm)
              have hcl := HCL.out _ hrm
              have hs1 := hri.out.size
              have hs2 := hri.out.sizeW
              have h0s : ∀ z ∈ row l k, z ≠ 0 := fun z hz => (hlits z hz).2.2
              cases hask : askLoop S 0 (row l k) with
              | none =>
                have HC3 := Lib.hid (ask_c_none hsw.out.blk hsw.out.is_ hsw.out.wt hsw.out.ne (by omega) (by omega) hri.out.sub hlits hrow hlc (by omega) hask)
                have HR := Aside0.mk (hri.out.asked (ask_none h0s hask))
                clear hlits hcl h0s hrow hask hs1 hs2
                go_wp2_with (go_at_call 32; refine (HC3.out).mono ?_; rintro e w' ⟨rfl, rfl⟩)
                go_roundw
                case rel => exact ⟨k + 1, S, W, by go_num, ⟨hltk⟩, HR, hsw, hb⟩
                case measure => simp [intOf]; omega
              | some z =>
                by_cases hz0 : z = 0
                · subst hz0
                  have HC3 := Lib.hid (ask_c_zero hsw.out.blk hsw.out.is_ hsw.out.wt hsw.out.ne (by omega) (by omega) hri.out.sub hlits hrow hlc (by omega) hask)
                  have hend := Lib.hid (spread_none H1.out H2.out (hri.out.fails hrm (ask_zero h0s hask)))
                  clear hlits hcl h0s hrow hask hs1 hs2
                  go_wp2_with (go_at_call 32; refine (HC3.out).mono ?_; rintro e w' ⟨rfl, rfl⟩)
                  go_ret2
                  exact spreadPost_fail hend.out hb.out
                · obtain ⟨z1, z2, z3, z4⟩ := ask_one h0s hask hz0
                  have hzb := hlits z z1
                  have HC3 := Lib.hid (ask_c_one hsw.out.blk hsw.out.is_ hsw.out.wt hsw.out.ne (by omega) (by omega) hri.out.sub hlits hrow hlc (by omega) hask hz0)
                  have HR := Aside0.mk ((hri.out.more (hri.out.unit hrm z1 z4) hz0 z2 z3 ⟨hzb.1, hzb.2.1⟩ (.inr ⟨_, hrm, z1⟩)).asked (.inl ⟨z, z1, by simp⟩))
                  clear hlits hcl h0s hrow hask hs1 hs2 z1 z2 z3 z4 hz0 hzb
                  go_wp2_with (go_at_call 32; refine (HC3.out).mono ?_; rintro e w' ⟨rfl, hS', hW', hf'⟩; have HQ := Aside0.mk (And.intro hS' (And.intro hW' hf')); clear hS' hW' hf')
                  go_roundw
                  case rel => exact ⟨k + 1, _, _, by go_num, ⟨hltk⟩, HR, ⟨hsw.out.turn HQ.out.1 HQ.out.2.1 (fun j hj h1 h2 _ => HQ.out.2.2.block j hj (fun h => by rcases h with h | h; exact h1 h; exact h2 h))⟩, ⟨HQ.out.2.2.below hb.out hb.out.size (fun j hj => by rcases hj with rfl | rfl <;> omega)⟩⟩
                  case measure => simp [intOf]; omega
            · have ek : k = l.length := by omega
              subst ek
              have hn1 : n < 4611686018427387904 := by omega
              have hrun := run_calls hsw.out hn1 hri.out HC.out hcap hb.out (by omega) (by omega) H1.out (by omega) (by omega) (fun c hc => by have := HCL.out c hc; omega)
              by_cases hfail : Fails l fr
              · have HC3 := Lib.hid (hrun.mono fun e w' hp => And.intro ((hp.2.resolve_right fun h => h.1 hfail).2) (hp.1.below hb.out hb.out.size (fun j hj => by rcases hj with rfl | rfl <;> omega)))
                have hend := Lib.hid (spread_none H1.out H2.out hfail)
                clear hrun hfail
                go_wp2_with (go_at_call 33; refine (HC3.out).mono ?_; rintro e w' ⟨rfl, hb'⟩; have HBB := Aside0.mk hb'; clear hb')
                go_ret2
                exact spreadPost_fail hend.out HBB.out
              · have HC3 := Lib.hid (hrun.mono fun e w' hp => And.intro ((hp.2.resolve_left fun h => hfail h.1).2.1) (And.intro ((hp.2.resolve_left fun h => hfail h.1).2.2) (And.intro hp.1 (hp.1.below hb.out hb.out.size (fun j hj => by rcases hj with rfl | rfl <;> omega)))))
                have HF0 := Lib.hid hfail
                clear hrun hfail
                go_wp2_with (first
                  | (go_at_call 33; refine (HC3.out).mono ?_; rintro e w5 ⟨rfl, hS5, hf5, hb5⟩; have HS5 := Aside0.mk hS5; have HF5 := Aside0.mk hf5; have HB5 := Aside0.mk hb5; clear hS5 hf5 hb5; obtain ⟨S5, hs5⟩ := HS5.out; have HS5' := Aside0.mk hs5; have hg5 := hsw.out.g_ne; have hc2 : w5.cell? ⟨w.heap.size + 1 + 1 + 1, 2, none⟩ = some (.map (some (w.heap.size + 1))) := (hsw.out.blk.at_ (HF5.out.block _ hsw.out.blk.lt (fun h => by rcases h with h | h; exact hg5.1 h; exact hg5.2 h))).c2; clear hs5 hg5)
                  | (at_range; refine set_range im rfl _ rfl rfl HS5'.out.1 HS5'.out.2.1 (fun x hx => wf_lit (HS5'.out.2.2.2.1 x hx).1 (HS5'.out.2.2.2.1 x hx).2.1) ?_; intro w6 cnt hgo hgr hs6; have HGO := Aside0.mk hgo; have HB6 := Aside0.mk (HB5.out.grown hgr HB5.out.size (by simp)); clear hgo hgr)
                  | go_in)
                go_frame
                have hSz : S5.length < 4398046511104 := by
                  have h := length_le_of_sub S5 (fr ++ flat l) HS5'.out.2.2.1 fun x hx => der_src H1.out H2.out ((HS5'.out.2.2.2.2 x).1 hx)
                  rw [List.length_append, length_flat] at h
                  omega
                clear hc2
                go_loopw [15] (fun v15 wr => ∃ (xs left : List Int) (cnt : Nat), Aside0 (wr.ownsRow w.heap.size 3 1 v15 xs.length (xs.map (Value.int .i64))) ∧ Aside0 (Going Tryd.prog 3 wr (w.heap.size + 1) w5.heap.size S5 left cnt) ∧ Aside0 ((xs ++ left).Perm S5) ∧ Aside0 (Below w.heap.size w wr))
                  (fun _ w' => w'.rangeLeft (w.heap.size + 1) w5.heap.size)
                case atStart => exact ⟨[], S5, cnt, ⟨own_nil _ _ _ _⟩, HGO, ⟨List.Perm.refl _⟩, HB6⟩
                case round =>
                  obtain ⟨xs, left, cnt, hown, hgo, hperm, hb⟩ := hrel
                  have hlen : xs.length + left.length = S5.length := by have := hperm.out.length_eq; simpa using this
                  go_wp2_with (first
                    | (at_next; refine set_next im rfl _ rfl rfl hgo.out ?_ ?_)
                    | go_in)
                  · intro hleft
                    subst hleft
                    have hp : xs.Perm S5 := by have := hperm.out; rwa [List.append_nil] at this
                    have hax : Apart xs := (List.Perm.pairwise_iff (fun h => Ne.symm h) hp).2 HS5'.out.2.2.1
                    have hcon := sorted_calls hown.out hax (fun x hx => HS5'.out.2.2.2.1 x (hp.mem_iff.1 hx)) (by omega)
                    have hres := spread_some H1.out H2.out HF0.out (up_isort xs hax) (fun x => by rw [mem_isort, hp.mem_iff]; exact HS5'.out.2.2.2.2 x)
                    have HCO := Lib.hid (hcon.mono fun e w' hq => And.intro hq.1 (And.intro (show Kd.R (Kd.int .i64) 3 w' w.heap.size (fun _ => True) _ (isort xs) from Kd.R_of_own (h1 := fun _ => rfl) (by rw [length_isort]; exact hq.2.1) (fun _ _ => trivial)) (hb.out.grown hq.2.2 hb.out.size (fun j hj => own_base hown.out j hj))))
                    have HRES := Lib.hid hres
                    clear hcon hres hax hp
                    go_wp2_with (go_at_call 34; refine (HCO.out).mono ?_; rintro e w' ⟨rfl, hR, hB⟩; have HRR := Aside0.mk hR; have HBB := Aside0.mk hB; clear hR hB)
                    go_ret2
                    exact ⟨u15, (by rw [HRES.out]; rfl), (by rw [HRES.out]; exact HRR.out), HBB.out⟩
                  · intro x c w7 cnt7 hxl hxw hgo7 hlt7 hg7 hs7 hen
                    have hrnew : w.heap.size ≤ w5.heap.size := HB5.out.size
                    have HG7 := Aside0.mk hgo7
                    have HXL := Aside0.mk hxl
                    have HXW := Aside0.mk hxw
                    have HB7 := Aside0.mk (hb.out.grown hg7 hb.out.size (fun j hj => by cases hj; exact hrnew))
                    obtain ⟨since, seen, cc, hit⟩ := hgo.out.iter
                    have HO7 := Aside0.mk (own_move hown.out (w1 := w7) fun j hj => by
                      obtain ⟨cells, hcj⟩ := own_typed hown.out j hj
                      refine hg7.block j (lt_of_block hcj) fun e => ?_
                      cases e
                      rw [hit] at hcj
                      cases hcj)
                    have hperm7 : ((xs ++ [x]) ++ left.erase x).Perm S5 := by
                      refine List.Perm.trans ?_ hperm.out
                      rw [List.append_assoc]
                      exact List.Perm.append_left _ (List.perm_cons_erase hxl).symm
                    have HP7 := Aside0.mk hperm7
                    have hpos : 0 < left.length := List.length_pos_of_mem hxl
                    have hcnt : cnt7 < cnt := hlt7
                    have hleq := Lib.hid hgo.out.left_eq
                    clear hgo7 hxl hxw hg7 hit hperm7 hs7
                    go_wp2_with (first
                      | (at_builtin; refine print_append_num (w0 := w) w.heap.size rfl _ _ 23 3 .i64 8 rfl Tryd.underlying23 info3 (by omega) u15 xs x rfl rfl HO7.out HB7.out HB7.out.size (by omega) ?_; intro v8 w8 hown8 hb8 hg8 hat8; have HO8 := Aside0.mk hown8; have HB8 := Aside0.mk hb8; have HG8 := Aside0.mk hg8; clear hown8 hb8 hg8 hat8)
                      | go_in)
                    have HGO8 : Aside0 (Going Tryd.prog 3 w8 (w.heap.size + 1) w5.heap.size S5 (left.erase x) cnt7) := by
                      refine ⟨HG7.out.kept HG8.out (fun e => ?_) (fun e => ?_)⟩
                      · obtain ⟨cells, hcj⟩ := own_typed HO7.out _ e.symm
                        exact isMap_ne HG7.out.set _ _ _ hcj
                      · obtain ⟨cells, hcj⟩ := own_typed HO7.out _ e.symm
                        obtain ⟨_, _, _, hit7⟩ := HG7.out.iter
                        rw [hit7] at hcj
                        cases hcj
                    go_roundw
                    case rel => exact ⟨xs ++ [x], left.erase x, cnt7, by simpa [nums] using HO8, HGO8, HP7, HB8⟩
                    case measure => rw [HGO8.out.left_eq, hleq.out]; exact hcnt
/-- Spread, of whatever lists that aren't beyond all measure. -/
theorem spread_calls (A : Option Addr) (cap : Nat) (l : List (List Int)) (B : Option Addr) (bcap : Nat) (fr : List Int) (w : World) (hC : Kd.C (Kd.slice 3 (Kd.int .i64)) w A l.length l) (hcap : l.length ≤ cap) (hF : Kd.C (Kd.int .i64) w B fr.length fr) (hbcap : fr.length ≤ bcap)
    (hsz : fr.length + total l < 4398046511104) (hll : l.length < 4398046511104) : Calls Tryd.prog 12 #[.slice A l.length cap, .slice B fr.length bcap] w (SpreadPost l fr w) := by
  cases h1 : lRight l with
  | false => exact spread_wrong1 A cap l B bcap fr w hC hcap hF hbcap h1
  | true =>
    cases h2 : cRight fr with
    | false => exact spread_wrong2 A cap l B bcap fr w hC hcap hF hbcap h1 h2
    | true => exact spread_right A cap l B bcap fr w hC hcap hF hbcap h1 h2 hsz hll
end Go.Proofs.YtnknoaolbjofiaaDoor.Cl
end
section
set_option linter.unusedVariables false
namespace Go.Proofs.YtnknoaolbjofiaaDoor.X
open Go.RowKit Go.Proofs.YtnknoaolbjofiaaDoorW.PrintWords Go.Proofs.YtnknoaolbjofiaaDoor.Cl
/-- What it answers, where the lists aren't beyond all measure. -/
def clause_Spread.f (l0 : List (List Int)) (l1 : List Int) : Option (List Int × Bool) := if l1.length + total l0 < 4398046511104 ∧ l0.length < 4398046511104 then some (spread l0 l1) else none
theorem clause_Spread.calls (A0 : Option Addr) (c0 : Nat) (l0 : List (List Int)) (A1 : Option Addr) (c1 : Nat) (l1 : List Int) (r1 : List Int) (r2 : Bool) (w : World) (hr0 : Kd.C (Kd.slice 3 (Kd.int .i64)) w A0 l0.length l0) (hc0 : l0.length ≤ c0) (hr1 : Kd.C (Kd.int .i64) w A1 l1.length l1) (hc1 : l1.length ≤ c1) (h : clause_Spread.f l0 l1 = some (r1, r2)) :
    Calls Tryd.prog 12 #[.slice A0 l0.length c0, .slice A1 l1.length c1] w fun e w' => ∃ v0_ : Value, e = .returned (.tuple #[v0_, .bool r2]) ∧ Kd.R (Kd.int .i64) 3 w' w.heap.size (fun _ => True) v0_ r1 ∧ Below w.heap.size w w' := by
  unfold clause_Spread.f at h
  split at h
  · rename_i hs
    have e := Option.some.inj h
    refine (spread_calls A0 c0 l0 A1 c1 l1 w hr0 hc0 hr1 hc1 hs.1 hs.2).mono fun e' w' hp => ?_
    unfold SpreadPost at hp
    rw [e] at hp
    exact hp
  · cases h
end Go.Proofs.YtnknoaolbjofiaaDoor.X
end
section
set_option linter.unusedVariables false
set_option linter.unusedSimpArgs false
namespace Go.Proofs.YtnknoaolbjofiaaDoor.Cl
open Go.RowKit Go.Proofs.YtnknoaolbjofiaaDoorW.PrintWords Go.Proofs.YtnknoaolbjofiaaDoorW.PrintLast Go.Proofs.YtnknoaolbjofiaaDoorW.PrintMore
open Go.Proofs.YtnknoaolbjofiaaDoor.X
theorem few14_ev {l : List (List Int)} (hl : l.length < 9223372036854775807) : Ev (fun k => backreachlaw14_few.f k l) (small l 200 20 200) := by
  have h := rsmall_ev hl (a := 200) (b := 20) (v := 200) (by omega)
  exact Ev.bind h (Ev.now _)
theorem few14_total {l : List (List Int)} (h : small l 200 20 200 = true) : (∀ c ∈ l, c.length ≤ 20) ∧ l.length ≤ 200 ∧ total l ≤ 4000 := by
  have := small_fine (by omega) (by omega) h
  refine ⟨this.2.2.1, this.2.1, ?_⟩
  have h2 := small_total this.2.2.1
  have h3 := this.2.1
  omega
theorem few14_calls (A : Option Addr) (cap : Nat) (l : List (List Int)) (w : World) (hC : Kd.C (Kd.slice 3 (Kd.int .i64)) w A l.length l) (hcap : l.length ≤ cap) (hl : l.length < 9223372036854775807) :
    Calls Tryd.prog 11 #[.slice A l.length cap] w fun e w' => e = .returned (.bool (small l 200 20 200)) ∧ ∃ n, w' = w.drewN n := by
  obtain ⟨k, hk⟩ := (few14_ev hl).rounds
  exact (backreachlaw14_few.calls k A cap l _ w hC hcap hk).mono fun e w' ⟨he, hd⟩ => ⟨he, hd.out⟩
/-- Both Spreads, in plain words. -/
theorem spreads_calls (A : Option Addr) (c0 : Nat) (l : List (List Int)) (B : Option Addr) (c1 : Nat) (fr : List Int) (w : World) (hr0 : Kd.C (Kd.slice 3 (Kd.int .i64)) w A l.length l) (hc0 : l.length ≤ c0) (hr1 : Kd.C (Kd.int .i64) w B fr.length fr) (hc1 : fr.length ≤ c1) (hs : fr.length + total l < 4398046511104) (hl : l.length < 4398046511104) :
    Calls Tryd.prog 12 #[.slice A l.length c0, .slice B fr.length c1] w fun e w' => ∃ v, e = .returned (.tuple #[v, .bool (spread l fr).2]) ∧ Kd.R (Kd.int .i64) 3 w' w.heap.size (fun _ => True) v (spread l fr).1 ∧ Below w.heap.size w w' :=
  clause_Spread.calls A c0 l B c1 fr _ _ w hr0 hc0 hr1 hc1 (by unfold clause_Spread.f; rw [if_pos ⟨hs, hl⟩])
end Go.Proofs.YtnknoaolbjofiaaDoor.Cl
end
section
set_option linter.unusedVariables false
set_option linter.unusedSimpArgs false
namespace Go.Proofs.YtnknoaolbjofiaaDoor.Cl
open Go.RowKit Go.Proofs.YtnknoaolbjofiaaDoorW.PrintWords Go.Proofs.YtnknoaolbjofiaaDoorW.PrintLast Go.Proofs.YtnknoaolbjofiaaDoorW.PrintMore
open Go.Proofs.YtnknoaolbjofiaaDoor.X
theorem info3d : (Tryd.prog.info? 3).map (fun i => (i.zero, i.size, i.bytes)) = some (some (.int .i64 0), 1, 8) := by kernel_rfl
abbrev KRd : Kd (List Int) := Kd.slice 3 (Kd.int .i64)
end Go.Proofs.YtnknoaolbjofiaaDoor.Cl
end
section
set_option linter.unusedVariables false
set_option linter.unusedSimpArgs false
namespace Go.Proofs.YtnknoaolbjofiaaDoor.Cl
open Go.RowKit Go.Proofs.YtnknoaolbjofiaaDoorW.PrintWords Go.Proofs.YtnknoaolbjofiaaDoorW.PrintLast Go.Proofs.YtnknoaolbjofiaaDoorW.PrintMore
/-- Is a literal true in a model? -/
def trueB (model : List Bool) (x : Int) : Bool := (decide (x.natAbs < model.length) && model.getD x.natAbs false) == decide (x > 0)
def holds (l : List (List Int)) (model : List Bool) : Bool := lRight l && l.all (fun c => c.any (trueB model))
abbrev KRh : Kd (List Int) := Kd.slice 3 (Kd.int .i64)
end Go.Proofs.YtnknoaolbjofiaaDoor.Cl
end
section
set_option linter.unusedVariables false
set_option linter.unusedSimpArgs false
namespace Go.Proofs.YtnknoaolbjofiaaDoor.Cl
open Go.RowKit Go.Proofs.YtnknoaolbjofiaaDoorW.PrintWords Go.Proofs.YtnknoaolbjofiaaDoorW.PrintLast Go.Proofs.YtnknoaolbjofiaaDoorW.PrintMore
attribute [local go_sem] max2_int min2_int
theorem most_snoc (l : List (List Int)) (c : List Int) (n : Nat) : (l ++ [c]).foldl mostC n = mostC (l.foldl mostC n) c := by rw [List.foldl_append]; rfl
theorem mostC_snoc (c : List Int) (x : Int) (n : Nat) : mostC n (c ++ [x]) = max (mostC n c) x.natAbs := by
  induction c generalizing n with
  | nil => rfl
  | cons y c ih => simp only [List.cons_append, mostC, ih]
theorem mostC_le {c : List Int} (h : cRight c = true) {n : Nat} (hn : n ≤ 1048576) : mostC n c ≤ 1048576 := by
  induction c generalizing n with
  | nil => exact hn
  | cons x c ih =>
    have h' : litOk x = true ∧ cRight c = true := by
      unfold cRight at h ⊢
      rw [List.all_cons, Bool.and_eq_true] at h
      exact h
    have hx := h'.1
    simp [litOk] at hx
    simp only [mostC]
    exact ih h'.2 (by omega)
theorem most_bound {l : List (List Int)} (h : lRight l = true) {n : Nat} (hn : n ≤ 1048576) : l.foldl mostC n ≤ 1048576 := by
  induction l generalizing n with
  | nil => exact hn
  | cons c l ih =>
    have h' : cRight c = true ∧ lRight l = true := by
      unfold lRight at h ⊢
      rw [List.all_cons, Bool.and_eq_true] at h
      exact h
    exact ih h'.2 (mostC_le h'.1 hn)
set_option maxRecDepth 100000 in
set_option maxHeartbeats 4000000 in
theorem most_calls (A : Option Addr) (cap : Nat) (l : List (List Int)) (w : World) (hC : KRh.C w A l.length l) (hcap : l.length ≤ cap) (hr : lRight l = true) :
    Calls Tryd.prog 24 #[.slice A l.length cap] w fun e w' => e = .returned (.int .i64 (most l : Int)) ∧ w' = w := by
  have HC := Aside0.mk hC
  have HR := Lib.hid hr
  have hlen : l.length ≤ 9223372036854775807 := by have h1 := hC.1; have h2 := hC.2.1; omega
  clear hC hr
  go_enter Tryd.func24, Tryd.ntmps24
  go_wp2
  go_loop [3, 10] (fun v3 v10 => ∃ i n : Nat, v10 = .int .i64 i ∧ v3 = .int .i64 n ∧ Aside0 (i ≤ l.length) ∧ Aside0 (n = (l.take i).foldl mostC 0)) (fun _ i => l.length - (intOf i).toNat)
  case atStart => exact ⟨0, 0, rfl, rfl, ⟨Nat.zero_le _⟩, ⟨rfl⟩⟩
  case round =>
    obtain ⟨i, n, rfl, rfl, hi, hn⟩ := hrel
    have hi := hi.out
    by_cases hlt : i < l.length
    · obtain ⟨ad, c, e, _, hK, hc0⟩ := Kd.C_get HC.out ([] : List Int) (i : Int) (by omega) (by omega)
      simp only [Int.toNat_natCast, List.getD_eq_getElem?_getD, List.getElem?_eq_getElem hlt, Option.getD_some] at hK hc0
      obtain ⟨A0, c0, rfl, l0, g0⟩ := hK
      cases e
      have hcell : w.cell? (ad.add i) = some (.slice A0 l[i].length c0) := by
        have hq := hc0 0 _ rfl
        rwa [Nat.add_zero, show (i * KRh.sz) = i from Nat.mul_one i] at hq
      have G0 := Aside0.mk g0
      have hcl : l[i].length ≤ 9223372036854775807 := by have h1 := g0.1; have h2 := g0.2.1; omega
      have HCR := Lib.hid (cRight_of HR.out (List.getElem_mem hlt))
      have hnb : n ≤ 1048576 := by rw [hn.out]; exact most_bound (by unfold lRight; rw [List.all_eq_true]; intro d hd; exact cRight_of HR.out (List.mem_of_mem_take hd)) (by omega)
      have HNB := Aside0.mk hnb
      have hnx : (l.take (i + 1)).foldl mostC 0 = mostC n l[i] := by rw [List.take_succ_eq_append_getElem hlt, most_snoc, ← hn.out]
      have HNX := Lib.hid hnx
      clear hc0 g0 hnx hnb
      generalize l[i] = c at hcell G0 hcl HCR HNX
      go_wp2
      go_loop [3, 16] (fun v3 v16 => ∃ j m : Nat, v16 = .int .i64 j ∧ v3 = .int .i64 m ∧ Aside0 (j ≤ c.length) ∧ Aside0 (m = mostC n (c.take j))) (fun _ j => c.length - (intOf j).toNat)
      case atStart => exact ⟨0, n, rfl, rfl, ⟨Nat.zero_le _⟩, ⟨rfl⟩⟩
      case round =>
        obtain ⟨j, m, rfl, rfl, hj, hm⟩ := hrel
        have hj := hj.out
        by_cases hjlt : j < c.length
        · obtain ⟨ad2, e2, hcell2⟩ := Kd.at_int G0.out (j : Int) (by omega) (by omega)
          cases e2
          rw [rd_at hjlt, Int.toNat_natCast] at hcell2
          have hx := List.all_eq_true.1 HCR.out c[j] (List.getElem_mem hjlt)
          simp [litOk] at hx
          have hvar := fun W => variable_any c[j] W
          rw [show vr c[j] = (c[j].natAbs : Int) by unfold vr mx wrap64; split <;> omega] at hvar
          have HV := Lib.hid hvar
          have hmx : mostC n (c.take (j + 1)) = max m c[j].natAbs := by rw [List.take_succ_eq_append_getElem hjlt, mostC_snoc, ← hm.out]
          have HMX := Lib.hid hmx
          clear hvar hmx hx
          generalize c[j] = x at hcell2 HV HMX
          generalize x.natAbs = a at HV HMX
          go_wp2_with (go_at_call 35; refine (HV.out _).mono ?_; rintro e w' ⟨rfl, rfl⟩)
          go_round
          case rel => exact ⟨j + 1, max m a, by go_num, by congr 1; omega, ⟨hjlt⟩, ⟨HMX.out.symm⟩⟩
          case measure => simp [intOf]; omega
        · have ej : j = c.length := by omega
          subst ej
          have hfin := HNX.out
          have hmm := hm.out
          rw [List.take_length] at hmm
          have HF := Aside0.mk (hmm.trans hfin.symm)
          clear hfin hmm
          go_wp2
          go_round
          case rel => exact ⟨i + 1, m, by go_num, rfl, ⟨hlt⟩, HF⟩
          case measure => simp [intOf]; omega
    · have ei : i = l.length := by omega
      subst ei
      have hfin := hn.out
      rw [List.take_length] at hfin
      have HF := Lib.hid hfin
      clear hfin
      go_wp2
      go_ret
      exact ⟨by unfold most; rw [← HF.out]; rfl, rfl⟩
end Go.Proofs.YtnknoaolbjofiaaDoor.Cl
end
section
set_option linter.unusedVariables false
namespace Go.Proofs
open Go.Shelf
def Tryd.lays166_ren : Go.Shelf.Ren := ⟨fun | 166 => 39 | 240 => 54 | 276 => 64 | n => n, fun | 0 => 0 | 3 => 3 | 4 => 4 | 5 => 5 | 9 => 9 | 20 => 20 | 37 => 63 | 70 => 62 | 72 => 65 | 75 => 67 | 80 => 71 | 164 => 92 | n => n, fun | n => n⟩
theorem Tryd.lays166 : Go.Proofs.Lays.n166 Tryd.prog Tryd.lays166_ren := {
  mixed := by kernel_rfl
  f166 := Tryd.func39.trans (congrArg some (by kernel_rfl))
  f240 := Tryd.func54.trans (congrArg some (by kernel_rfl))
  f276 := Tryd.func64.trans (congrArg some (by kernel_rfl))
  t0 := Tryd.underlying0
  a0 := Tryd.isAgg0
  z0 := Tryd.sizeOf0
  v0 := Tryd.zeroValue0
  t3 := Tryd.underlying3
  a3 := Tryd.isAgg3
  z3 := Tryd.sizeOf3
  v3 := Tryd.zeroValue3
  t4 := Tryd.underlying4
  a4 := Tryd.isAgg4
  z4 := Tryd.sizeOf4
  v4 := Tryd.zeroValue4
  t9 := Tryd.underlying9
  a9 := Tryd.isAgg9
  z9 := Tryd.sizeOf9
  v9 := Tryd.zeroValue9
  t20 := Tryd.underlying20
  a20 := Tryd.isAgg20
  z20 := Tryd.sizeOf20
  v20 := Tryd.zeroValue20
  t37 := Tryd.underlying63
  a37 := Tryd.isAgg63
  z37 := Tryd.sizeOf63
  v37 := Tryd.zeroValue63
  t70 := Tryd.underlying62
  a70 := Tryd.isAgg62
  z70 := Tryd.sizeOf62
  v70 := Tryd.zeroValue62
  t72 := Tryd.underlying65
  a72 := Tryd.isAgg65
  z72 := Tryd.sizeOf65
  v72 := Tryd.zeroValue65
  t75 := Tryd.underlying67
  a75 := Tryd.isAgg67
  z75 := Tryd.sizeOf67
  v75 := Tryd.zeroValue67
  t164 := Tryd.underlying92
  a164 := Tryd.isAgg92
  z164 := Tryd.sizeOf92
  v164 := Tryd.zeroValue92 }
theorem Tryd.Builder_Extra_166 : Builder.Extra Tryd.prog Tryd.lays166_ren := {
  sizeBuilder := by kernel_rfl
  liesBuilder := by kernel_rfl
  t5 := Tryd.underlying5
  a5 := Tryd.isAgg5
  z5 := Tryd.sizeOf5
  v5 := Tryd.zeroValue5
  infoByte := by kernel_rfl
  cellsByte := by kernel_rfl
  sizeByte := by kernel_rfl
  neB5 := by decide }
open Go.RowKit in
theorem Tryd.Builder_WriteString (B b : Nat) (bs : List Value) (s : ByteArray) (w : World) (h : Lib.IsBuilder 65 5 B b bs w) (hlen : bs.length + s.size ≤ 140737488355328) (hBw : B ≤ w.heap.size) :
    Calls Tryd.prog 39 #[.pointer (some ⟨b, 0, none⟩), .string s] w fun e w' => e = .returned (.tuple #[.int .i64 s.size, .nilIface]) ∧ (Lib.BuilderAt 65 5 B b (.pointer (some ⟨b, 0, none⟩)) (bs ++ Lib.strCells s) w' ∧ Below B w w') := Any.Builder_WriteString Tryd.lays166 Tryd.Builder_Extra_166 B b bs s w h hlen hBw
end Go.Proofs
end
section
set_option linter.unusedVariables false
set_option linter.unusedSimpArgs false
namespace Go.Proofs.YtnknoaolbjofiaaDoor.Cl
open Go.RowKit Go.Proofs.YtnknoaolbjofiaaDoorW.PrintWords Go.Proofs.YtnknoaolbjofiaaDoorW.PrintLast Go.Proofs.YtnknoaolbjofiaaDoorW.PrintMore
/-- A clause's line, and the whole text. -/
def printC (c : List Int) : List UInt8 := (c.map fun x => Lib.itoa x ++ [32]).flatten ++ [48, 10]
def printL (l : List (List Int)) : List UInt8 := [112, 32, 99, 110, 102, 32] ++ Lib.itoa (most l) ++ [32] ++ Lib.itoa l.length ++ [10] ++ (l.map printC).flatten
abbrev Tab (w : World) : Prop := Lib.TabIs Tryd.prog w "internal/strconv.uint64pow10" .u64 Lib.pow10Tab
theorem itoa_calls (x : Int) (h0 : -9223372036854775808 ≤ x) (h1 : x ≤ 9223372036854775807) {w W : World} (hT : Tab w) (hW : Below w.heap.size w W) :
    Calls Tryd.prog 40 #[.int .i64 x] W fun e w' => e = .returned (.string ⟨(Lib.itoa x).toArray⟩) ∧ Below W.heap.size W w' :=
  (Tryd.strconv_Itoa x h0 h1 W ((Lib.tabBelow_of_tabIs hT) W hW)).mono fun e w' ⟨he, k, os, hw⟩ => ⟨he, by rw [hw]; exact Lib.below_grow _ _ (Nat.le_refl _) k os⟩
theorem builder_below {T e : TypeId} {B b : Nat} {p : Value} {bs : List Value} {W W' : World} (h : Lib.BuilderAt T e B b p bs W) (hb : Below W.heap.size W W') : Lib.BuilderAt T e B b p bs W' := by
  have hlt := h.lt
  obtain ⟨hB, v, hv, hown, hne⟩ := h
  exact ⟨hB, v, (hb.block b hlt).trans hv, hown.kept (row := none) ⟨hb.os, hb.tape, hb.output, hb.size, fun k hk _ => hb.block k hk⟩ (Classical.em _), hne⟩
theorem isBuilder_below {T e : TypeId} {B b : Nat} {bs : List Value} {W W' : World} (h : Lib.IsBuilder T e B b bs W) (hb : Below W.heap.size W W') : Lib.IsBuilder T e B b bs W' :=
  h.elim (fun x => .inl (builder_below x hb)) (fun x => .inr (builder_below x hb))
/-- One write, in bytes. -/
theorem write_calls (B b : Nat) (l s : List UInt8) (W : World) (h : Lib.IsBuilder 65 5 B b (Lib.byteCells l) W) (hlen : l.length + s.length ≤ 140737488355328) (hBw : B ≤ W.heap.size) :
    Calls Tryd.prog 39 #[.pointer (some ⟨b, 0, none⟩), .string ⟨s.toArray⟩] W fun e w' => (∃ n : Int, e = .returned (.tuple #[.int .i64 n, .nilIface])) ∧ Lib.IsBuilder 65 5 B b (Lib.byteCells (l ++ s)) w' ∧ Below B W w' :=
  (Tryd.Builder_WriteString B b (Lib.byteCells l) ⟨s.toArray⟩ W h (by simpa [Lib.byteCells, ByteArray.size] using hlen) hBw).mono fun e w' ⟨he, hb, hB⟩ => ⟨⟨_, he⟩, .inr (by rw [Lib.byteCells_append]; exact hb), hB⟩
end Go.Proofs.YtnknoaolbjofiaaDoor.Cl
end
section
set_option linter.unusedVariables false
set_option linter.unusedSimpArgs false
namespace Go.Proofs.YtnknoaolbjofiaaDoor.Cl
open Go.RowKit Go.Proofs.YtnknoaolbjofiaaDoorW.PrintWords Go.Proofs.YtnknoaolbjofiaaDoorW.PrintLast Go.Proofs.YtnknoaolbjofiaaDoorW.PrintMore
/-- The words so far, of a list of literals. -/
def litsT (c : List Int) : List UInt8 := (c.map fun x => Lib.itoa x ++ [32]).flatten
theorem litsT_snoc (c : List Int) (x : Int) : litsT (c ++ [x]) = litsT c ++ (Lib.itoa x ++ [32]) := by simp [litsT]
theorem litsT_length {c : List Int} (h : ∀ x ∈ c, -9223372036854775808 ≤ x ∧ x ≤ 9223372036854775807) : (litsT c).length ≤ 22 * c.length := by
  induction c with
  | nil => simp [litsT]
  | cons x c ih =>
    have h1 := Lib.itoa_length_le x (h x (by simp)).1 (h x (by simp)).2
    have h2 := ih (fun y hy => h y (by simp [hy]))
    have e : litsT (x :: c) = Lib.itoa x ++ [32] ++ litsT c := by simp [litsT]
    rw [e]
    simp only [List.length_append, List.length_cons, List.length_nil]
    omega
def linesT (l : List (List Int)) : List UInt8 := (l.map printC).flatten
theorem linesT_snoc (l : List (List Int)) (c : List Int) : linesT (l ++ [c]) = linesT l ++ (litsT c ++ [48, 10]) := by simp [linesT, printC, litsT]
theorem linesT_length {l : List (List Int)} (h : ∀ c ∈ l, c.length ≤ 10000 ∧ ∀ x ∈ c, -9223372036854775808 ≤ x ∧ x ≤ 9223372036854775807) : (linesT l).length ≤ 220002 * l.length := by
  induction l with
  | nil => simp [linesT]
  | cons c l ih =>
    have h1 := litsT_length (h c (by simp)).2
    have h2 := ih (fun d hd => h d (by simp [hd]))
    have h3 := (h c (by simp)).1
    have e : linesT (c :: l) = litsT c ++ [48, 10] ++ linesT l := by simp [linesT, printC, litsT]
    rw [e]
    simp only [List.length_append, List.length_cons, List.length_nil]
    omega
theorem str_app (a b : List UInt8) : (⟨a.toArray⟩ : ByteArray) ++ ⟨b.toArray⟩ = ⟨(a ++ b).toArray⟩ := by
  apply ByteArray.ext
  simp
def headT (l : List (List Int)) : List UInt8 := [112, 32, 99, 110, 102, 32] ++ Lib.itoa (most l) ++ [32] ++ Lib.itoa l.length ++ [10]
theorem printL_eq (l : List (List Int)) : printL l = headT l ++ linesT l := rfl
set_option maxRecDepth 100000 in
set_option maxHeartbeats 4000000 in
theorem print_calls (A : Option Addr) (cap : Nat) (l : List (List Int)) (w : World) (hC : KRh.C w A l.length l) (hcap : l.length ≤ cap) (hr : lRight l = true) (hl1 : l.length ≤ 10000) (hl2 : ∀ c ∈ l, c.length ≤ 10000) (hT : Tab w) :
    Calls Tryd.prog 19 #[.slice A l.length cap] w fun e w' => e = .returned (.tuple #[.string ⟨(printL l).toArray⟩, .int .i64 0]) ∧ Below w.heap.size w w' := by
  have hright := right_calls A cap l
  have hC0 := hC
  have HC := Aside0.mk hC
  have HR := Lib.hid hr
  have HT := Lib.hid hT
  have HL := Aside0.mk (And.intro hl1 hl2)
  have hrt := fun W (hW : Below w.heap.size w W) => right_calls A cap l W (Kd.C_below hC hW) hcap
  rw [hr] at hrt
  have hmo := fun W (hW : Below w.heap.size w W) => most_calls A cap l W (Kd.C_below hC hW) hcap hr
  have HRT := Lib.hid hrt
  have HMO := Lib.hid hmo
  have hmb : most l ≤ 1048576 := most_bound (l := l) hr (n := 0) (by omega)
  have HMB := Aside0.mk hmb
  clear hright hC0 hC hr hT hl1 hl2 hrt hmo hmb
  go_enter Tryd.func19, Tryd.ntmps19
  go_wp2_with fail
  refine (HRT.out _ (Below.refl _ _)).mono ?_
  rintro e w1 ⟨rfl, nd, rfl⟩
  go_wp2_with fail
  have HB0 : Aside0 (Below w.heap.size w ((w.drewN nd).alloc (.cells #[.pointer none, .slice none 0 0] 65))) := ⟨below_alloc (pw_below_drewN (Below.refl _ _) _) _⟩
  have HI0 : Aside0 (Lib.IsBuilder 65 5 w.heap.size w.heap.size (Lib.byteCells []) ((w.drewN nd).alloc (.cells #[.pointer none, .slice none 0 0] 65))) := ⟨by
    have h := Lib.fresh_isBuilder 65 5 (w.drewN nd)
    show Lib.IsBuilder _ _ _ _ [] _
    simpa using h⟩
  generalize (w.drewN nd).alloc (.cells #[.pointer none, .slice none 0 0] 65) = W0 at HB0 HI0 ⊢
  refine (HMO.out _ HB0.out).mono ?_
  rintro e w' ⟨rfl, rfl⟩
  go_wp2_with fail
  have hl1 := Lib.itoa_length_le (most l : Int) (by omega) (by have := HMB.out; omega)
  have hl2 := Lib.itoa_length_le (l.length : Int) (by omega) (by have := HL.out.1; omega)
  refine (itoa_calls (most l : Int) (by omega) (by have := HMB.out; omega) HT.out HB0.out).mono ?_
  rintro e W1 ⟨rfl, hb⟩
  have HI1 := Aside0.mk (isBuilder_below HI0.out hb)
  have HB1 := Aside0.mk (below_then HB0.out HB0.out.size hb)
  clear hb HI0 HB0 HMO
  go_wp2_with fail
  have hcat : (({ data := #[112, 32, 99, 110, 102, 32] } : ByteArray) ++ { data := (Lib.itoa (most l : Int)).toArray } ++ { data := #[32] } ++ { data := (Lib.itoa (l.length : Int)).toArray } ++ { data := #[10] }) = ⟨(headT l).toArray⟩ := by
    show ((⟨[112, 32, 99, 110, 102, 32].toArray⟩ : ByteArray) ++ ⟨(Lib.itoa (most l : Int)).toArray⟩ ++ ⟨[32].toArray⟩ ++ ⟨(Lib.itoa (l.length : Int)).toArray⟩ ++ ⟨[10].toArray⟩) = _
    rw [str_app, str_app, str_app, str_app]
    rfl
  have hhl : (headT l).length ≤ 60 := by
    simp only [headT, List.length_append, List.length_cons, List.length_nil]
    omega
  have HHL := Aside0.mk hhl
  have HCAT := Lib.hid hcat
  clear hcat hhl
  refine (itoa_calls (l.length : Int) (by omega) (by have := HL.out.1; omega) HT.out HB1.out).mono ?_
  rintro e W2 ⟨rfl, hb⟩
  have HI2 := Aside0.mk (isBuilder_below HI1.out hb)
  have HB2 := Aside0.mk (below_then HB1.out HB1.out.size hb)
  clear hb HI1 HB1
  go_wp2_with fail
  rw [HCAT.out]
  refine (write_calls w.heap.size w.heap.size [] (headT l) W2 HI2.out (by have := HHL.out; simp; omega) HB2.out.size).mono ?_
  rintro e W3 ⟨⟨n3, rfl⟩, hi, hb⟩
  rw [List.nil_append] at hi
  have HI3 := Aside0.mk hi
  have HB3 := Aside0.mk (HB2.out.trans hb)
  clear hi hb HI2 HB2 HCAT hl1 hl2
  go_wp2
  go_loopw [28] (fun v28 wr => ∃ i : Nat, v28 = .int .i64 i ∧ Aside0 (i ≤ l.length) ∧ Aside0 (Lib.IsBuilder 65 5 w.heap.size w.heap.size (Lib.byteCells (headT l ++ linesT (l.take i))) wr) ∧ Aside0 (Below w.heap.size w wr)) (fun i _ => l.length - (intOf i).toNat)
  case atStart => exact ⟨0, rfl, ⟨Nat.zero_le _⟩, ⟨by simpa [linesT] using HI3.out⟩, HB3⟩
  case round =>
    clear HI3 HB3
    obtain ⟨i, rfl, hi, hbd, hb⟩ := hrel
    have hi := hi.out
    have hll := HL.out.1
    by_cases hlt : i < l.length
    · obtain ⟨ad, c, e, _, hK, hc0⟩ := Kd.C_get HC.out ([] : List Int) (i : Int) (by omega) (by omega)
      simp only [Int.toNat_natCast, List.getD_eq_getElem?_getD, List.getElem?_eq_getElem hlt, Option.getD_some] at hK hc0
      obtain ⟨A0, c0, rfl, l0, g0⟩ := hK
      cases e
      have hcell : wr.cell? (ad.add i) = some (.slice A0 l[i].length c0) := by
        refine pw_cell_below hb.out ?_
        have hq := hc0 0 _ rfl
        rwa [Nat.add_zero, show (i * KRh.sz) = i from Nat.mul_one i] at hq
      have G0 := Aside0.mk g0
      have hcl : l[i].length ≤ 10000 := HL.out.2 _ (List.getElem_mem hlt)
      have HCR := Lib.hid (cRight_of HR.out (List.getElem_mem hlt))
      have htl : (headT l ++ linesT (l.take i)).length ≤ 60 + 220002 * 10000 := by
        have h1 := linesT_length (l := l.take i) (fun d hd => ⟨HL.out.2 _ (List.mem_of_mem_take hd), fun x hx => by
          have := List.all_eq_true.1 (cRight_of HR.out (List.mem_of_mem_take hd)) x hx
          simp [litOk] at this
          omega⟩)
        have h2 := HHL.out
        have h3 := HL.out.1
        have h4 : (l.take i).length ≤ l.length := by rw [List.length_take]; omega
        rw [List.length_append]
        omega
      have HTL := Aside0.mk htl
      have hnx : headT l ++ linesT (l.take (i + 1)) = (headT l ++ linesT (l.take i)) ++ (litsT l[i] ++ [48, 10]) := by rw [List.take_succ_eq_append_getElem hlt, linesT_snoc, List.append_assoc]
      have HNX := Lib.hid hnx
      clear hc0 g0 hnx htl
      generalize l[i] = c at hcell G0 hcl HCR HNX
      generalize headT l ++ linesT (l.take i) = T at hbd HTL HNX
      go_wp2
      go_loopw [34] (fun v34 wr => ∃ j : Nat, v34 = .int .i64 j ∧ Aside0 (j ≤ c.length) ∧ Aside0 (Lib.IsBuilder 65 5 w.heap.size w.heap.size (Lib.byteCells (T ++ litsT (c.take j))) wr) ∧ Aside0 (Below w.heap.size w wr)) (fun j _ => c.length - (intOf j).toNat)
      case atStart => exact ⟨0, rfl, ⟨Nat.zero_le _⟩, ⟨by simpa [litsT] using hbd.out⟩, hb⟩
      case round =>
        clear hcell hbd hb
        obtain ⟨j, rfl, hj, hbj, hb2⟩ := hrel
        have hj := hj.out
        by_cases hjlt : j < c.length
        · obtain ⟨ad2, e2, hcell2⟩ := Kd.at_int G0.out (j : Int) (by omega) (by omega)
          cases e2
          rw [rd_at hjlt, Int.toNat_natCast] at hcell2
          have hcell3 := pw_cell_below hb2.out hcell2
          have hx := List.all_eq_true.1 HCR.out c[j] (List.getElem_mem hjlt)
          simp [litOk] at hx
          have hlx := Lib.itoa_length_le c[j] (by omega) (by omega)
          have hit := itoa_calls c[j] (by omega) (by omega) HT.out hb2.out
          have htj : (T ++ litsT (c.take j)).length ≤ 3000000000 := by
            have h1 := litsT_length (c := c.take j) (fun x hx => by
              have := List.all_eq_true.1 HCR.out x (List.mem_of_mem_take hx)
              simp [litOk] at this
              omega)
            have h2 := HTL.out
            have h3 : (c.take j).length ≤ c.length := by rw [List.length_take]; omega
            rw [List.length_append]
            omega
          have HTJ := Aside0.mk htj
          have htx : T ++ litsT (c.take (j + 1)) = (T ++ litsT (c.take j)) ++ (Lib.itoa c[j] ++ [32]) := by rw [List.take_succ_eq_append_getElem hjlt, litsT_snoc, List.append_assoc]
          have HTX := Lib.hid htx
          have hcat : (({ data := (Lib.itoa c[j]).toArray } : ByteArray) ++ { data := #[32] }) = ⟨(Lib.itoa c[j] ++ [32]).toArray⟩ := str_app (Lib.itoa c[j]) [32]
          have HCAT := Lib.hid hcat
          have HIT := Lib.hid hit
          clear hcell2 hx hit htj htx hcat
          generalize c[j] = x at hcell3 hlx HTX HCAT HIT
          generalize T ++ litsT (c.take j) = T2 at hbj HTJ HTX
          go_wp2_with fail
          refine HIT.out.mono ?_
          rintro e W2 ⟨rfl, hb⟩
          have HI2 := Aside0.mk (isBuilder_below hbj.out hb)
          have HB2 := Aside0.mk (below_then hb2.out hb2.out.size hb)
          clear hb hbj hb2 hcell3
          go_wp2_with fail
          rw [HCAT.out]
          refine (write_calls w.heap.size w.heap.size T2 _ W2 HI2.out (by have := HTJ.out; simp; omega) HB2.out.size).mono ?_
          rintro e W3 ⟨⟨n3, rfl⟩, hi3, hb3⟩
          rw [← HTX.out] at hi3
          have HI3 := Aside0.mk hi3
          have HB3 := Aside0.mk (HB2.out.trans hb3)
          clear hi3 hb3 HI2 HB2 HCAT HIT
          go_wp2
          go_roundw
          case rel => exact ⟨j + 1, by go_num, ⟨hjlt⟩, HI3, HB3⟩
          case measure => simp [intOf]; omega
        · have ej : j = c.length := by omega
          subst ej
          have hbj2 := hbj.out
          rw [List.take_length] at hbj2
          have HBJ := Aside0.mk hbj2
          have htj : (T ++ litsT c).length ≤ 3000000000 := by
            have h1 := litsT_length (c := c) (fun x hx => by
              have := List.all_eq_true.1 HCR.out x hx
              simp [litOk] at this
              omega)
            have h2 := HTL.out
            rw [List.length_append]
            omega
          have HTJ := Aside0.mk htj
          have htx := HNX.out
          rw [← List.append_assoc] at htx
          have HTX := Lib.hid htx
          clear hbj hbj2 htj htx
          go_wp2_with fail
          refine (write_calls w.heap.size w.heap.size (T ++ litsT c) [48, 10] _ HBJ.out (by have := HTJ.out; simp only [List.length_cons, List.length_nil]; omega) hb2.out.size).mono ?_
          rintro e W3 ⟨⟨n3, rfl⟩, hi3, hb3⟩
          rw [← HTX.out] at hi3
          have HI3 := Aside0.mk hi3
          have HB3 := Aside0.mk (hb2.out.trans hb3)
          clear hi3 hb3 HBJ hb2
          go_wp2
          go_roundw
          case rel => exact ⟨i + 1, by go_num, ⟨hlt⟩, HI3, HB3⟩
          case measure => simp [intOf]; omega
    · have ei : i = l.length := by omega
      subst ei
      have hbd2 := hbd.out
      rw [List.take_length] at hbd2
      have HBD := Aside0.mk hbd2
      clear hbd hbd2
      go_wp2_with fail
      refine (Tryd.Builder_String w.heap.size w.heap.size (headT l ++ linesT l) _ HBD.out (by simp [headT])).mono ?_
      rintro e W3 ⟨rfl, hb3⟩
      have HB3 := Aside0.mk (hb.out.trans hb3)
      clear hb hb3
      go_wp2
      go_ret2
      exact ⟨rfl, HB3.out⟩
end Go.Proofs.YtnknoaolbjofiaaDoor.Cl
end
