/- The document's Right, Most, few, In, left: what the printed functions tell. -/
import Derived.Test.YtnknoaolbjofiaaDoorXx3
import Derived.Test.YtnknoaolbjofiaaDoorClRight
set_option linter.unusedVariables false
set_option linter.unusedSimpArgs false
namespace Go.Proofs.YtnknoaolbjofiaaDoor.Cl
open Go.RowKit Go.Proofs.YtnknoaolbjofiaaDoorW.PrintWords Go.Proofs.YtnknoaolbjofiaaDoorW.PrintMore
open Go.Proofs.YtnknoaolbjofiaaDoor.X

theorem wrap_nat {i : Nat} (h : i < 9223372036854775807) : wrap64 ((i : Int) + 1) = ((i + 1 : Nat) : Int) := by rw [wrap_up (by omega) (by omega)]; omega
theorem lit_f (x : Int) : backreachref14_Literal.f x = some (litOk x) := by
  unfold backreachref14_Literal.f litOk
  by_cases h : x = 0
  · subst h; rfl
  · rw [if_neg h]
    by_cases h1 : x ≥ -1048576
    · rw [if_pos h1]; simp [h, show -1048576 ≤ x from h1]
    · rw [if_neg h1]; simp [h, show ¬ -1048576 ≤ x from h1]

/-- Lists whose lengths are whole numbers of Go's. -/
def Fine (l : List (List Int)) : Prop := l.length < 9223372036854775807 ∧ ∀ c ∈ l, c.length < 9223372036854775807

theorem rright_in {l : List (List Int)} (hf : Fine l) {m : Nat} (hm : m < l.length) {r0 : Bool} (h0 : Ev (fun k => backreachref14_Right.l0 k l ((m + 1 : Nat) : Int)) r0) (d : Nat) :
    ∀ i : Nat, i ≤ l[m].length → l[m].length - i = d → Ev (fun k => backreachref14_Right.l1 k l (m : Int) (i : Int)) ((l[m].drop i).all litOk && r0) := by
  have hc := hf.2 _ (List.getElem_mem hm)
  have hl := hf.1
  induction d with
  | zero =>
    intro i hi hd
    have e : i = l[m].length := by omega
    subst e
    rw [List.drop_length, List.all_nil, Bool.true_and]
    refine Ev.step (f := fun k => backreachref14_Right.l0 k l ((m + 1 : Nat) : Int)) (fun k => ?_) h0
    simp only [backreachref14_Right.l1]
    rw [if_pos (by omega), if_pos (by omega), rdL_at hm, if_neg (by omega), wrap_nat (by omega)]
  | succ d ih =>
    intro i hi hd
    have hlt : i < l[m].length := by omega
    rw [drop_all litOk hlt]
    cases hx : litOk l[m][i] with
    | true =>
      refine Ev.step (f := fun k => backreachref14_Right.l1 k l (m : Int) ((i + 1 : Nat) : Int)) (fun k => ?_) (ih (i + 1) hlt (by omega))
      simp only [backreachref14_Right.l1]
      rw [if_pos (by omega), if_pos (by omega), rdL_at hm, if_pos (by omega), if_pos (by omega), rd_at hlt, lit_f, hx, Option.bind_some, if_pos rfl, wrap_nat (by omega)]
    | false =>
      refine Ev.step (f := fun _ => some false) (fun k => ?_) (Ev.now false)
      simp only [backreachref14_Right.l1]
      rw [if_pos (by omega), if_pos (by omega), rdL_at hm, if_pos (by omega), if_pos (by omega), rd_at hlt, lit_f, hx, Option.bind_some]
      rfl
theorem rright_out {l : List (List Int)} (hf : Fine l) (d : Nat) : ∀ i : Nat, i ≤ l.length → l.length - i = d → Ev (fun k => backreachref14_Right.l0 k l (i : Int)) ((l.drop i).all cRight) := by
  induction d with
  | zero =>
    intro i hi hd
    have e : i = l.length := by omega
    subst e
    rw [List.drop_length]
    refine Ev.step (f := fun _ => some true) (fun k => ?_) (Ev.now true)
    simp only [backreachref14_Right.l0]
    rw [if_neg (by omega)]
  | succ d ih =>
    intro i hi hd
    have hlt : i < l.length := by omega
    have h1 := rright_in hf hlt (ih (i + 1) hlt (by omega)) _ 0 (Nat.zero_le _) rfl
    rw [drop_all cRight hlt]
    refine Ev.step (f := fun k => backreachref14_Right.l1 k l (i : Int) 0) (fun k => ?_) ?_
    · simp only [backreachref14_Right.l0]
      rw [if_pos (by omega)]
    · simpa [cRight] using h1
theorem rright_ev {l : List (List Int)} (hf : Fine l) : Ev (fun k => backreachref14_Right.f k l) (lRight l) := by
  have := rright_out hf _ 0 (Nat.zero_le _) rfl
  simpa [backreachref14_Right.f, lRight] using this

/-! ### The greatest variable -/
def mostC (n : Nat) : List Int → Nat
  | [] => n
  | x :: r => mostC (max n x.natAbs) r
def most (l : List (List Int)) : Nat := l.foldl mostC 0
theorem mostC_ge : ∀ (c : List Int) (n : Nat), n ≤ mostC n c ∧ ∀ x ∈ c, x.natAbs ≤ mostC n c
  | [], n => ⟨Nat.le_refl _, by simp⟩
  | x :: r, n => by
    have h := mostC_ge r (max n x.natAbs)
    refine ⟨by have := h.1; simp only [mostC]; omega, fun y hy => ?_⟩
    rcases List.mem_cons.1 hy with rfl | hy
    · have := h.1; simp only [mostC]; omega
    · exact h.2 y hy
theorem most_ge {l : List (List Int)} {c : List Int} (hc : c ∈ l) {x : Int} (hx : x ∈ c) : x.natAbs ≤ most l := by
  have : ∀ (l : List (List Int)) (n : Nat), n ≤ l.foldl mostC n ∧ ∀ c ∈ l, ∀ x ∈ c, x.natAbs ≤ l.foldl mostC n := by
    intro l
    induction l with
    | nil => intro n; exact ⟨Nat.le_refl _, by simp⟩
    | cons d l ih =>
      intro n
      have h := ih (mostC n d)
      have h2 := mostC_ge d n
      refine ⟨Nat.le_trans h2.1 h.1, fun c hc x hx => ?_⟩
      rcases List.mem_cons.1 hc with rfl | hc
      · exact Nat.le_trans (h2.2 x hx) h.1
      · exact h.2 c hc x hx
  exact (this l 0).2 c hc x hx
theorem most_le {l : List (List Int)} {n : Nat} (h : ∀ c ∈ l, ∀ x ∈ c, x.natAbs ≤ n) : most l ≤ n := by
  have hC : ∀ (c : List Int) (m : Nat), m ≤ n → (∀ x ∈ c, x.natAbs ≤ n) → mostC m c ≤ n := by
    intro c
    induction c with
    | nil => intro m hm _; exact hm
    | cons x r ih => intro m hm hx; exact ih _ (by have := hx x (by simp); omega) fun y hy => hx y (by simp [hy])
  have : ∀ (l : List (List Int)) (m : Nat), m ≤ n → (∀ c ∈ l, ∀ x ∈ c, x.natAbs ≤ n) → l.foldl mostC m ≤ n := by
    intro l
    induction l with
    | nil => intro m hm _; exact hm
    | cons d l ih => intro m hm hc; exact ih _ (hC d m hm (hc d (by simp))) fun c hc' => hc c (by simp [hc'])
  exact this l 0 (Nat.zero_le _) h
theorem var_f {x : Int} (h1 : -9223372036854775807 ≤ x) (h2 : x ≤ 9223372036854775807) : backreachref14_Var.f x = some (x.natAbs : Int) := by
  unfold backreachref14_Var.f
  split
  · rw [show wrap64 (-x) = -x by unfold wrap64; omega]
    congr 1
    omega
  · congr 1
    omega
/-- Whole numbers of Go's but the least. -/
def Plain (l : List (List Int)) : Prop := ∀ c ∈ l, ∀ x ∈ c, -9223372036854775807 ≤ x ∧ x ≤ 9223372036854775807
theorem plain_right {l : List (List Int)} (h : lRight l = true) : Plain l := fun c hc x hx => by
  have := List.all_eq_true.1 (cRight_of h hc) x hx
  simp [litOk] at this
  omega
theorem rmost_in {l : List (List Int)} (hf : Fine l) (hp : Plain l) {m : Nat} (hm : m < l.length) {r0 : Nat → Nat} (h0 : ∀ n : Nat, Ev (fun k => backreachref14_Most.l0 k l (n : Int) ((m + 1 : Nat) : Int)) (r0 n : Int)) (d : Nat) :
    ∀ (i n : Nat), i ≤ l[m].length → l[m].length - i = d → Ev (fun k => backreachref14_Most.l1 k l (n : Int) (m : Int) (i : Int)) (r0 (mostC n (l[m].drop i)) : Int) := by
  have hc := hf.2 _ (List.getElem_mem hm)
  have hl := hf.1
  induction d with
  | zero =>
    intro i n hi hd
    have e : i = l[m].length := by omega
    subst e
    rw [List.drop_length]
    refine Ev.step (f := fun k => backreachref14_Most.l0 k l (n : Int) ((m + 1 : Nat) : Int)) (fun k => ?_) (h0 n)
    simp only [backreachref14_Most.l1]
    rw [if_pos (by omega), if_pos (by omega), rdL_at hm, if_neg (by omega), wrap_nat (by omega)]
  | succ d ih =>
    intro i n hi hd
    have hlt : i < l[m].length := by omega
    have hx := hp _ (List.getElem_mem hm) _ (List.getElem_mem hlt)
    rw [List.drop_eq_getElem_cons hlt]
    simp only [mostC]
    refine Ev.step (f := fun k => backreachref14_Most.l1 k l ((max n l[m][i].natAbs : Nat) : Int) (m : Int) ((i + 1 : Nat) : Int)) (fun k => ?_) (ih (i + 1) _ hlt (by omega))
    simp only [backreachref14_Most.l1]
    rw [if_pos (by omega), if_pos (by omega), rdL_at hm, if_pos (by omega), if_pos (by omega), rd_at hlt, var_f hx.1 hx.2, Option.bind_some, wrap_nat (by omega)]
    split
    · rw [show (max n l[m][i].natAbs : Nat) = l[m][i].natAbs by omega]
    · rw [show (max n l[m][i].natAbs : Nat) = n by omega]
theorem rmost_out {l : List (List Int)} (hf : Fine l) (hp : Plain l) (d : Nat) : ∀ (i n : Nat), i ≤ l.length → l.length - i = d → Ev (fun k => backreachref14_Most.l0 k l (n : Int) (i : Int)) (((l.drop i).foldl mostC n : Nat) : Int) := by
  induction d with
  | zero =>
    intro i n hi hd
    have e : i = l.length := by omega
    subst e
    rw [List.drop_length]
    refine Ev.step (f := fun _ => some (n : Int)) (fun k => ?_) (Ev.now _)
    simp only [backreachref14_Most.l0]
    rw [if_neg (by omega)]
  | succ d ih =>
    intro i n hi hd
    have hlt : i < l.length := by omega
    have h1 := rmost_in hf hp hlt (r0 := fun n => (l.drop (i + 1)).foldl mostC n) (fun n => ih (i + 1) n hlt (by omega)) _ 0 n (Nat.zero_le _) rfl
    rw [List.drop_eq_getElem_cons hlt, List.foldl_cons]
    refine Ev.step (f := fun k => backreachref14_Most.l1 k l (n : Int) (i : Int) 0) (fun k => ?_) (by simpa using h1)
    simp only [backreachref14_Most.l0]
    rw [if_pos (by omega)]
theorem rmost_ev {l : List (List Int)} (hf : Fine l) (hp : Plain l) : Ev (fun k => backreachref14_Most.f k l) (most l : Int) := by
  have := rmost_out hf hp _ 0 0 (Nat.zero_le _) rfl
  simpa [backreachref14_Most.f, most] using this

/-! ### Few -/
def small (l : List (List Int)) (a b : Nat) (v : Nat) : Bool := decide (l.length ≤ a) && (l.all (fun c => decide (c.length ≤ b)) && (!lRight l || decide (most l ≤ v)))
theorem rsmall_ev {l : List (List Int)} (hl : l.length < 9223372036854775807) {a b v : Nat} (hb : b < 9223372036854775807) : Ev (fun k => backreachref14_Small.f k l (a : Int) (b : Int) (v : Int)) (small l a b v) := by
  unfold small
  by_cases h1 : l.length ≤ a
  · rw [decide_eq_true h1, Bool.true_and]
    have loop : ∀ d i : Nat, i ≤ l.length → l.length - i = d → (∀ j, j < i → ∀ hj : j < l.length, l[j].length ≤ b) → Ev (fun k => backreachref14_Small.l0 k l (b : Int) (v : Int) (i : Int)) (l.all (fun c => decide (c.length ≤ b)) && (!lRight l || decide (most l ≤ v))) := by
      intro d
      induction d with
      | zero =>
        intro i hi hd hprev
        have e : i = l.length := by omega
        subst e
        have hall : ∀ c ∈ l, c.length ≤ b := fun c hc => by
          obtain ⟨j, hj, rfl⟩ := List.mem_iff_getElem.1 hc
          exact hprev j hj hj
        have hf : Fine l := ⟨hl, fun c hc => by have := hall c hc; omega⟩
        rw [List.all_eq_true.2 (fun c hc => decide_eq_true (hall c hc)), Bool.true_and]
        refine Ev.step (f := fun k => (backreachref14_Right.f k l).bind fun t122 => (if t122 = true then ((backreachref14_Most.f k l).bind fun t123 => (some (decide (t123 ≤ (v : Int))))) else (some true))) (fun k => ?_) ?_
        · simp only [backreachref14_Small.l0]
          rw [if_neg (by omega)]
        · refine Ev.bind (rright_ev hf) ?_
          cases h2 : lRight l with
          | true =>
            refine Ev.congr (f := fun k => (backreachref14_Most.f k l).bind fun t123 => (some (decide (t123 ≤ (v : Int))))) (fun k => rfl) (Ev.bind (rmost_ev hf (plain_right h2)) ?_)
            have : decide ((most l : Int) ≤ (v : Int)) = (!true || decide (most l ≤ v)) := by simp
            rw [this]
            exact Ev.now _
          | false => exact Ev.now _
      | succ d ih =>
        intro i hi hd hprev
        have hlt : i < l.length := by omega
        by_cases h2 : l[i].length ≤ b
        · refine Ev.step (f := fun k => backreachref14_Small.l0 k l (b : Int) (v : Int) ((i + 1 : Nat) : Int)) (fun k => ?_) (ih (i + 1) hlt (by omega) fun j hj hj2 => ?_)
          · simp only [backreachref14_Small.l0]
            rw [if_pos (by omega), if_pos (by omega), rdL_at hlt, if_neg (by omega), wrap_nat (by omega)]
          · rcases Nat.lt_or_ge j i with h3 | h3
            · exact hprev j h3 hj2
            · obtain rfl : j = i := by omega
              exact h2
        · have hno : l.all (fun c => decide (c.length ≤ b)) = false := by
            rw [List.all_eq_false]
            exact ⟨l[i], List.getElem_mem hlt, by simpa using h2⟩
          rw [hno, Bool.false_and]
          refine Ev.step (f := fun _ => some false) (fun k => ?_) (Ev.now false)
          simp only [backreachref14_Small.l0]
          rw [if_pos (by omega), if_pos (by omega), rdL_at hlt, if_pos (by omega)]
    refine Ev.congr (f := fun k => backreachref14_Small.l0 k l (b : Int) (v : Int) 0) (fun k => ?_) (loop l.length 0 (Nat.zero_le _) rfl fun j hj => by omega)
    simp only [backreachref14_Small.f]
    rw [if_neg (by omega)]
  · rw [decide_eq_false h1, Bool.false_and]
    refine Ev.congr (f := fun _ => some false) (fun k => ?_) (Ev.now false)
    simp only [backreachref14_Small.f]
    rw [if_pos (by omega)]
theorem small_fine {l : List (List Int)} {a b v : Nat} (ha : a < 9223372036854775807) (hb : b < 9223372036854775807) (h : small l a b v = true) : Fine l ∧ l.length ≤ a ∧ (∀ c ∈ l, c.length ≤ b) ∧ (lRight l = true → most l ≤ v) := by
  simp only [small, Bool.and_eq_true, decide_eq_true_eq, List.all_eq_true, Bool.or_eq_true, Bool.not_eq_true'] at h
  refine ⟨⟨by omega, fun c hc => by have := h.2.1 c hc; omega⟩, h.1, h.2.1, fun hr => ?_⟩
  rcases h.2.2 with h' | h'
  · rw [hr] at h'; cases h'
  · exact h'
theorem small_total {l : List (List Int)} {b : Nat} (h : ∀ c ∈ l, c.length ≤ b) : total l ≤ l.length * b := by
  induction l with
  | nil => simp [total]
  | cons c l ih =>
    have h1 := ih fun d hd => h d (by simp [hd])
    have h2 := h c (by simp)
    simp only [total, List.map_cons, List.foldr_cons, List.length_cons] at *
    rw [Nat.add_mul, Nat.one_mul]
    omega

/-! ### In, and what is left of a clause -/
theorem rin_ev {c : List Int} (hc : c.length < 9223372036854775807) (x : Int) : Ev (fun k => backreachref14_In.f k c x) (c.contains x) := by
  have loop : ∀ d i : Nat, i ≤ c.length → c.length - i = d → Ev (fun k => backreachref14_In.l0 k c x (i : Int)) ((c.drop i).contains x) := by
    intro d
    induction d with
    | zero =>
      intro i hi hd
      have e : i = c.length := by omega
      subst e
      rw [List.drop_length]
      refine Ev.step (f := fun _ => some false) (fun k => ?_) (Ev.now _)
      simp only [backreachref14_In.l0]
      rw [if_neg (by omega)]
    | succ d ih =>
      intro i hi hd
      have hlt : i < c.length := by omega
      rw [List.drop_eq_getElem_cons hlt, List.contains_cons]
      by_cases h : c[i] = x
      · have : (x == c[i]) = true := by simp [h]
        rw [this, Bool.true_or]
        refine Ev.step (f := fun _ => some true) (fun k => ?_) (Ev.now _)
        simp only [backreachref14_In.l0]
        rw [if_pos (by omega), if_pos (by omega), rd_at hlt, if_pos h]
      · have : (x == c[i]) = false := by simpa using fun e => h e.symm
        rw [this, Bool.false_or]
        refine Ev.step (f := fun k => backreachref14_In.l0 k c x ((i + 1 : Nat) : Int)) (fun k => ?_) (ih (i + 1) hlt (by omega))
        simp only [backreachref14_In.l0]
        rw [if_pos (by omega), if_pos (by omega), rd_at hlt, if_neg h, wrap_nat (by omega)]
  have := loop c.length 0 (Nat.zero_le _) rfl
  simpa [backreachref14_In.f] using this
end Go.Proofs.YtnknoaolbjofiaaDoor.Cl
