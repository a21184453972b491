/- clause.Right: what the printed function tells, and the call. -/
import Derived.Test.YtnknoaolbjofiaaDoorXx1
import Derived.Test.YtnknoaolbjofiaaDoorClSpec
set_option linter.unusedVariables false
set_option linter.unusedSimpArgs false
namespace Go.Proofs.YtnknoaolbjofiaaDoor.Cl
open Go.RowKit Go.Proofs.YtnknoaolbjofiaaDoorW.PrintWords Go.Proofs.YtnknoaolbjofiaaDoorW.PrintMore
open Go.Proofs.YtnknoaolbjofiaaDoor.X

theorem wrap_up {i : Int} (h0 : 0 ≤ i) (h : i < 9223372036854775807) : wrap64 (i + 1) = i + 1 := by
  unfold wrap64
  omega
theorem literal_f (x : Int) : clause_literal.f x = some (litOk x) := by
  unfold clause_literal.f litOk
  by_cases h : x = 0
  · subst h; rfl
  · rw [if_neg h]
    by_cases h1 : x ≥ -1048576
    · rw [if_pos h1]; simp [h, show -1048576 ≤ x from h1]
    · rw [if_neg h1]; simp [h, show ¬ -1048576 ≤ x from h1]
theorem drop_all {α : Type} {c : List α} (p : α → Bool) {i : Nat} (h : i < c.length) : (c.drop i).all p = (p c[i] && (c.drop (i + 1)).all p) := by
  rw [List.drop_eq_getElem_cons h, List.all_cons]
theorem rd_at {c : List Int} {i : Nat} (h : i < c.length) : rd c (i : Int) = c[i] := by
  simp [rd, List.getD_eq_getElem?_getD, List.getElem?_eq_getElem h]
theorem rdL_at {l : List (List Int)} {i : Nat} (h : i < l.length) : rd_L1 l (i : Int) = l[i] := by
  simp [rd_L1, List.getD_eq_getElem?_getD, List.getElem?_eq_getElem h]

theorem right_in {l : List (List Int)} {L x9 : Int} {r0 : Int} (h0 : Ev (fun k => clause_Right.l0 k l L (wrap64 (x9 + 1))) r0) (c : List Int) (hc : c.length ≤ 9223372036854775807) (d : Nat) :
    ∀ i : Nat, i ≤ c.length → c.length - i = d → Ev (fun k => clause_Right.l1 k l L x9 c (c.length : Int) (i : Int)) (if (c.drop i).all litOk then r0 else 3) := by
  induction d with
  | zero =>
    intro i hi hd
    have e : i = c.length := by omega
    subst e
    rw [List.drop_length]
    refine Ev.step (f := fun k => clause_Right.l0 k l L (wrap64 (x9 + 1))) (fun k => ?_) h0
    simp only [clause_Right.l1]
    rw [if_neg (by omega)]
  | succ d ih =>
    intro i hi hd
    have hlt : i < c.length := by omega
    have hw : wrap64 ((i : Int) + 1) = ((i + 1 : Nat) : Int) := by rw [wrap_up (by omega) (by omega)]; omega
    rw [drop_all litOk hlt]
    cases hx : litOk c[i] with
    | true =>
      refine Ev.step (f := fun k => clause_Right.l1 k l L x9 c (c.length : Int) ((i + 1 : Nat) : Int)) (fun k => ?_) (ih (i + 1) hlt (by omega))
      simp only [clause_Right.l1]
      rw [if_pos (by omega), if_pos (by omega), if_pos (by omega), rd_at hlt, literal_f, hx, Option.bind_some, if_pos rfl, hw]
    | false =>
      refine Ev.step (f := fun _ => some 3) (fun k => ?_) (Ev.now 3)
      simp only [clause_Right.l1]
      rw [if_pos (by omega), if_pos (by omega), if_pos (by omega), rd_at hlt, literal_f, hx, Option.bind_some]
      rfl
theorem right_out {l : List (List Int)} (hl : l.length ≤ 9223372036854775807) (hc : ∀ c ∈ l, c.length ≤ 9223372036854775807) (d : Nat) :
    ∀ i : Nat, i ≤ l.length → l.length - i = d → Ev (fun k => clause_Right.l0 k l (l.length : Int) (i : Int)) (if (l.drop i).all cRight then 0 else 3) := by
  induction d with
  | zero =>
    intro i hi hd
    have e : i = l.length := by omega
    subst e
    rw [List.drop_length]
    refine Ev.step (f := fun _ => some 0) (fun k => ?_) (Ev.now 0)
    simp only [clause_Right.l0]
    rw [if_neg (by omega)]
  | succ d ih =>
    intro i hi hd
    have hlt : i < l.length := by omega
    have hw : wrap64 ((i : Int) + 1) = ((i + 1 : Nat) : Int) := by rw [wrap_up (by omega) (by omega)]; omega
    have h1 := right_in (l := l) (L := (l.length : Int)) (x9 := (i : Int)) (by rw [hw]; exact ih (i + 1) hlt (by omega)) l[i] (hc _ (List.getElem_mem hlt)) _ 0 (Nat.zero_le _) rfl
    rw [drop_all cRight hlt]
    refine Ev.step (f := fun k => clause_Right.l1 k l (l.length : Int) (i : Int) l[i] (l[i].length : Int) 0) (fun k => ?_) ?_
    · simp only [clause_Right.l0]
      rw [if_pos (by omega), if_pos (by omega), if_pos (by omega), rdL_at hlt]
    · simp only [List.drop_zero] at h1
      cases hx : cRight l[i] with
      | true =>
        unfold cRight at hx
        rw [hx, if_pos rfl] at h1
        simpa using h1
      | false =>
        unfold cRight at hx
        rw [hx] at h1
        simpa using h1
theorem right_ev {l : List (List Int)} (hl : l.length ≤ 9223372036854775807) (hc : ∀ c ∈ l, c.length ≤ 9223372036854775807) : Ev (fun k => clause_Right.f k l) (if lRight l then 0 else 3) := by
  have := right_out hl hc _ 0 (Nat.zero_le _) rfl
  simpa [clause_Right.f, lRight] using this

theorem kdC_len {w : World} {A : Option Addr} {n : Nat} {c : List Int} (h : Kd.C (Kd.int .i64) w A n c) : c.length ≤ 9223372036854775807 := by
  have h1 := h.1
  have h2 := h.2.1
  omega
theorem kdC_rows {w : World} {A : Option Addr} {n : Nat} {l : List (List Int)} (h : Kd.C (Kd.slice 3 (Kd.int .i64)) w A n l) : l.length ≤ 9223372036854775807 ∧ ∀ c ∈ l, c.length ≤ 9223372036854775807 := by
  refine ⟨by have h1 := h.1; have h2 := h.2.1; omega, fun c hc => ?_⟩
  obtain ⟨i, hi, rfl⟩ := List.mem_iff_getElem.1 hc
  have hn : i < n := by have := h.1; omega
  obtain ⟨ad, cs, e, _, hK, _⟩ := Kd.C_get h ([] : List Int) (i : Int) (by omega) (by omega)
  obtain ⟨A0, c0, _, _, g0⟩ := hK
  simp only [Int.toNat_natCast, List.getD_eq_getElem?_getD, List.getElem?_eq_getElem hi, Option.getD_some] at g0
  exact kdC_len g0
theorem right_calls (A : Option Addr) (cap : Nat) (l : List (List Int)) (w : World) (h : Kd.C (Kd.slice 3 (Kd.int .i64)) w A l.length l) (hc : l.length ≤ cap) :
    Calls Tryd.prog 18 #[.slice A l.length cap] w fun e w' => e = .returned (.int .i64 (if lRight l then 0 else 3)) ∧ ∃ n, w' = w.drewN n := by
  obtain ⟨k, hk⟩ := (right_ev (kdC_rows h).1 (kdC_rows h).2).rounds
  exact (clause_Right.calls k A cap l _ w h hc hk).mono fun e w' ⟨he, hd⟩ => ⟨he, hd.out⟩
end Go.Proofs.YtnknoaolbjofiaaDoor.Cl
