/- For the statement of the row ClauseParses: what its proof needs of the text ClBackP. -/
import Derived.Test.YtnknoaolbjofiaaDoorPClTextP

set_option linter.unusedVariables false
set_option linter.unusedSimpArgs false
namespace Go.Proofs.YtnknoaolbjofiaaDoor.Cl
theorem splitBy_length' (b : UInt8) : ∀ s, (splitBy b s).length ≤ s.length + 1
  | [] => by simp [splitBy]
  | x :: s => by
    have h := splitBy_length' b s
    unfold splitBy
    split
    · simp; omega
    · split
      · simp
      · rename_i w r e
        rw [e] at h
        simp at h ⊢
        omega
theorem splitBy_sub' (b : UInt8) : ∀ s, ∀ w ∈ splitBy b s, w.length ≤ s.length
  | [], w, h => by simp [splitBy] at h; simp [h]
  | x :: s, w, h => by
    have ih := splitBy_sub' b s
    unfold splitBy at h
    split at h
    · rcases List.mem_cons.1 h with rfl | h
      · simp
      · have := ih w h; simp; omega
    · split at h
      · obtain rfl := List.mem_singleton.1 h; simp
      · rename_i w0 r e
        rcases List.mem_cons.1 h with rfl | h
        · have := ih w0 (by rw [e]; simp); simp; omega
        · have := ih w (by rw [e]; simp [h]); simp; omega
theorem lineP_right {v : Nat} (hv : v ≤ 1048576) : ∀ {W : List (List UInt8)} {c : List Int}, lineP v W = some c → cRight c = true ∧ c.length ≤ W.length
  | [], c, h => by cases h
  | [x], c, h => by
    have h : (if numIn v x = some 0 then some [] else none) = some c := h
    split at h
    · cases h; exact ⟨rfl, by simp⟩
    · cases h
  | x :: y :: r, c, h => by
    have h : (match numIn v x with
      | some n => if n = 0 then none else (lineP v (y :: r)).map (n :: ·)
      | none => none) = some c := h
    cases hn : numIn v x with
    | none => rw [hn] at h; cases h
    | some n =>
      rw [hn] at h
      simp only [] at h
      split at h
      · cases h
      · rename_i h0
        cases hl : lineP v (y :: r) with
        | none => rw [hl] at h; cases h
        | some d =>
          rw [hl] at h
          cases h
          have ih := lineP_right hv hl
          have hle := numIn_le hn
          refine ⟨?_, by simp at ih ⊢; omega⟩
          unfold cRight at ih ⊢
          rw [List.all_cons, ih.1, Bool.and_true]
          simp [litOk, h0]
          omega
theorem pgo_right {v n : Nat} (hv : v ≤ 1048576) {m : Nat} : ∀ {W : List (List UInt8)} {k : Nat} {out R : List (List Int)} {e ln : Int}, (∀ x ∈ W, x.length ≤ m) → lRight out = true → (∀ c ∈ out, c.length ≤ m + 1) → pgo v n W k out = (R, e, ln) → e = 0 →
    lRight R = true ∧ R.length ≤ out.length + W.length ∧ (∀ c ∈ R, c.length ≤ m + 1) ∧ ln = 0
  | [], k, out, R, e, ln, hm, ho, hl, h, h0 => by
    have h : (([] : List (List Int)), (2 : Int), (k : Int) + 1) = (R, e, ln) := h
    cases h
    cases h0
  | [x], k, out, R, e, ln, hm, ho, hl, h, h0 => by
    have h : (if x = [] ∧ n < k then (out, 0, 0) else ([], 2, (k : Int) + 1)) = (R, e, ln) := h
    split at h
    · cases h
      exact ⟨ho, by simp, hl, rfl⟩
    · cases h
      cases h0
  | x :: y :: r, k, out, R, e, ln, hm, ho, hl, h, h0 => by
    rw [pgo_step (by simp)] at h
    split at h
    · cases h
      cases h0
    · cases hp : lineP v (splitBy 32 x) with
      | none =>
        rw [hp] at h
        cases h
        cases h0
      | some c =>
        rw [hp] at h
        have hc := lineP_right hv hp
        have hx := hm x (by simp)
        have hsl : (splitBy 32 x).length ≤ x.length + 1 := splitBy_length' 32 x
        have ih := pgo_right hv (m := m) (W := y :: r) (k := k + 1) (out := out ++ [c]) (fun z hz => hm z (by simp [hz])) (by
          unfold lRight at ho ⊢
          rw [List.all_append, ho, Bool.true_and]
          simp [hc.1]) (fun d hd => by
          rcases List.mem_append.1 hd with h | h
          · exact hl d h
          · obtain rfl := List.mem_singleton.1 h
            omega) h h0
        refine ⟨ih.1, ?_, ih.2.2.1, ih.2.2.2⟩
        have := ih.2.1
        simp at this ⊢
        omega
theorem parse_right {s : List UInt8} {R : List (List Int)} {e ln : Int} (h : parseP s = (R, e, ln)) (h0 : e = 0) : lRight R = true ∧ R.length ≤ s.length + 1 ∧ ∀ c ∈ R, c.length ≤ s.length + 1 := by
  unfold parseP at h
  have hl := splitBy_length' 10 s
  have hsub := splitBy_sub' 10 s
  have hne := splitBy_ne 10 s
  generalize splitBy 10 s = W at h hl hsub hne
  cases W with
  | nil => exact absurd rfl hne
  | cons a r =>
    have h : (match headP a with
      | none => (([] : List (List Int)), (2 : Int), (1 : Int))
      | some (v, n) => if r = [] then ([], 2, 1) else pgo v n r 1 []) = (R, e, ln) := h
    cases hp : headP a with
    | none => rw [hp] at h; cases h; cases h0
    | some vn =>
      obtain ⟨v, n⟩ := vn
      rw [hp] at h
      simp only [] at h
      split at h
      · cases h; cases h0
      · have hv := (headW_le hp).1
        have := pgo_right hv (m := s.length) (W := r) (k := 1) (out := []) (fun x hx => hsub x (by simp [hx])) rfl (by simp) h h0
        refine ⟨this.1, ?_, this.2.2.1⟩
        have h2 := this.2.1
        simp at h2 hl
        omega
theorem pgo_nil {v n : Nat} : ∀ {W : List (List UInt8)} {k : Nat} {out R : List (List Int)} {e ln : Int}, pgo v n W k out = (R, e, ln) → e ≠ 0 → R = []
  | [], k, out, R, e, ln, h, h0 => by
    have h : (([] : List (List Int)), (2 : Int), (k : Int) + 1) = (R, e, ln) := h
    cases h
    rfl
  | [x], k, out, R, e, ln, h, h0 => by
    have h : (if x = [] ∧ n < k then (out, 0, 0) else ([], 2, (k : Int) + 1)) = (R, e, ln) := h
    split at h
    · cases h
      exact absurd rfl h0
    · cases h
      rfl
  | x :: y :: r, k, out, R, e, ln, h, h0 => by
    rw [pgo_step (by simp)] at h
    split at h
    · cases h
      rfl
    · cases hp : lineP v (splitBy 32 x) with
      | none =>
        rw [hp] at h
        cases h
        rfl
      | some c =>
        rw [hp] at h
        exact pgo_nil h h0
theorem parse_nil {s : List UInt8} {R : List (List Int)} {e ln : Int} (h : parseP s = (R, e, ln)) (h0 : e ≠ 0) : R = [] := by
  unfold parseP at h
  cases hW : splitBy 10 s with
  | nil => exact absurd hW (splitBy_ne 10 s)
  | cons a r =>
    rw [hW] at h
    have h : (match headP a with
      | none => (([] : List (List Int)), (2 : Int), (1 : Int))
      | some (v, n) => if r = [] then ([], 2, 1) else pgo v n r 1 []) = (R, e, ln) := h
    cases hp : headP a with
    | none => rw [hp] at h; cases h; rfl
    | some vn =>
      obtain ⟨v, n⟩ := vn
      rw [hp] at h
      simp only [] at h
      split at h
      · cases h; rfl
      · exact pgo_nil h h0
theorem parse_size {s : List UInt8} {R : List (List Int)} {e ln : Int} (h : parseP s = (R, e, ln)) : R.length ≤ s.length + 1 ∧ ∀ c ∈ R, c.length ≤ s.length + 1 := by
  by_cases h0 : e = 0
  · exact (parse_right h h0).2
  · rw [parse_nil h h0]
    simp
end Go.Proofs.YtnknoaolbjofiaaDoor.Cl
