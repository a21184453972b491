/- For the statement of the row ClauseBack: what its proof needs of the text ClBackP. -/
import Derived.Test.YtnknoaolbjofiaaDoorKClTextP

set_option linter.unusedVariables false
set_option linter.unusedSimpArgs false
namespace Go.Proofs.YtnknoaolbjofiaaDoor.Cl
theorem splitBy_length' (b : UInt8) : ∀ s, (splitBy b s).length ≤ s.length + 1
  | [] => by simp [splitBy]
  | x :: s => by
    have h := splitBy_length' b s
    unfold splitBy
    split
    · simp; omega
    · split
      · simp
      · rename_i w r e
        rw [e] at h
        simp at h ⊢
        omega
theorem splitBy_sub' (b : UInt8) : ∀ s, ∀ w ∈ splitBy b s, w.length ≤ s.length
  | [], w, h => by simp [splitBy] at h; simp [h]
  | x :: s, w, h => by
    have ih := splitBy_sub' b s
    unfold splitBy at h
    split at h
    · rcases List.mem_cons.1 h with rfl | h
      · simp
      · have := ih w h; simp; omega
    · split at h
      · obtain rfl := List.mem_singleton.1 h; simp
      · rename_i w0 r e
        rcases List.mem_cons.1 h with rfl | h
        · have := ih w0 (by rw [e]; simp); simp; omega
        · have := ih w (by rw [e]; simp [h]); simp; omega
/-- No byte of a number's text is a blank or an end of line. -/
theorem itoa_byte {x : Int} {c : UInt8} (h : c ∈ Lib.itoa x) : c ≠ 32 ∧ c ≠ 10 := by
  by_cases hx : x < 0
  · obtain ⟨u, rfl⟩ : ∃ u : Nat, x = -(u : Int) := ⟨x.natAbs, by omega⟩
    rw [Lib.itoa_neg u (by omega)] at h
    rcases List.mem_cons.1 h with rfl | h
    · exact ⟨by decide, by decide⟩
    · have hd := dec_digs u u (Nat.le_refl _) c h
      exact ⟨fun e => by subst e; have := hd.1; have h2 : (32 : UInt8).toNat = 32 := rfl; omega, fun e => by subst e; have := hd.1; have h2 : (10 : UInt8).toNat = 10 := rfl; omega⟩
  · obtain ⟨u, rfl⟩ : ∃ u : Nat, x = (u : Int) := ⟨x.natAbs, by omega⟩
    rw [Lib.itoa_nonneg] at h
    have hd := dec_digs u u (Nat.le_refl _) c h
    exact ⟨fun e => by subst e; have := hd.1; have h2 : (32 : UInt8).toNat = 32 := rfl; omega, fun e => by subst e; have := hd.1; have h2 : (10 : UInt8).toNat = 10 := rfl; omega⟩
theorem lit_in {x : Int} (h : litOk x = true) : -9223372036854775808 ≤ x ∧ x ≤ 9223372036854775807 ∧ x ≠ 0 := by
  simp [litOk] at h
  omega
/-- A clause's line, without its end. -/
theorem line_words {c : List Int} : splitBy 32 (litsT c ++ [48]) = c.map Lib.itoa ++ [[48]] := by
  induction c with
  | nil => simp [litsT, splitBy]
  | cons x c ih =>
    rw [litsT, List.map_cons, List.flatten_cons]
    show splitBy 32 (Lib.itoa x ++ [32] ++ litsT c ++ [48]) = _
    rw [show Lib.itoa x ++ [32] ++ litsT c ++ [48] = Lib.itoa x ++ 32 :: (litsT c ++ [48]) by simp, splitBy_at _ (fun h => (itoa_byte h).1 rfl), ih]
    rfl
theorem lits_no_end {c : List Int} : (10 : UInt8) ∉ litsT c ++ [48] := by
  intro h
  rcases List.mem_append.1 h with h | h
  · unfold litsT at h
    rw [List.mem_flatten] at h
    obtain ⟨w, hw, hc⟩ := h
    rw [List.mem_map] at hw
    obtain ⟨x, _, rfl⟩ := hw
    rcases List.mem_append.1 hc with h | h
    · exact (itoa_byte h).2 rfl
    · simp at h
  · simp at h
theorem numIn_itoa {v : Nat} {x : Int} (hv : v ≤ 2147483647) (h : x.natAbs ≤ v) : numIn v (Lib.itoa x) = some x := by
  unfold numIn
  rw [numP_itoa (by omega) (by omega)]
  exact if_pos h
theorem lineP_of {v : Nat} (hv : v ≤ 1048576) : ∀ {c : List Int}, (∀ x ∈ c, x.natAbs ≤ v ∧ x ≠ 0) → lineP v (c.map Lib.itoa ++ [[48]]) = some c
  | [], _ => by
    have e0 : Lib.itoa 0 = [48] := by rw [show (0 : Int) = ((0 : Nat) : Int) from rfl, Lib.itoa_nonneg, Lib.decDigits_one (by omega)]; rfl
    have : numIn v [48] = some 0 := e0 ▸ numIn_itoa (v := v) (x := 0) (by omega) (by simp)
    show (if numIn v [48] = some 0 then some [] else none) = _
    rw [if_pos this]
  | x :: c, h => by
    have ih := lineP_of hv (c := c) (fun y hy => h y (by simp [hy]))
    have hx := h x (by simp)
    have hne : c.map Lib.itoa ++ [[48]] ≠ [] := by simp
    rw [List.map_cons, List.cons_append]
    cases hr : c.map Lib.itoa ++ [[48]] with
    | nil => exact absurd hr hne
    | cons y r =>
      rw [hr] at ih
      show (match numIn v (Lib.itoa x) with
        | some n => if n = 0 then none else (lineP v (y :: r)).map (n :: ·)
        | none => none) = _
      rw [numIn_itoa (by omega) hx.1]
      simp only []
      rw [if_neg hx.2, ih]
      rfl
theorem linesT_split {l : List (List Int)} : splitBy 10 (linesT l) = l.map (fun c => litsT c ++ [48]) ++ [[]] := by
  induction l with
  | nil => rfl
  | cons c l ih =>
    rw [show linesT (c :: l) = (litsT c ++ [48]) ++ 10 :: linesT l by simp [linesT, printC, litsT], splitBy_at _ lits_no_end, ih]
    rfl
theorem pgo_of {v : Nat} (hv : v ≤ 1048576) {n : Nat} : ∀ {l : List (List Int)} {k : Nat} {out : List (List Int)}, (∀ c ∈ l, ∀ x ∈ c, x.natAbs ≤ v ∧ x ≠ 0) → n + 1 = k + l.length →
    pgo v n (l.map (fun c => litsT c ++ [48]) ++ [[]]) k out = (out ++ l, 0, 0)
  | [], k, out, _, hn => by
    show (if ([] : List UInt8) = [] ∧ n < k then (out, 0, 0) else _) = _
    rw [if_pos ⟨rfl, by simp at hn; omega⟩, List.append_nil]
  | c :: l, k, out, h, hn => by
    have ih := pgo_of hv (n := n) (l := l) (k := k + 1) (out := out ++ [c]) (fun d hd => h d (by simp [hd])) (by simp at hn; omega)
    rw [List.map_cons, List.cons_append, pgo_step (by simp), if_neg (by simp at hn; omega), line_words, lineP_of hv (h c (by simp))]
    simp only []
    rw [ih]
    simp
theorem head_no_end {l : List (List Int)} : (10 : UInt8) ∉ [112, 32, 99, 110, 102, 32] ++ Lib.itoa (most l) ++ [32] ++ Lib.itoa l.length := by
  intro h
  simp only [List.mem_append] at h
  rcases h with ((h | h) | h) | h
  · simp at h
  · exact (itoa_byte h).2 rfl
  · simp at h
  · exact (itoa_byte h).2 rfl
/-- WHAT IS PRINTED IS READ AS IT WAS. -/
theorem parse_print {l : List (List Int)} (hr : lRight l = true) (hl : l.length ≤ 2147483647) : parseP (printL l) = (l, 0, 0) := by
  have hmb : most l ≤ 1048576 := most_bound (l := l) hr (n := 0) (by omega)
  have hlit : ∀ c ∈ l, ∀ x ∈ c, x.natAbs ≤ most l ∧ x ≠ 0 := fun c hc x hx => ⟨most_ge hc hx, ne_zero_of (cRight_of hr hc) hx⟩
  have hsp : splitBy 10 (printL l) = ([112, 32, 99, 110, 102, 32] ++ Lib.itoa (most l) ++ [32] ++ Lib.itoa l.length) :: (l.map (fun c => litsT c ++ [48]) ++ [[]]) := by
    rw [show printL l = ([112, 32, 99, 110, 102, 32] ++ Lib.itoa (most l) ++ [32] ++ Lib.itoa l.length) ++ 10 :: linesT l by simp [printL, linesT], splitBy_at _ head_no_end, linesT_split]
  have hhead : headP ([112, 32, 99, 110, 102, 32] ++ Lib.itoa (most l) ++ [32] ++ Lib.itoa l.length) = some (most l, l.length) := by
    have hw : splitBy 32 ([112, 32, 99, 110, 102, 32] ++ Lib.itoa (most l) ++ [32] ++ Lib.itoa l.length) = [[112], [99, 110, 102], Lib.itoa (most l), Lib.itoa l.length] := by
      rw [show [112, 32, 99, 110, 102, 32] ++ Lib.itoa (most l) ++ [32] ++ Lib.itoa l.length = [112] ++ 32 :: ([99, 110, 102] ++ 32 :: (Lib.itoa (most l) ++ 32 :: Lib.itoa l.length)) by simp,
        splitBy_at _ (by decide), splitBy_at _ (by decide), splitBy_at _ (fun h => (itoa_byte h).1 rfl), splitBy_none (fun h => (itoa_byte h).1 rfl)]
    unfold headP
    rw [hw]
    have e : headW [[112], [99, 110, 102], Lib.itoa (most l), Lib.itoa l.length] = (match numIn 1048576 (Lib.itoa (most l)), numIn 2147483647 (Lib.itoa l.length) with
      | some v, some n => if 0 ≤ v ∧ 0 ≤ n then some (v.toNat, n.toNat) else none
      | _, _ => none) := by simp only [headW]; simp; rfl
    rw [e, numIn_itoa (by omega) (by omega), numIn_itoa (by omega) (by omega)]
    simp only []
    rw [if_pos ⟨by omega, by omega⟩]
    rfl
  unfold parseP
  rw [hsp]
  show (match headP _ with
    | none => ([], 2, 1)
    | some (v, n) => if _ = [] then ([], 2, 1) else pgo v n _ 1 []) = _
  rw [hhead]
  simp only []
  rw [if_neg (by simp), pgo_of hmb hlit (by omega), List.nil_append]
theorem lineP_right {v : Nat} (hv : v ≤ 1048576) : ∀ {W : List (List UInt8)} {c : List Int}, lineP v W = some c → cRight c = true ∧ c.length ≤ W.length
  | [], c, h => by cases h
  | [x], c, h => by
    have h : (if numIn v x = some 0 then some [] else none) = some c := h
    split at h
    · cases h; exact ⟨rfl, by simp⟩
    · cases h
  | x :: y :: r, c, h => by
    have h : (match numIn v x with
      | some n => if n = 0 then none else (lineP v (y :: r)).map (n :: ·)
      | none => none) = some c := h
    cases hn : numIn v x with
    | none => rw [hn] at h; cases h
    | some n =>
      rw [hn] at h
      simp only [] at h
      split at h
      · cases h
      · rename_i h0
        cases hl : lineP v (y :: r) with
        | none => rw [hl] at h; cases h
        | some d =>
          rw [hl] at h
          cases h
          have ih := lineP_right hv hl
          have hle := numIn_le hn
          refine ⟨?_, by simp at ih ⊢; omega⟩
          unfold cRight at ih ⊢
          rw [List.all_cons, ih.1, Bool.and_true]
          simp [litOk, h0]
          omega
theorem pgo_right {v n : Nat} (hv : v ≤ 1048576) {m : Nat} : ∀ {W : List (List UInt8)} {k : Nat} {out R : List (List Int)} {e ln : Int}, (∀ x ∈ W, x.length ≤ m) → lRight out = true → (∀ c ∈ out, c.length ≤ m + 1) → pgo v n W k out = (R, e, ln) → e = 0 →
    lRight R = true ∧ R.length ≤ out.length + W.length ∧ (∀ c ∈ R, c.length ≤ m + 1) ∧ ln = 0
  | [], k, out, R, e, ln, hm, ho, hl, h, h0 => by
    have h : (([] : List (List Int)), (2 : Int), (k : Int) + 1) = (R, e, ln) := h
    cases h
    cases h0
  | [x], k, out, R, e, ln, hm, ho, hl, h, h0 => by
    have h : (if x = [] ∧ n < k then (out, 0, 0) else ([], 2, (k : Int) + 1)) = (R, e, ln) := h
    split at h
    · cases h
      exact ⟨ho, by simp, hl, rfl⟩
    · cases h
      cases h0
  | x :: y :: r, k, out, R, e, ln, hm, ho, hl, h, h0 => by
    rw [pgo_step (by simp)] at h
    split at h
    · cases h
      cases h0
    · cases hp : lineP v (splitBy 32 x) with
      | none =>
        rw [hp] at h
        cases h
        cases h0
      | some c =>
        rw [hp] at h
        have hc := lineP_right hv hp
        have hx := hm x (by simp)
        have hsl : (splitBy 32 x).length ≤ x.length + 1 := splitBy_length' 32 x
        have ih := pgo_right hv (m := m) (W := y :: r) (k := k + 1) (out := out ++ [c]) (fun z hz => hm z (by simp [hz])) (by
          unfold lRight at ho ⊢
          rw [List.all_append, ho, Bool.true_and]
          simp [hc.1]) (fun d hd => by
          rcases List.mem_append.1 hd with h | h
          · exact hl d h
          · obtain rfl := List.mem_singleton.1 h
            omega) h h0
        refine ⟨ih.1, ?_, ih.2.2.1, ih.2.2.2⟩
        have := ih.2.1
        simp at this ⊢
        omega
theorem parse_right {s : List UInt8} {R : List (List Int)} {e ln : Int} (h : parseP s = (R, e, ln)) (h0 : e = 0) : lRight R = true ∧ R.length ≤ s.length + 1 ∧ ∀ c ∈ R, c.length ≤ s.length + 1 := by
  unfold parseP at h
  have hl := splitBy_length' 10 s
  have hsub := splitBy_sub' 10 s
  have hne := splitBy_ne 10 s
  generalize splitBy 10 s = W at h hl hsub hne
  cases W with
  | nil => exact absurd rfl hne
  | cons a r =>
    have h : (match headP a with
      | none => (([] : List (List Int)), (2 : Int), (1 : Int))
      | some (v, n) => if r = [] then ([], 2, 1) else pgo v n r 1 []) = (R, e, ln) := h
    cases hp : headP a with
    | none => rw [hp] at h; cases h; cases h0
    | some vn =>
      obtain ⟨v, n⟩ := vn
      rw [hp] at h
      simp only [] at h
      split at h
      · cases h; cases h0
      · have hv := (headW_le hp).1
        have := pgo_right hv (m := s.length) (W := r) (k := 1) (out := []) (fun x hx => hsub x (by simp [hx])) rfl (by simp) h h0
        refine ⟨this.1, ?_, this.2.2.1⟩
        have h2 := this.2.1
        simp at h2 hl
        omega
end Go.Proofs.YtnknoaolbjofiaaDoor.Cl
