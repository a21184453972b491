/- spreader.ask: what a clause asks for: the plain law. -/
import Derived.Test.YtnknoaolbjofiaaDoorClSpec
set_option linter.unusedVariables false
set_option linter.unusedSimpArgs false
namespace Go.Proofs.YtnknoaolbjofiaaDoor.Cl

/-- none: it asks for nothing; some 0: all its literals are false; some z: z alone is left. -/
def askLoop (S : List Int) : Int → List Int → Option Int
  | last, [] => some last
  | last, x :: r => if (S.contains (-x) || x == last) = true then askLoop S last r else if (S.contains x || last != 0) = true then none else askLoop S x r

theorem askLoop_some {S : List Int} : ∀ (c : List Int) (last z : Int), (∀ x ∈ c, x ≠ 0) → askLoop S last c = some z →
    (∀ y ∈ c, y = z ∨ -y ∈ S) ∧ (last ≠ 0 → z = last) ∧ (z = last ∨ (z ∈ c ∧ z ∉ S ∧ -z ∉ S))
  | [], last, z, _, h => by
    simp only [askLoop, Option.some.injEq] at h
    exact ⟨by simp, fun _ => h.symm, .inl h.symm⟩
  | x :: r, last, z, h0, h => by
    have h0r : ∀ y ∈ r, y ≠ 0 := fun y hy => h0 y (by simp [hy])
    have hx0 := h0 x (by simp)
    unfold askLoop at h
    by_cases h1 : (S.contains (-x) || x == last) = true
    · rw [if_pos h1] at h
      obtain ⟨i1, i2, i3⟩ := askLoop_some r last z h0r h
      refine ⟨fun y hy => ?_, i2, ?_⟩
      · rcases List.mem_cons.1 hy with rfl | hy
        · simp only [Bool.or_eq_true, List.contains_iff_mem, beq_iff_eq] at h1
          rcases h1 with h1 | h1
          · exact .inr h1
          · subst h1
            exact .inl (i2 hx0).symm
        · exact i1 y hy
      · rcases i3 with h | ⟨h, h', h''⟩
        · exact .inl h
        · exact .inr ⟨by simp [h], h', h''⟩
    · rw [if_neg h1] at h
      by_cases h2 : (S.contains x || last != 0) = true
      · rw [if_pos h2] at h
        cases h
      · rw [if_neg h2] at h
        simp only [Bool.or_eq_true, not_or, List.contains_iff_mem, bne_iff_ne, ne_eq, Decidable.not_not] at h1 h2
        obtain ⟨i1, i2, i3⟩ := askLoop_some r x z h0r h
        have hz : z = x := i2 hx0
        subst hz
        refine ⟨fun y hy => ?_, fun hl => absurd h2.2 hl, .inr ⟨by simp, h2.1, h1.1⟩⟩
        rcases List.mem_cons.1 hy with rfl | hy
        · exact .inl rfl
        · exact i1 y hy

theorem askLoop_none {S : List Int} : ∀ (c : List Int) (last : Int), (∀ x ∈ c, x ≠ 0) → askLoop S last c = none →
    (∃ x ∈ c, x ∈ S) ∨ (∃ u ∈ c, ∃ v ∈ c, u ≠ v ∧ -u ∉ S ∧ -v ∉ S) ∨ (last ≠ 0 ∧ ∃ u ∈ c, u ≠ last ∧ -u ∉ S)
  | [], last, _, h => by simp [askLoop] at h
  | x :: r, last, h0, h => by
    have h0r : ∀ y ∈ r, y ≠ 0 := fun y hy => h0 y (by simp [hy])
    have hx0 := h0 x (by simp)
    unfold askLoop at h
    by_cases h1 : (S.contains (-x) || x == last) = true
    · rw [if_pos h1] at h
      rcases askLoop_none r last h0r h with ⟨y, hy, hS⟩ | ⟨u, hu, v, hv, r1⟩ | ⟨hl, u, hu, r1⟩
      · exact .inl ⟨y, by simp [hy], hS⟩
      · exact .inr (.inl ⟨u, by simp [hu], v, by simp [hv], r1⟩)
      · exact .inr (.inr ⟨hl, u, by simp [hu], r1⟩)
    · rw [if_neg h1] at h
      simp only [Bool.or_eq_true, not_or, List.contains_iff_mem, beq_iff_eq] at h1
      by_cases h2 : (S.contains x || last != 0) = true
      · simp only [Bool.or_eq_true, List.contains_iff_mem, bne_iff_ne] at h2
        rcases h2 with h2 | h2
        · exact .inl ⟨x, by simp, h2⟩
        · exact .inr (.inr ⟨h2, x, by simp, h1.2, h1.1⟩)
      · rw [if_neg h2] at h
        rcases askLoop_none r x h0r h with ⟨y, hy, hS⟩ | ⟨u, hu, v, hv, r1⟩ | ⟨hl, u, hu, hne, hS⟩
        · exact .inl ⟨y, by simp [hy], hS⟩
        · exact .inr (.inl ⟨u, by simp [hu], v, by simp [hv], r1⟩)
        · exact .inr (.inl ⟨x, by simp, u, by simp [hu], fun e => hne e.symm, h1.1, hS⟩)

/-- What is to be done of a clause. -/
theorem ask_none {S c : List Int} (h0 : ∀ x ∈ c, x ≠ 0) (h : askLoop S 0 c = none) : Settled S c := by
  rcases askLoop_none c 0 h0 h with h | h | h
  · exact .inl h
  · exact .inr h
  · exact absurd rfl h.1
theorem ask_zero {S c : List Int} (h0 : ∀ x ∈ c, x ≠ 0) (h : askLoop S 0 c = some 0) : ∀ y ∈ c, -y ∈ S := fun y hy => by
  rcases (askLoop_some c 0 0 h0 h).1 y hy with h1 | h1
  · exact absurd h1 (h0 y hy)
  · exact h1
theorem ask_one {S c : List Int} {z : Int} (h0 : ∀ x ∈ c, x ≠ 0) (h : askLoop S 0 c = some z) (hz : z ≠ 0) : z ∈ c ∧ z ∉ S ∧ -z ∉ S ∧ ∀ y ∈ c, y ≠ z → -y ∈ S := by
  obtain ⟨h1, _, h3⟩ := askLoop_some c 0 z h0 h
  rcases h3 with h3 | ⟨h3, h4, h5⟩
  · exact absurd h3 hz
  · exact ⟨h3, h4, h5, fun y hy hne => (h1 y hy).resolve_left hne⟩
end Go.Proofs.YtnknoaolbjofiaaDoor.Cl
