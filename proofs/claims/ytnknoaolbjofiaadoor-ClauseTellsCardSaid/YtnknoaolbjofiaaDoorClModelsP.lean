/- The plain law ClauseModels: what spreads is true in each model of the clauses in which what it spreads from is true. -/
import Derived.Test.YtnknoaolbjofiaaDoorB4
import Derived.Test.YtnknoaolbjofiaaDoorClLaw14P
set_option linter.unusedVariables false
set_option linter.unusedSimpArgs false
namespace Go.Proofs.YtnknoaolbjofiaaDoor.Cl

theorem trueB_neg (model : List Bool) {x : Int} (h : x ≠ 0) : trueB model (-x) = !trueB model x := by
  unfold trueB
  rw [Int.natAbs_neg]
  generalize (decide (x.natAbs < model.length) && model.getD x.natAbs false) = b
  by_cases hp : x > 0
  · rw [decide_eq_false (show ¬ -x > 0 by omega), decide_eq_true hp]
    cases b <;> rfl
  · rw [decide_eq_true (show -x > 0 by omega), decide_eq_false hp]
    cases b <;> rfl
theorem der_true {l : List (List Int)} {fr : List Int} {model : List Bool} (hh : holds l model = true) (hf : ∀ x ∈ fr, trueB model x = true) {x : Int} (hd : Der l fr x) : trueB model x = true := by
  unfold holds at hh
  rw [Bool.and_eq_true] at hh
  refine hd (fun z => trueB model z = true) hf fun c hc y hy hall => ?_
  have hany := List.all_eq_true.1 hh.2 c hc
  rw [List.any_eq_true] at hany
  obtain ⟨z, hz, ht⟩ := hany
  by_cases e : z = y
  · exact e ▸ ht
  · have h1 : trueB model (-z) = true := hall z hz e
    rw [trueB_neg model (ne_zero_of (cRight_of hh.1 hc) hz), ht] at h1
    cases h1
theorem models_plain {l : List (List Int)} {fr : List Int} {model : List Bool} (hh : holds l model = true) (hr : cRight fr = true) (hf : ∀ x ∈ fr, trueB model x = true) : (spread l fr).2 = true ∧ ∀ x ∈ (spread l fr).1, trueB model x = true := by
  have hl : lRight l = true := by unfold holds at hh; rw [Bool.and_eq_true] at hh; exact hh.1
  rcases spread_char hl hr with ⟨hfail, e⟩ | ⟨_, r, e, _, hd⟩
  · exfalso
    rcases hfail with ⟨x, h1, h2⟩ | ⟨c, hc, hy⟩
    · have t1 := der_true hh hf h1
      have t2 := der_true hh hf h2
      rw [trueB_neg model (fun e0 => by have := h1.right hl hr; rw [e0] at this; simp [litOk] at this), t1] at t2
      cases t2
    · unfold holds at hh
      rw [Bool.and_eq_true] at hh
      have hany := List.all_eq_true.1 hh.2 c hc
      rw [List.any_eq_true] at hany
      obtain ⟨z, hz, ht⟩ := hany
      have h1 := der_true (by unfold holds; rw [Bool.and_eq_true]; exact hh) hf (hy z hz)
      rw [trueB_neg model (ne_zero_of (cRight_of hl hc) hz), ht] at h1
      cases h1
  · rw [e]
    exact ⟨rfl, fun x hx => der_true hh hf ((hd x).1 hx)⟩
end Go.Proofs.YtnknoaolbjofiaaDoor.Cl
