/- For the statement of the row ClauseBack: what its proof needs of the text ClIdle14. -/
import Derived.Test.YtnknoaolbjofiaaDoorKClMore14
import Derived.Test.YtnknoaolbjofiaaDoorKB4

set_option linter.unusedVariables false
set_option linter.unusedSimpArgs false
namespace Go.Proofs.YtnknoaolbjofiaaDoor.Cl
open Go.RowKit Go.Proofs.YtnknoaolbjofiaaDoorW.PrintWords Go.Proofs.YtnknoaolbjofiaaDoorW.PrintLast Go.Proofs.YtnknoaolbjofiaaDoorW.PrintMore
open Go.Proofs.YtnknoaolbjofiaaDoor.X
theorem own_ne_lit {v : Value} {n m : Nat} (h : ∃ b, v.ownBlock = some b ∧ n ≤ b) (h2 : m < n) : v.ownBlock ≠ some m := by
  obtain ⟨b, hb, hle⟩ := h
  rw [hb]
  intro e
  have := Option.some.inj e
  omega
theorem own_ne_app {v v' : Value} {n m : Nat} (h : v'.ownBlock = v.ownBlock ∨ ∃ b, v'.ownBlock = some b ∧ n ≤ b) (h1 : v.ownBlock ≠ some m) (h2 : m < n) : v'.ownBlock ≠ some m := by
  rcases h with h | h
  · rw [h]; exact h1
  · exact own_ne_lit h h2
end Go.Proofs.YtnknoaolbjofiaaDoor.Cl
