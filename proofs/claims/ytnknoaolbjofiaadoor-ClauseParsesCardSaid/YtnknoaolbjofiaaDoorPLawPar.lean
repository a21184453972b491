/- For the statement of the row ClauseParses: what its proof needs of the text LawPar. -/
import Derived.Test.YtnknoaolbjofiaaDoorPClParses14

set_option linter.unusedVariables false
namespace Go.Proofs.YtnknoaolbjofiaaDoor.Cl
open Go.RowKit
theorem parses14 (s : ByteArray) (w : World) (hs : s.size ≤ 140737488351232) (hL : Libs w) :
    Calls Tryd.prog 8 #[.string s] w fun e w' => e = .returned (.bool true) ∧ Below w.heap.size w w' := by
  have h := parses14_law s.data.toList w hL
  have e : (⟨s.data.toList.toArray⟩ : ByteArray) = s := by simp
  rw [e] at h
  exact h
end Go.Proofs.YtnknoaolbjofiaaDoor.Cl
