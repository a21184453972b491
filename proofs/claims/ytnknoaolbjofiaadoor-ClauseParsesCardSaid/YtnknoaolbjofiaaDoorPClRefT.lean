/- For the statement of the row ClauseParses: what its proof needs of the text ClRefT. -/
import Derived.Test.YtnknoaolbjofiaaDoorPYy3
import Derived.Test.YtnknoaolbjofiaaDoorPYy4
import Derived.Test.YtnknoaolbjofiaaDoorPClIdle14
import Derived.Test.YtnknoaolbjofiaaDoorPXx7
import Derived.Test.YtnknoaolbjofiaaDoorPB4
import Derived.Test.YtnknoaolbjofiaaDoorPClLaw14P

set_option linter.unusedVariables false
set_option linter.unusedSimpArgs false
namespace Go.Proofs.YtnknoaolbjofiaaDoor.Cl
open Go.RowKit Go.Proofs.YtnknoaolbjofiaaDoorW.PrintWords Go.Proofs.YtnknoaolbjofiaaDoorW.PrintLast Go.Proofs.YtnknoaolbjofiaaDoorW.PrintMore
open Go.Proofs.YtnknoaolbjofiaaDoor.X
theorem size_of (l : List UInt8) : (⟨l.toArray⟩ : ByteArray).size = l.length := by simp [ByteArray.size]
theorem nDigits_bound {u : Nat} (h : u < 18446744073709551616) : (Lib.decDigits u).length ≤ 20 := by rw [Lib.decDigits_length]; exact Lib.nDigits_le20 u h
end Go.Proofs.YtnknoaolbjofiaaDoor.Cl
