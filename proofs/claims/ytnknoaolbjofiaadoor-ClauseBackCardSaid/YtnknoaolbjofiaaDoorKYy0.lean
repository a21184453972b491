/- For the statement of the row ClauseBack: what its proof needs of the text Yy0. -/
import Derived.Test.YtnknoaolbjofiaaDoorKB4

namespace Go.Proofs.YtnknoaolbjofiaaDoor.X
open Go.RowKit Go.Proofs.YtnknoaolbjofiaaDoorW.PrintWords Go.Proofs.YtnknoaolbjofiaaDoorW.PrintLast Go.Proofs.YtnknoaolbjofiaaDoorW.PrintMore
set_option linter.unusedVariables false
set_option linter.unusedSimpArgs false
theorem info9 : (Tryd.prog.info? 9).map (fun i => (i.zero, i.size, i.bytes)) = some (some (.string ⟨#[]⟩), 1, 16) := by kernel_rfl
end Go.Proofs.YtnknoaolbjofiaaDoor.X
