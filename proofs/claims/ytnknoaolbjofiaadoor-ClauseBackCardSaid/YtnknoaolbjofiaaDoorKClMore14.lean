/- For the statement of the row ClauseBack: what its proof needs of the text ClMore14. -/
import Derived.Test.YtnknoaolbjofiaaDoorKB4
import Derived.Test.YtnknoaolbjofiaaDoorKClLaw14P
import Derived.Test.YtnknoaolbjofiaaDoorKWMore

set_option linter.unusedVariables false
set_option linter.unusedSimpArgs false
namespace Go.Proofs.YtnknoaolbjofiaaDoor.Cl
open Go.RowKit Go.Proofs.YtnknoaolbjofiaaDoorW.PrintWords Go.Proofs.YtnknoaolbjofiaaDoorW.PrintLast Go.Proofs.YtnknoaolbjofiaaDoorW.PrintMore
open Go.Proofs.YtnknoaolbjofiaaDoor.X
theorem info22d : (Tryd.prog.info? 23).map (fun i => (i.zero, i.size, i.bytes)) = some (some (.slice none 0 0), 1, 24) := by kernel_rfl
end Go.Proofs.YtnknoaolbjofiaaDoor.Cl
