/- For the statement of the row ClauseBack: what its proof needs of the text ClTells14. -/
import Derived.Test.YtnknoaolbjofiaaDoorKYy3
import Derived.Test.YtnknoaolbjofiaaDoorKYy4
import Derived.Test.YtnknoaolbjofiaaDoorKClIdle14
import Derived.Test.YtnknoaolbjofiaaDoorKXx7
import Derived.Test.YtnknoaolbjofiaaDoorKB4
import Derived.Test.YtnknoaolbjofiaaDoorKClLaw14P

set_option linter.unusedVariables false
set_option linter.unusedSimpArgs false
namespace Go.Proofs.YtnknoaolbjofiaaDoor.Cl
open Go.RowKit Go.Proofs.YtnknoaolbjofiaaDoorW.PrintWords Go.Proofs.YtnknoaolbjofiaaDoorW.PrintLast Go.Proofs.YtnknoaolbjofiaaDoorW.PrintMore
open Go.Proofs.YtnknoaolbjofiaaDoor.X
/-- clause.Print of clauses that are not right. -/
theorem print_wrong (A : Option Addr) (cap : Nat) (l : List (List Int)) (w : World) (hC : KRh.C w A l.length l) (hcap : l.length ≤ cap) (hr : lRight l = false) :
    Calls Tryd.prog 19 #[.slice A l.length cap] w fun e w' => e = .returned (.tuple #[.string ⟨#[]⟩, .int .i64 3]) ∧ Below w.heap.size w w' := by
  have hrt := right_calls A cap l w hC hcap
  rw [hr] at hrt
  have HRT := Lib.hid hrt
  clear hrt hr hC
  go_enter Tryd.func19, Tryd.ntmps19
  go_wp2_with fail
  refine HRT.out.mono ?_
  rintro e w1 ⟨rfl, nd, rfl⟩
  go_wp2
  go_ret2
  exact ⟨rfl, pw_below_drewN (Below.refl _ _) _⟩
/-- What clause.Print, and the document's, answer. -/
def printA (l : List (List Int)) : List UInt8 × Int := if lRight l then (printL l, 0) else ([], 3)
theorem printA_calls (A : Option Addr) (cap : Nat) (l : List (List Int)) (w : World) (hC : KRh.C w A l.length l) (hcap : l.length ≤ cap) (hl1 : l.length ≤ 10000) (hl2 : ∀ c ∈ l, c.length ≤ 10000) (hT : Tab w) :
    Calls Tryd.prog 19 #[.slice A l.length cap] w fun e w' => e = .returned (.tuple #[.string ⟨(printA l).1.toArray⟩, .int .i64 (printA l).2]) ∧ Below w.heap.size w w' := by
  unfold printA
  cases hr : lRight l with
  | true => exact print_calls A cap l w hC hcap hr hl1 hl2 hT
  | false => exact print_wrong A cap l w hC hcap hr
end Go.Proofs.YtnknoaolbjofiaaDoor.Cl
