/- The law ClauseMore, in plain words: the document's example with it. -/
import Derived.Test.YtnknoaolbjofiaaDoorClMore14
import Derived.Test.YtnknoaolbjofiaaDoorB4
set_option linter.unusedVariables false
namespace Go.Proofs.YtnknoaolbjofiaaDoor.Cl
open Go.RowKit Go.Proofs.YtnknoaolbjofiaaDoorW.PrintWords Go.Proofs.YtnknoaolbjofiaaDoorW.PrintLast Go.Proofs.YtnknoaolbjofiaaDoorW.PrintMore

theorem more14 (a0 : Option Addr) (c0 : Nat) (l0 : List (List Int)) (a1 : Option Addr) (c1 : Nat) (l1 : List Int) (a2 a3 : Int) (w : World)
    (hr0 : KRd.C w a0 l0.length l0) (hc0 : l0.length ≤ c0) (hm0 : l0.length ≤ maxLen) (hs0 : l0.length * 24 ≤ 140737488351232) (hw0 : ∀ c ∈ l0, ∀ x ∈ c, (Lit.int .i64 x).wf = true)
    (hr1 : KId.C w a1 l1.length l1) (hc1 : l1.length ≤ c1) (hm1 : l1.length ≤ maxLen) (hs1 : l1.length * 8 ≤ 140737488351232) (hw1 : ∀ x ∈ l1, (Lit.int .i64 x).wf = true)
    (hw2 : (Lit.int .i64 a2).wf = true) (hw3 : (Lit.int .i64 a3).wf = true) (hT : Tab w) :
    Calls Tryd.prog 4 #[.slice a0 l0.length c0, .slice a1 l1.length c1, .int .i64 a2, .int .i64 a3] w fun e w' => e = .returned (.bool true) ∧ Below w.heap.size w w' :=
  more14_law a0 c0 l0 a1 c1 l1 a2 a3 w hr0 hc0 hm0 hs0 hw0 hr1 hc1 hm1 hs1 hw1 hw2 hw3 (awake14_calls w hT)
end Go.Proofs.YtnknoaolbjofiaaDoor.Cl
