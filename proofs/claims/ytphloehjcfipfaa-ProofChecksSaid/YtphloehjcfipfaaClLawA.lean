/- The law ProofChecks: the call, in plain words. -/
import Derived.Test.YtphloehjcfipfaaClRefC
set_option linter.unusedVariables false
namespace Go.Proofs.Ytphloehjcfipfaa.Cl
open Go.RowKit Go.Proofs.YtphloehjcfipfaaW.PrintWords Go.Proofs.YtphloehjcfipfaaW.PrintMore
open Go.Proofs.Ytphloehjcfipfaa.X

theorem checks_law (a0 : Option Addr) (c0 : Nat) (l0 : List (List Int)) (a1 : Option Addr) (c1 : Nat) (l1 : List (List Int)) (w : World)
    (hr0 : Kd.C (Kd.slice 3 (Kd.int .i64)) w a0 l0.length l0) (hc0 : l0.length ≤ c0) (hm0 : l0.length ≤ maxLen) (hs0 : l0.length * 24 ≤ 140737488351232) (hw0 : ∀ c ∈ l0, ∀ x ∈ c, (Lit.int .i64 x).wf = true)
    (hr1 : Kd.C (Kd.slice 3 (Kd.int .i64)) w a1 l1.length l1) (hc1 : l1.length ≤ c1) (hm1 : l1.length ≤ maxLen) (hs1 : l1.length * 24 ≤ 140737488351232) (hw1 : ∀ c ∈ l1, ∀ x ∈ c, (Lit.int .i64 x).wf = true) :
    Calls Try.prog 3 #[.slice a0 l0.length c0, .slice a1 l1.length c1] w fun e w' => e = .returned (.bool true) ∧ Below w.heap.size w w' := by
  obtain ⟨k, h⟩ := checks_pure l0 l1 hm0 hs0 hw0 hm1 hs1 hw1
  exact backreachlaw18_ProofChecks.calls k _ _ l0 _ _ l1 true w hr0 hc0 hr1 hc1 h
end Go.Proofs.Ytphloehjcfipfaa.Cl
