/- For the statement of the row ClauseBack: what its proof needs of the text LawBack. -/
import Derived.Test.YtnknoaolbjofiaaDoorKClBack14

set_option linter.unusedVariables false
namespace Go.Proofs.YtnknoaolbjofiaaDoor.Cl
open Go.RowKit Go.Proofs.YtnknoaolbjofiaaDoorW.PrintWords Go.Proofs.YtnknoaolbjofiaaDoorW.PrintLast Go.Proofs.YtnknoaolbjofiaaDoorW.PrintMore
theorem back14 (a0 : Option Addr) (c0 : Nat) (l0 : List (List Int)) (s : ByteArray) (w : World)
    (hr0 : KRd.C w a0 l0.length l0) (hc0 : l0.length ≤ c0) (hm0 : l0.length ≤ maxLen) (hs0 : l0.length * 24 ≤ 140737488351232) (hw0 : ∀ c ∈ l0, ∀ x ∈ c, (Lit.int .i64 x).wf = true) (hs : s.size ≤ 140737488351232) (hL : Libs w) :
    Calls Tryd.prog 9 #[.slice a0 l0.length c0, .string s] w fun e w' => e = .returned (.bool true) ∧ Below w.heap.size w w' := by
  have h := back14_law a0 c0 l0 s.data.toList w hr0 hc0 hs0 hL
  have e : (⟨s.data.toList.toArray⟩ : ByteArray) = s := by simp
  rw [e] at h
  exact h
end Go.Proofs.YtnknoaolbjofiaaDoor.Cl
