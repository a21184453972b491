/- For the statement of the row ClauseBack: what its proof needs of the text ClParses14. -/
import Derived.Test.YtnknoaolbjofiaaDoorKClRefX
import Derived.Test.YtnknoaolbjofiaaDoorKClParse
import Derived.Test.YtnknoaolbjofiaaDoorKClBackP

set_option linter.unusedVariables false
set_option linter.unusedSimpArgs false
namespace Go.Proofs.YtnknoaolbjofiaaDoor.Cl
open Go.RowKit Go.Proofs.YtnknoaolbjofiaaDoorW.PrintWords Go.Proofs.YtnknoaolbjofiaaDoorW.PrintLast Go.Proofs.YtnknoaolbjofiaaDoorW.PrintMore
open Go.Proofs.YtnknoaolbjofiaaDoor.X
theorem rsame_calls (A : Option Addr) (c0 : Nat) (a : List (List Int)) (B : Option Addr) (c1 : Nat) (b : List (List Int)) (w : World) (hr0 : KRd.C w A a.length a) (hc0 : a.length ≤ c0) (hr1 : KRd.C w B b.length b) (hc1 : b.length ≤ c1) (ha : Fine a) (hb : Fine b) :
    Calls Tryd.prog 29 #[.slice A a.length c0, .slice B b.length c1] w fun e w' => e = .returned (.bool (decide (a = b))) ∧ ∃ n, w' = w.drewN n := by
  obtain ⟨k, hk⟩ := (rsame_ev ha hb).rounds
  exact (backreachref14_Same.calls k A c0 a B c1 b _ w hr0 hc0 hr1 hc1 hk).mono fun e w' ⟨he, hd⟩ => ⟨he, hd.out⟩
end Go.Proofs.YtnknoaolbjofiaaDoor.Cl
