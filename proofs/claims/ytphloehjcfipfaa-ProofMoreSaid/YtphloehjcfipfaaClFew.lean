/- The laws' 'few' of layer 18: what it tells, and its call. -/
import Derived.Test.YtphloehjcfipfaaClRefA
import Derived.Test.YtphloehjcfipfaaClConcat
set_option linter.unusedVariables false
set_option linter.unusedSimpArgs false
namespace Go.Proofs.Ytphloehjcfipfaa.Cl
open Go.RowKit Go.Proofs.YtphloehjcfipfaaW.PrintWords Go.Proofs.YtphloehjcfipfaaW.PrintLast Go.Proofs.YtphloehjcfipfaaW.PrintMore
open Go.Proofs.Ytphloehjcfipfaa.X

theorem few_ev {l : List (List Int)} (hl : l.length < 9223372036854775807) : Ev (fun k => backreachlaw18_few.f k l) (small l 100 12 40) := by
  have h := rsmall_ev hl (a := 100) (b := 12) (v := 40) (by omega)
  exact Ev.bind h (Ev.now _)
theorem few_total {l : List (List Int)} (h : small l 100 12 40 = true) : (∀ c ∈ l, c.length ≤ 12) ∧ l.length ≤ 100 ∧ total l ≤ 1200 := by
  have := small_fine (by omega) (by omega) h
  refine ⟨this.2.2.1, this.2.1, ?_⟩
  have h2 := small_total this.2.2.1
  have h3 := this.2.1
  omega

theorem few_calls18 (A : Option Addr) (cap : Nat) (l : List (List Int)) (w : World) (hC : KR.C w A l.length l) (hcap : l.length ≤ cap) (hl : l.length < 9223372036854775807) :
    Calls Try.prog 13 #[.slice A l.length cap] w fun e w' => e = .returned (.bool (small l 100 12 40)) ∧ ∃ n, w' = w.drewN n := by
  obtain ⟨k, hk⟩ := (few_ev hl).rounds
  exact (backreachlaw18_few.calls k A cap l _ w hC hcap hk).mono fun e w' ⟨he, hd⟩ => ⟨he, hd.out⟩

end Go.Proofs.Ytphloehjcfipfaa.Cl
