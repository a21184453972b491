/- proof.Check, for the printed callers. -/
import Derived.Test.YtphloehjcfipfaaClCheck
set_option linter.unusedVariables false
namespace Go.Proofs.Ytphloehjcfipfaa.X
open Go.RowKit Go.Proofs.YtphloehjcfipfaaW.PrintWords Go.Proofs.Ytphloehjcfipfaa.Cl

/-- What it answers, where the lists aren't beyond all measure. -/
def proof_Check.f (l0 : List (List Int)) (l1 : List (List Int)) : Option (Int × Int) := if total l0 + total l1 < 2199023255552 ∧ l0.length + l1.length < 2199023255552 then some (check l0 l1) else none
theorem proof_Check.calls (A0 : Option Addr) (c0 : Nat) (l0 : List (List Int)) (A1 : Option Addr) (c1 : Nat) (l1 : List (List Int)) (r1 : Int) (r2 : Int) (w : World) (hr0 : Kd.C (Kd.slice 3 (Kd.int .i64)) w A0 l0.length l0) (hc0 : l0.length ≤ c0) (hr1 : Kd.C (Kd.slice 3 (Kd.int .i64)) w A1 l1.length l1) (hc1 : l1.length ≤ c1) (h : proof_Check.f l0 l1 = some (r1, r2)) :
    Calls Try.prog 14 #[.slice A0 l0.length c0, .slice A1 l1.length c1] w fun e w' => e = .returned (.tuple #[.int .i64 r1, .int .i64 r2]) ∧ Below w.heap.size w w' := by
  unfold proof_Check.f at h
  split at h
  · rename_i hs
    have e := Option.some.inj h
    refine (check_calls A0 c0 l0 A1 c1 l1 w hr0 hc0 hr1 hc1 hs).mono fun e' w' hp => ?_
    unfold CheckPost at hp
    rw [e] at hp
    exact hp
  · cases h
end Go.Proofs.Ytphloehjcfipfaa.X
