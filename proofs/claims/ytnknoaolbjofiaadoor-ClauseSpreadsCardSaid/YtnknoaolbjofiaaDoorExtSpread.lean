/- clause.Spread, for the printed callers. -/
import Derived.Test.YtnknoaolbjofiaaDoorClSpread
set_option linter.unusedVariables false
namespace Go.Proofs.YtnknoaolbjofiaaDoor.X
open Go.RowKit Go.Proofs.YtnknoaolbjofiaaDoorW.PrintWords Go.Proofs.YtnknoaolbjofiaaDoor.Cl

/-- What it answers, where the lists aren't beyond all measure. -/
def clause_Spread.f (l0 : List (List Int)) (l1 : List Int) : Option (List Int × Bool) := if l1.length + total l0 < 4398046511104 ∧ l0.length < 4398046511104 then some (spread l0 l1) else none
theorem clause_Spread.calls (A0 : Option Addr) (c0 : Nat) (l0 : List (List Int)) (A1 : Option Addr) (c1 : Nat) (l1 : List Int) (r1 : List Int) (r2 : Bool) (w : World) (hr0 : Kd.C (Kd.slice 3 (Kd.int .i64)) w A0 l0.length l0) (hc0 : l0.length ≤ c0) (hr1 : Kd.C (Kd.int .i64) w A1 l1.length l1) (hc1 : l1.length ≤ c1) (h : clause_Spread.f l0 l1 = some (r1, r2)) :
    Calls Tryd.prog 12 #[.slice A0 l0.length c0, .slice A1 l1.length c1] w fun e w' => ∃ v0_ : Value, e = .returned (.tuple #[v0_, .bool r2]) ∧ Kd.R (Kd.int .i64) 3 w' w.heap.size (fun _ => True) v0_ r1 ∧ Below w.heap.size w w' := by
  unfold clause_Spread.f at h
  split at h
  · rename_i hs
    have e := Option.some.inj h
    refine (spread_calls A0 c0 l0 A1 c1 l1 w hr0 hc0 hr1 hc1 hs.1 hs.2).mono fun e' w' hp => ?_
    unfold SpreadPost at hp
    rw [e] at hp
    exact hp
  · cases h
end Go.Proofs.YtnknoaolbjofiaaDoor.X
