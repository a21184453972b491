/-
  No cell of these rows narrows 'for every input' (looked for: loops, veiled, ifaces, maps, wideKeys, modest, calm, conditions, laid).
  DERIVED. THE GIVEN ROWS OF THIS SEAT. 10 by the template 'for every input the law returns true; each argument reads behind the call as it read before'; 0 by the template 'total and deterministic' (their statements: YtcbnhfnnjkkceaaGreatTotals.lean).
  GIVEN WITH THE SEED: the statements are not yours to turn. If you find one false, say at which input.
  Laid BY PROGRAM, IN A SANDBOX (cutbox-rows.mjs): the forced cells as the released guide's own fill.sh prints them over the translation 37b8597a55c77563… (all of the seat's roots in one cut). By AI agents, Wed Nov 11 2026. No macro, syntax, notation, axiom, sorry.
-/
import Derived.Test.YtcbnhfnnjkkceaaGreatChecked
import GoSem.Claim
import GoSem.ClaimJoined
import GoSem.ClaimMapViews
import Derived.JoinedTies
import Derived.KernelRfl
namespace Go.Proofs.YtcbnhfnnjkkceaaGreat
/- THE CELL 'sum', in the pinned program and in every row, IS THE sha256 OF THE DUMP (.gsa) THAT YtcbnhfnnjkkceaaGreatProg.lean LOADS. Nothing in Lean hashes anything: it is a label: what it is worth is what the hold of that sum in a sandbox is worth. -/
noncomputable def Tryz.pinned : Pinned := { name := "ytcbnhfnnjkkceaagreat", sum := "37b8597a55c77563b73eb8280b908be073d117e2e996333e6c7833fd65cd12db", checked := Tryz.checked }
namespace Rows
def none {H : Type} : Left H := { results := [], args := [] }

/-- 'backreachlaw20.GraphTells': WHATEVER THE INPUT: true; the input reads as it did. -/
def graphTellsSpec : ChangeSpec := { name := "graphTells", fn := fun _ => fun
  | [d1, d2] => { results := [.lit (.bool true)], args := [d1, d2] }
  | _ => none }
def graphTellsRow : OpenClaim := { program := "ytcbnhfnnjkkceaagreat", sum := "37b8597a55c77563b73eb8280b908be073d117e2e996333e6c7833fd65cd12db", func := "backreach/backreachlaw20.GraphTells", spec := "graphTells", inPlace := ["sync/atomic.LoadUint32", "(*internal/sync.Mutex).Lock", "internal/race.Disable", "sync/atomic.CompareAndSwapInt32", "internal/race.Enable", "internal/race.Acquire", "(*internal/sync.Mutex).lockSlow", "internal/sync.runtime_canSpin", "internal/sync.runtime_doSpin", "internal/sync.throw", "internal/sync.runtime_nanotime", "internal/sync.runtime_SemacquireMutex", "sync/atomic.AddInt32", "(*internal/sync.Mutex).Unlock", "internal/race.ReleaseMerge", "(*internal/sync.Mutex).unlockSlow", "internal/sync.fatal", "internal/sync.runtime_Semrelease", "sync/atomic.StoreUint32"], unfollowed := true, recurses := true, apart := false }
def GraphTellsSaid : Prop := graphTellsRow.holds Tryz.pinned (OpenSpec.ofChange graphTellsSpec)

/-- ITS FALSE NEIGHBOUR: 'it returns false'. Refute it at one input. -/
def graphTellsWrong : ChangeSpec := { name := "graphTells", fn := fun _ => fun
  | [d1, d2] => { results := [.lit (.bool false)], args := [d1, d2] }
  | _ => none }
def GraphTellsWrongFalsely : Prop := graphTellsRow.holds Tryz.pinned (OpenSpec.ofChange graphTellsWrong)

/-- 'backreachlaw21.FarTells': WHATEVER THE INPUT: true; the input reads as it did. -/
def farTellsSpec : ChangeSpec := { name := "farTells", fn := fun _ => fun
  | [d1, d2] => { results := [.lit (.bool true)], args := [d1, d2] }
  | _ => none }
def farTellsRow : OpenClaim := { program := "ytcbnhfnnjkkceaagreat", sum := "37b8597a55c77563b73eb8280b908be073d117e2e996333e6c7833fd65cd12db", func := "backreach/backreachlaw21.FarTells", spec := "farTells", inPlace := ["sync/atomic.LoadUint32", "(*internal/sync.Mutex).Lock", "internal/race.Disable", "sync/atomic.CompareAndSwapInt32", "internal/race.Enable", "internal/race.Acquire", "(*internal/sync.Mutex).lockSlow", "internal/sync.runtime_canSpin", "internal/sync.runtime_doSpin", "internal/sync.throw", "internal/sync.runtime_nanotime", "internal/sync.runtime_SemacquireMutex", "sync/atomic.AddInt32", "(*internal/sync.Mutex).Unlock", "internal/race.ReleaseMerge", "(*internal/sync.Mutex).unlockSlow", "internal/sync.fatal", "internal/sync.runtime_Semrelease", "sync/atomic.StoreUint32"], unfollowed := true, recurses := true, apart := false }
def FarTellsSaid : Prop := farTellsRow.holds Tryz.pinned (OpenSpec.ofChange farTellsSpec)

/-- ITS FALSE NEIGHBOUR: 'it returns false'. Refute it at one input. -/
def farTellsWrong : ChangeSpec := { name := "farTells", fn := fun _ => fun
  | [d1, d2] => { results := [.lit (.bool false)], args := [d1, d2] }
  | _ => none }
def FarTellsWrongFalsely : Prop := farTellsRow.holds Tryz.pinned (OpenSpec.ofChange farTellsWrong)

/-- 'backreachlaw20.GraphRuns': WHATEVER THE INPUT: true; the input reads as it did. -/
def graphRunsSpec : ChangeSpec := { name := "graphRuns", fn := fun _ => fun
  | [d1, d2, d3] => { results := [.lit (.bool true)], args := [d1, d2, d3] }
  | _ => none }
def graphRunsRow : OpenClaim := { program := "ytcbnhfnnjkkceaagreat", sum := "37b8597a55c77563b73eb8280b908be073d117e2e996333e6c7833fd65cd12db", func := "backreach/backreachlaw20.GraphRuns", spec := "graphRuns", inPlace := ["sync/atomic.LoadUint32", "(*internal/sync.Mutex).Lock", "internal/race.Disable", "sync/atomic.CompareAndSwapInt32", "internal/race.Enable", "internal/race.Acquire", "(*internal/sync.Mutex).lockSlow", "internal/sync.runtime_canSpin", "internal/sync.runtime_doSpin", "internal/sync.throw", "internal/sync.runtime_nanotime", "internal/sync.runtime_SemacquireMutex", "sync/atomic.AddInt32", "(*internal/sync.Mutex).Unlock", "internal/race.ReleaseMerge", "(*internal/sync.Mutex).unlockSlow", "internal/sync.fatal", "internal/sync.runtime_Semrelease", "sync/atomic.StoreUint32"], unfollowed := true, recurses := true, apart := false }
def GraphRunsSaid : Prop := graphRunsRow.holds Tryz.pinned (OpenSpec.ofChange graphRunsSpec)

/-- ITS FALSE NEIGHBOUR: 'it returns false'. Refute it at one input. -/
def graphRunsWrong : ChangeSpec := { name := "graphRuns", fn := fun _ => fun
  | [d1, d2, d3] => { results := [.lit (.bool false)], args := [d1, d2, d3] }
  | _ => none }
def GraphRunsWrongFalsely : Prop := graphRunsRow.holds Tryz.pinned (OpenSpec.ofChange graphRunsWrong)

/-- 'backreachlaw21.FarRuns': WHATEVER THE INPUT: true; the input reads as it did. -/
def farRunsSpec : ChangeSpec := { name := "farRuns", fn := fun _ => fun
  | [d1, d2, d3, d4] => { results := [.lit (.bool true)], args := [d1, d2, d3, d4] }
  | _ => none }
def farRunsRow : OpenClaim := { program := "ytcbnhfnnjkkceaagreat", sum := "37b8597a55c77563b73eb8280b908be073d117e2e996333e6c7833fd65cd12db", func := "backreach/backreachlaw21.FarRuns", spec := "farRuns", inPlace := ["sync/atomic.LoadUint32", "(*internal/sync.Mutex).Lock", "internal/race.Disable", "sync/atomic.CompareAndSwapInt32", "internal/race.Enable", "internal/race.Acquire", "(*internal/sync.Mutex).lockSlow", "internal/sync.runtime_canSpin", "internal/sync.runtime_doSpin", "internal/sync.throw", "internal/sync.runtime_nanotime", "internal/sync.runtime_SemacquireMutex", "sync/atomic.AddInt32", "(*internal/sync.Mutex).Unlock", "internal/race.ReleaseMerge", "(*internal/sync.Mutex).unlockSlow", "internal/sync.fatal", "internal/sync.runtime_Semrelease", "sync/atomic.StoreUint32"], unfollowed := true, recurses := true, apart := false }
def FarRunsSaid : Prop := farRunsRow.holds Tryz.pinned (OpenSpec.ofChange farRunsSpec)

/-- ITS FALSE NEIGHBOUR: 'it returns false'. Refute it at one input. -/
def farRunsWrong : ChangeSpec := { name := "farRuns", fn := fun _ => fun
  | [d1, d2, d3, d4] => { results := [.lit (.bool false)], args := [d1, d2, d3, d4] }
  | _ => none }
def FarRunsWrongFalsely : Prop := farRunsRow.holds Tryz.pinned (OpenSpec.ofChange farRunsWrong)

/-- 'backreachlaw22.RouteCounts': WHATEVER THE INPUT: true; the input reads as it did. -/
def routeCountsSpec : ChangeSpec := { name := "routeCounts", fn := fun _ => fun
  | [d1, d2, d3, d4] => { results := [.lit (.bool true)], args := [d1, d2, d3, d4] }
  | _ => none }
def routeCountsRow : OpenClaim := { program := "ytcbnhfnnjkkceaagreat", sum := "37b8597a55c77563b73eb8280b908be073d117e2e996333e6c7833fd65cd12db", func := "backreach/backreachlaw22.RouteCounts", spec := "routeCounts", inPlace := ["sync/atomic.LoadUint32", "(*internal/sync.Mutex).Lock", "internal/race.Disable", "sync/atomic.CompareAndSwapInt32", "internal/race.Enable", "internal/race.Acquire", "(*internal/sync.Mutex).lockSlow", "internal/sync.runtime_canSpin", "internal/sync.runtime_doSpin", "internal/sync.throw", "internal/sync.runtime_nanotime", "internal/sync.runtime_SemacquireMutex", "sync/atomic.AddInt32", "(*internal/sync.Mutex).Unlock", "internal/race.ReleaseMerge", "(*internal/sync.Mutex).unlockSlow", "internal/sync.fatal", "internal/sync.runtime_Semrelease", "sync/atomic.StoreUint32"], unfollowed := true, recurses := true, apart := false }
def RouteCountsSaid : Prop := routeCountsRow.holds Tryz.pinned (OpenSpec.ofChange routeCountsSpec)

/-- ITS FALSE NEIGHBOUR: 'it returns false'. Refute it at one input. -/
def routeCountsWrong : ChangeSpec := { name := "routeCounts", fn := fun _ => fun
  | [d1, d2, d3, d4] => { results := [.lit (.bool false)], args := [d1, d2, d3, d4] }
  | _ => none }
def RouteCountsWrongFalsely : Prop := routeCountsRow.holds Tryz.pinned (OpenSpec.ofChange routeCountsWrong)

/-- 'backreachlaw22.RouteTells': WHATEVER THE INPUT: true; the input reads as it did. -/
def routeTellsSpec : ChangeSpec := { name := "routeTells", fn := fun _ => fun
  | [d1, d2] => { results := [.lit (.bool true)], args := [d1, d2] }
  | _ => none }
def routeTellsRow : OpenClaim := { program := "ytcbnhfnnjkkceaagreat", sum := "37b8597a55c77563b73eb8280b908be073d117e2e996333e6c7833fd65cd12db", func := "backreach/backreachlaw22.RouteTells", spec := "routeTells", inPlace := ["sync/atomic.LoadUint32", "(*internal/sync.Mutex).Lock", "internal/race.Disable", "sync/atomic.CompareAndSwapInt32", "internal/race.Enable", "internal/race.Acquire", "(*internal/sync.Mutex).lockSlow", "internal/sync.runtime_canSpin", "internal/sync.runtime_doSpin", "internal/sync.throw", "internal/sync.runtime_nanotime", "internal/sync.runtime_SemacquireMutex", "sync/atomic.AddInt32", "(*internal/sync.Mutex).Unlock", "internal/race.ReleaseMerge", "(*internal/sync.Mutex).unlockSlow", "internal/sync.fatal", "internal/sync.runtime_Semrelease", "sync/atomic.StoreUint32"], unfollowed := true, recurses := true, apart := false }
def RouteTellsSaid : Prop := routeTellsRow.holds Tryz.pinned (OpenSpec.ofChange routeTellsSpec)

/-- ITS FALSE NEIGHBOUR: 'it returns false'. Refute it at one input. -/
def routeTellsWrong : ChangeSpec := { name := "routeTells", fn := fun _ => fun
  | [d1, d2] => { results := [.lit (.bool false)], args := [d1, d2] }
  | _ => none }
def RouteTellsWrongFalsely : Prop := routeTellsRow.holds Tryz.pinned (OpenSpec.ofChange routeTellsWrong)

/-- 'backreachlaw22.RouteMore': WHATEVER THE INPUT: true; the input reads as it did. -/
def routeMoreSpec : ChangeSpec := { name := "routeMore", fn := fun _ => fun
  | [d1, d2, d3] => { results := [.lit (.bool true)], args := [d1, d2, d3] }
  | _ => none }
def routeMoreRow : OpenClaim := { program := "ytcbnhfnnjkkceaagreat", sum := "37b8597a55c77563b73eb8280b908be073d117e2e996333e6c7833fd65cd12db", func := "backreach/backreachlaw22.RouteMore", spec := "routeMore", inPlace := ["sync/atomic.LoadUint32", "(*internal/sync.Mutex).Lock", "internal/race.Disable", "sync/atomic.CompareAndSwapInt32", "internal/race.Enable", "internal/race.Acquire", "(*internal/sync.Mutex).lockSlow", "internal/sync.runtime_canSpin", "internal/sync.runtime_doSpin", "internal/sync.throw", "internal/sync.runtime_nanotime", "internal/sync.runtime_SemacquireMutex", "sync/atomic.AddInt32", "(*internal/sync.Mutex).Unlock", "internal/race.ReleaseMerge", "(*internal/sync.Mutex).unlockSlow", "internal/sync.fatal", "internal/sync.runtime_Semrelease", "sync/atomic.StoreUint32"], unfollowed := true, recurses := true, apart := false }
def RouteMoreSaid : Prop := routeMoreRow.holds Tryz.pinned (OpenSpec.ofChange routeMoreSpec)

/-- ITS FALSE NEIGHBOUR: 'it returns false'. Refute it at one input. -/
def routeMoreWrong : ChangeSpec := { name := "routeMore", fn := fun _ => fun
  | [d1, d2, d3] => { results := [.lit (.bool false)], args := [d1, d2, d3] }
  | _ => none }
def RouteMoreWrongFalsely : Prop := routeMoreRow.holds Tryz.pinned (OpenSpec.ofChange routeMoreWrong)

/-- 'backreachlaw22.RouteGoes': WHATEVER THE INPUT: true; the input reads as it did. -/
def routeGoesSpec : ChangeSpec := { name := "routeGoes", fn := fun _ => fun
  | [d1, d2, d3] => { results := [.lit (.bool true)], args := [d1, d2, d3] }
  | _ => none }
def routeGoesRow : OpenClaim := { program := "ytcbnhfnnjkkceaagreat", sum := "37b8597a55c77563b73eb8280b908be073d117e2e996333e6c7833fd65cd12db", func := "backreach/backreachlaw22.RouteGoes", spec := "routeGoes", inPlace := ["sync/atomic.LoadUint32", "(*internal/sync.Mutex).Lock", "internal/race.Disable", "sync/atomic.CompareAndSwapInt32", "internal/race.Enable", "internal/race.Acquire", "(*internal/sync.Mutex).lockSlow", "internal/sync.runtime_canSpin", "internal/sync.runtime_doSpin", "internal/sync.throw", "internal/sync.runtime_nanotime", "internal/sync.runtime_SemacquireMutex", "sync/atomic.AddInt32", "(*internal/sync.Mutex).Unlock", "internal/race.ReleaseMerge", "(*internal/sync.Mutex).unlockSlow", "internal/sync.fatal", "internal/sync.runtime_Semrelease", "sync/atomic.StoreUint32"], unfollowed := true, recurses := true, apart := false }
def RouteGoesSaid : Prop := routeGoesRow.holds Tryz.pinned (OpenSpec.ofChange routeGoesSpec)

/-- ITS FALSE NEIGHBOUR: 'it returns false'. Refute it at one input. -/
def routeGoesWrong : ChangeSpec := { name := "routeGoes", fn := fun _ => fun
  | [d1, d2, d3] => { results := [.lit (.bool false)], args := [d1, d2, d3] }
  | _ => none }
def RouteGoesWrongFalsely : Prop := routeGoesRow.holds Tryz.pinned (OpenSpec.ofChange routeGoesWrong)

/-- 'backreachlaw22.RouteBacks': WHATEVER THE INPUT: true; the input reads as it did. -/
def routeBacksSpec : ChangeSpec := { name := "routeBacks", fn := fun _ => fun
  | [d1, d2, d3] => { results := [.lit (.bool true)], args := [d1, d2, d3] }
  | _ => none }
def routeBacksRow : OpenClaim := { program := "ytcbnhfnnjkkceaagreat", sum := "37b8597a55c77563b73eb8280b908be073d117e2e996333e6c7833fd65cd12db", func := "backreach/backreachlaw22.RouteBacks", spec := "routeBacks", inPlace := ["sync/atomic.LoadUint32", "(*internal/sync.Mutex).Lock", "internal/race.Disable", "sync/atomic.CompareAndSwapInt32", "internal/race.Enable", "internal/race.Acquire", "(*internal/sync.Mutex).lockSlow", "internal/sync.runtime_canSpin", "internal/sync.runtime_doSpin", "internal/sync.throw", "internal/sync.runtime_nanotime", "internal/sync.runtime_SemacquireMutex", "sync/atomic.AddInt32", "(*internal/sync.Mutex).Unlock", "internal/race.ReleaseMerge", "(*internal/sync.Mutex).unlockSlow", "internal/sync.fatal", "internal/sync.runtime_Semrelease", "sync/atomic.StoreUint32"], unfollowed := true, recurses := true, apart := false }
def RouteBacksSaid : Prop := routeBacksRow.holds Tryz.pinned (OpenSpec.ofChange routeBacksSpec)

/-- ITS FALSE NEIGHBOUR: 'it returns false'. Refute it at one input. -/
def routeBacksWrong : ChangeSpec := { name := "routeBacks", fn := fun _ => fun
  | [d1, d2, d3] => { results := [.lit (.bool false)], args := [d1, d2, d3] }
  | _ => none }
def RouteBacksWrongFalsely : Prop := routeBacksRow.holds Tryz.pinned (OpenSpec.ofChange routeBacksWrong)

/-- 'backreachlaw22.RouteRuns': WHATEVER THE INPUT: true; the input reads as it did. -/
def routeRunsSpec : ChangeSpec := { name := "routeRuns", fn := fun _ => fun
  | [d1, d2, d3, d4] => { results := [.lit (.bool true)], args := [d1, d2, d3, d4] }
  | _ => none }
def routeRunsRow : OpenClaim := { program := "ytcbnhfnnjkkceaagreat", sum := "37b8597a55c77563b73eb8280b908be073d117e2e996333e6c7833fd65cd12db", func := "backreach/backreachlaw22.RouteRuns", spec := "routeRuns", inPlace := ["sync/atomic.LoadUint32", "(*internal/sync.Mutex).Lock", "internal/race.Disable", "sync/atomic.CompareAndSwapInt32", "internal/race.Enable", "internal/race.Acquire", "(*internal/sync.Mutex).lockSlow", "internal/sync.runtime_canSpin", "internal/sync.runtime_doSpin", "internal/sync.throw", "internal/sync.runtime_nanotime", "internal/sync.runtime_SemacquireMutex", "sync/atomic.AddInt32", "(*internal/sync.Mutex).Unlock", "internal/race.ReleaseMerge", "(*internal/sync.Mutex).unlockSlow", "internal/sync.fatal", "internal/sync.runtime_Semrelease", "sync/atomic.StoreUint32"], unfollowed := true, recurses := true, apart := false }
def RouteRunsSaid : Prop := routeRunsRow.holds Tryz.pinned (OpenSpec.ofChange routeRunsSpec)

/-- ITS FALSE NEIGHBOUR: 'it returns false'. Refute it at one input. -/
def routeRunsWrong : ChangeSpec := { name := "routeRuns", fn := fun _ => fun
  | [d1, d2, d3, d4] => { results := [.lit (.bool false)], args := [d1, d2, d3, d4] }
  | _ => none }
def RouteRunsWrongFalsely : Prop := routeRunsRow.holds Tryz.pinned (OpenSpec.ofChange routeRunsWrong)

/- THE SECOND FORM. 'bulk': how many values and letters a reading holds, each counted each time it is reached (what is shared counts as often as it is met; a slice's spare places count too). A statement '..UptoSaid' is the law's where the arguments, and the package variables that the reading takes, are together of bulk at most 1048576: NARROWER than '..Said'. Prove '..Said' where nothing that the law and all that it calls make is longer than what came in: it says more and counts as full. Else prove '..UptoSaid'. A law counts once. -/
mutual
def uptoBulk {H : Type} : DataW H → Nat
  | .lit (.string bytes) => bytes.length + 1
  | .lit _ => 1
  | .nil => 1
  | .ptr d => uptoBulk d + 1
  | .slice elems spare => uptoBulkAll elems + uptoBulkAll spare + 1
  | .agg parts => uptoBulkAll parts + 1
  | .iface _ d => uptoBulk d + 1
  | .map entries => uptoBulkEntries entries + 1
  | .held _ => 1
def uptoBulkAll {H : Type} : List (DataW H) → Nat
  | [] => 0
  | d :: r => uptoBulk d + uptoBulkAll r
def uptoBulkEntries {H : Type} : List (Lit × DataW H) → Nat
  | [] => 0
  | x :: r => uptoBulkEntry x + uptoBulkEntries r
def uptoBulkEntry {H : Type} : Lit × DataW H → Nat
  | (.string bytes, d) => bytes.length + uptoBulk d + 1
  | (_, d) => uptoBulk d + 1
 end
def uptoSmall : (H : Type) → List (DataW H) → Bool := fun _ ds => decide (uptoBulkAll ds ≤ 1048576)
def OpenSpec.upto (s : _root_.Go.ChangeSpec) : _root_.Go.OpenSpec := { _root_.Go.OpenSpec.ofChange s with cond := some uptoSmall }

/-- 'backreachlaw20.GraphTells', WHERE WHAT IT READS IS OF BULK AT MOST 1048576: true; the input reads as it did. -/
def graphTellsUptoRow : OpenClaim := { program := "ytcbnhfnnjkkceaagreat", sum := "37b8597a55c77563b73eb8280b908be073d117e2e996333e6c7833fd65cd12db", func := "backreach/backreachlaw20.GraphTells", spec := "graphTells", inPlace := ["sync/atomic.LoadUint32", "(*internal/sync.Mutex).Lock", "internal/race.Disable", "sync/atomic.CompareAndSwapInt32", "internal/race.Enable", "internal/race.Acquire", "(*internal/sync.Mutex).lockSlow", "internal/sync.runtime_canSpin", "internal/sync.runtime_doSpin", "internal/sync.throw", "internal/sync.runtime_nanotime", "internal/sync.runtime_SemacquireMutex", "sync/atomic.AddInt32", "(*internal/sync.Mutex).Unlock", "internal/race.ReleaseMerge", "(*internal/sync.Mutex).unlockSlow", "internal/sync.fatal", "internal/sync.runtime_Semrelease", "sync/atomic.StoreUint32"], unfollowed := true, recurses := true, apart := false, narrowed := true }
def GraphTellsUptoSaid : Prop := graphTellsUptoRow.holds Tryz.pinned (OpenSpec.upto graphTellsSpec)

/-- 'backreachlaw21.FarTells', WHERE WHAT IT READS IS OF BULK AT MOST 1048576: true; the input reads as it did. -/
def farTellsUptoRow : OpenClaim := { program := "ytcbnhfnnjkkceaagreat", sum := "37b8597a55c77563b73eb8280b908be073d117e2e996333e6c7833fd65cd12db", func := "backreach/backreachlaw21.FarTells", spec := "farTells", inPlace := ["sync/atomic.LoadUint32", "(*internal/sync.Mutex).Lock", "internal/race.Disable", "sync/atomic.CompareAndSwapInt32", "internal/race.Enable", "internal/race.Acquire", "(*internal/sync.Mutex).lockSlow", "internal/sync.runtime_canSpin", "internal/sync.runtime_doSpin", "internal/sync.throw", "internal/sync.runtime_nanotime", "internal/sync.runtime_SemacquireMutex", "sync/atomic.AddInt32", "(*internal/sync.Mutex).Unlock", "internal/race.ReleaseMerge", "(*internal/sync.Mutex).unlockSlow", "internal/sync.fatal", "internal/sync.runtime_Semrelease", "sync/atomic.StoreUint32"], unfollowed := true, recurses := true, apart := false, narrowed := true }
def FarTellsUptoSaid : Prop := farTellsUptoRow.holds Tryz.pinned (OpenSpec.upto farTellsSpec)

/-- 'backreachlaw20.GraphRuns', WHERE WHAT IT READS IS OF BULK AT MOST 1048576: true; the input reads as it did. -/
def graphRunsUptoRow : OpenClaim := { program := "ytcbnhfnnjkkceaagreat", sum := "37b8597a55c77563b73eb8280b908be073d117e2e996333e6c7833fd65cd12db", func := "backreach/backreachlaw20.GraphRuns", spec := "graphRuns", inPlace := ["sync/atomic.LoadUint32", "(*internal/sync.Mutex).Lock", "internal/race.Disable", "sync/atomic.CompareAndSwapInt32", "internal/race.Enable", "internal/race.Acquire", "(*internal/sync.Mutex).lockSlow", "internal/sync.runtime_canSpin", "internal/sync.runtime_doSpin", "internal/sync.throw", "internal/sync.runtime_nanotime", "internal/sync.runtime_SemacquireMutex", "sync/atomic.AddInt32", "(*internal/sync.Mutex).Unlock", "internal/race.ReleaseMerge", "(*internal/sync.Mutex).unlockSlow", "internal/sync.fatal", "internal/sync.runtime_Semrelease", "sync/atomic.StoreUint32"], unfollowed := true, recurses := true, apart := false, narrowed := true }
def GraphRunsUptoSaid : Prop := graphRunsUptoRow.holds Tryz.pinned (OpenSpec.upto graphRunsSpec)

/-- 'backreachlaw21.FarRuns', WHERE WHAT IT READS IS OF BULK AT MOST 1048576: true; the input reads as it did. -/
def farRunsUptoRow : OpenClaim := { program := "ytcbnhfnnjkkceaagreat", sum := "37b8597a55c77563b73eb8280b908be073d117e2e996333e6c7833fd65cd12db", func := "backreach/backreachlaw21.FarRuns", spec := "farRuns", inPlace := ["sync/atomic.LoadUint32", "(*internal/sync.Mutex).Lock", "internal/race.Disable", "sync/atomic.CompareAndSwapInt32", "internal/race.Enable", "internal/race.Acquire", "(*internal/sync.Mutex).lockSlow", "internal/sync.runtime_canSpin", "internal/sync.runtime_doSpin", "internal/sync.throw", "internal/sync.runtime_nanotime", "internal/sync.runtime_SemacquireMutex", "sync/atomic.AddInt32", "(*internal/sync.Mutex).Unlock", "internal/race.ReleaseMerge", "(*internal/sync.Mutex).unlockSlow", "internal/sync.fatal", "internal/sync.runtime_Semrelease", "sync/atomic.StoreUint32"], unfollowed := true, recurses := true, apart := false, narrowed := true }
def FarRunsUptoSaid : Prop := farRunsUptoRow.holds Tryz.pinned (OpenSpec.upto farRunsSpec)

/-- 'backreachlaw22.RouteCounts', WHERE WHAT IT READS IS OF BULK AT MOST 1048576: true; the input reads as it did. -/
def routeCountsUptoRow : OpenClaim := { program := "ytcbnhfnnjkkceaagreat", sum := "37b8597a55c77563b73eb8280b908be073d117e2e996333e6c7833fd65cd12db", func := "backreach/backreachlaw22.RouteCounts", spec := "routeCounts", inPlace := ["sync/atomic.LoadUint32", "(*internal/sync.Mutex).Lock", "internal/race.Disable", "sync/atomic.CompareAndSwapInt32", "internal/race.Enable", "internal/race.Acquire", "(*internal/sync.Mutex).lockSlow", "internal/sync.runtime_canSpin", "internal/sync.runtime_doSpin", "internal/sync.throw", "internal/sync.runtime_nanotime", "internal/sync.runtime_SemacquireMutex", "sync/atomic.AddInt32", "(*internal/sync.Mutex).Unlock", "internal/race.ReleaseMerge", "(*internal/sync.Mutex).unlockSlow", "internal/sync.fatal", "internal/sync.runtime_Semrelease", "sync/atomic.StoreUint32"], unfollowed := true, recurses := true, apart := false, narrowed := true }
def RouteCountsUptoSaid : Prop := routeCountsUptoRow.holds Tryz.pinned (OpenSpec.upto routeCountsSpec)

/-- 'backreachlaw22.RouteTells', WHERE WHAT IT READS IS OF BULK AT MOST 1048576: true; the input reads as it did. -/
def routeTellsUptoRow : OpenClaim := { program := "ytcbnhfnnjkkceaagreat", sum := "37b8597a55c77563b73eb8280b908be073d117e2e996333e6c7833fd65cd12db", func := "backreach/backreachlaw22.RouteTells", spec := "routeTells", inPlace := ["sync/atomic.LoadUint32", "(*internal/sync.Mutex).Lock", "internal/race.Disable", "sync/atomic.CompareAndSwapInt32", "internal/race.Enable", "internal/race.Acquire", "(*internal/sync.Mutex).lockSlow", "internal/sync.runtime_canSpin", "internal/sync.runtime_doSpin", "internal/sync.throw", "internal/sync.runtime_nanotime", "internal/sync.runtime_SemacquireMutex", "sync/atomic.AddInt32", "(*internal/sync.Mutex).Unlock", "internal/race.ReleaseMerge", "(*internal/sync.Mutex).unlockSlow", "internal/sync.fatal", "internal/sync.runtime_Semrelease", "sync/atomic.StoreUint32"], unfollowed := true, recurses := true, apart := false, narrowed := true }
def RouteTellsUptoSaid : Prop := routeTellsUptoRow.holds Tryz.pinned (OpenSpec.upto routeTellsSpec)

/-- 'backreachlaw22.RouteMore', WHERE WHAT IT READS IS OF BULK AT MOST 1048576: true; the input reads as it did. -/
def routeMoreUptoRow : OpenClaim := { program := "ytcbnhfnnjkkceaagreat", sum := "37b8597a55c77563b73eb8280b908be073d117e2e996333e6c7833fd65cd12db", func := "backreach/backreachlaw22.RouteMore", spec := "routeMore", inPlace := ["sync/atomic.LoadUint32", "(*internal/sync.Mutex).Lock", "internal/race.Disable", "sync/atomic.CompareAndSwapInt32", "internal/race.Enable", "internal/race.Acquire", "(*internal/sync.Mutex).lockSlow", "internal/sync.runtime_canSpin", "internal/sync.runtime_doSpin", "internal/sync.throw", "internal/sync.runtime_nanotime", "internal/sync.runtime_SemacquireMutex", "sync/atomic.AddInt32", "(*internal/sync.Mutex).Unlock", "internal/race.ReleaseMerge", "(*internal/sync.Mutex).unlockSlow", "internal/sync.fatal", "internal/sync.runtime_Semrelease", "sync/atomic.StoreUint32"], unfollowed := true, recurses := true, apart := false, narrowed := true }
def RouteMoreUptoSaid : Prop := routeMoreUptoRow.holds Tryz.pinned (OpenSpec.upto routeMoreSpec)

/-- 'backreachlaw22.RouteGoes', WHERE WHAT IT READS IS OF BULK AT MOST 1048576: true; the input reads as it did. -/
def routeGoesUptoRow : OpenClaim := { program := "ytcbnhfnnjkkceaagreat", sum := "37b8597a55c77563b73eb8280b908be073d117e2e996333e6c7833fd65cd12db", func := "backreach/backreachlaw22.RouteGoes", spec := "routeGoes", inPlace := ["sync/atomic.LoadUint32", "(*internal/sync.Mutex).Lock", "internal/race.Disable", "sync/atomic.CompareAndSwapInt32", "internal/race.Enable", "internal/race.Acquire", "(*internal/sync.Mutex).lockSlow", "internal/sync.runtime_canSpin", "internal/sync.runtime_doSpin", "internal/sync.throw", "internal/sync.runtime_nanotime", "internal/sync.runtime_SemacquireMutex", "sync/atomic.AddInt32", "(*internal/sync.Mutex).Unlock", "internal/race.ReleaseMerge", "(*internal/sync.Mutex).unlockSlow", "internal/sync.fatal", "internal/sync.runtime_Semrelease", "sync/atomic.StoreUint32"], unfollowed := true, recurses := true, apart := false, narrowed := true }
def RouteGoesUptoSaid : Prop := routeGoesUptoRow.holds Tryz.pinned (OpenSpec.upto routeGoesSpec)

/-- 'backreachlaw22.RouteBacks', WHERE WHAT IT READS IS OF BULK AT MOST 1048576: true; the input reads as it did. -/
def routeBacksUptoRow : OpenClaim := { program := "ytcbnhfnnjkkceaagreat", sum := "37b8597a55c77563b73eb8280b908be073d117e2e996333e6c7833fd65cd12db", func := "backreach/backreachlaw22.RouteBacks", spec := "routeBacks", inPlace := ["sync/atomic.LoadUint32", "(*internal/sync.Mutex).Lock", "internal/race.Disable", "sync/atomic.CompareAndSwapInt32", "internal/race.Enable", "internal/race.Acquire", "(*internal/sync.Mutex).lockSlow", "internal/sync.runtime_canSpin", "internal/sync.runtime_doSpin", "internal/sync.throw", "internal/sync.runtime_nanotime", "internal/sync.runtime_SemacquireMutex", "sync/atomic.AddInt32", "(*internal/sync.Mutex).Unlock", "internal/race.ReleaseMerge", "(*internal/sync.Mutex).unlockSlow", "internal/sync.fatal", "internal/sync.runtime_Semrelease", "sync/atomic.StoreUint32"], unfollowed := true, recurses := true, apart := false, narrowed := true }
def RouteBacksUptoSaid : Prop := routeBacksUptoRow.holds Tryz.pinned (OpenSpec.upto routeBacksSpec)

/-- 'backreachlaw22.RouteRuns', WHERE WHAT IT READS IS OF BULK AT MOST 1048576: true; the input reads as it did. -/
def routeRunsUptoRow : OpenClaim := { program := "ytcbnhfnnjkkceaagreat", sum := "37b8597a55c77563b73eb8280b908be073d117e2e996333e6c7833fd65cd12db", func := "backreach/backreachlaw22.RouteRuns", spec := "routeRuns", inPlace := ["sync/atomic.LoadUint32", "(*internal/sync.Mutex).Lock", "internal/race.Disable", "sync/atomic.CompareAndSwapInt32", "internal/race.Enable", "internal/race.Acquire", "(*internal/sync.Mutex).lockSlow", "internal/sync.runtime_canSpin", "internal/sync.runtime_doSpin", "internal/sync.throw", "internal/sync.runtime_nanotime", "internal/sync.runtime_SemacquireMutex", "sync/atomic.AddInt32", "(*internal/sync.Mutex).Unlock", "internal/race.ReleaseMerge", "(*internal/sync.Mutex).unlockSlow", "internal/sync.fatal", "internal/sync.runtime_Semrelease", "sync/atomic.StoreUint32"], unfollowed := true, recurses := true, apart := false, narrowed := true }
def RouteRunsUptoSaid : Prop := routeRunsUptoRow.holds Tryz.pinned (OpenSpec.upto routeRunsSpec)

end Rows
end Go.Proofs.YtcbnhfnnjkkceaaGreat
