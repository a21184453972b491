/-
  No cell of these rows narrows 'for every input' (looked for: loops, veiled, ifaces, maps, wideKeys, modest, calm, conditions, laid).
  DERIVED. THE GIVEN ROWS OF THIS SEAT. 9 by the template 'for every input the law returns true; each argument reads behind the call as it read before'; 0 by the template 'total and deterministic' (their statements: YtphloehjcfipfaaTotals.lean).
  GIVEN WITH THE SEED: the statements are not yours to turn. If you find one false, say at which input.
  Laid BY PROGRAM, IN A SANDBOX (cutbox-rows.mjs): the forced cells as the released guide's own fill.sh prints them over the translation 93305b77abd87ba9… (all of the seat's roots in one cut). By AI agents, Wed Nov 11 2026. No macro, syntax, notation, axiom, sorry.
-/
import Derived.Test.YtphloehjcfipfaaChecked
import GoSem.Claim
import GoSem.ClaimJoined
import GoSem.ClaimMapViews
import Derived.JoinedTies
import Derived.KernelRfl
namespace Go.Proofs.Ytphloehjcfipfaa
/- THE CELL 'sum', in the pinned program and in every row, IS THE sha256 OF THE DUMP (.gsa) THAT YtphloehjcfipfaaProg.lean LOADS. Nothing in Lean hashes anything: it is a label: what it is worth is what the hold of that sum in a sandbox is worth. -/
noncomputable def Try.pinned : Pinned := { name := "ytphloehjcfipfaa", sum := "93305b77abd87ba9c27751beb78eff35db62faa760954ddf3d3b38c32d30992c", checked := Try.checked }
namespace Rows
def none {H : Type} : Left H := { results := [], args := [] }

/-- 'backreachlaw18.ProofChecks': WHATEVER THE INPUT: true; the input reads as it did. -/
def proofChecksSpec : ChangeSpec := { name := "proofChecks", fn := fun _ => fun
  | [d1, d2] => { results := [.lit (.bool true)], args := [d1, d2] }
  | _ => none }
def proofChecksRow : OpenClaim := { program := "ytphloehjcfipfaa", sum := "93305b77abd87ba9c27751beb78eff35db62faa760954ddf3d3b38c32d30992c", func := "backreach/backreachlaw18.ProofChecks", spec := "proofChecks", unfollowed := true, recurses := true, apart := false }
def ProofChecksSaid : Prop := proofChecksRow.holds Try.pinned (OpenSpec.ofChange proofChecksSpec)

/-- ITS FALSE NEIGHBOUR: 'it returns false'. Refute it at one input. -/
def proofChecksWrong : ChangeSpec := { name := "proofChecks", fn := fun _ => fun
  | [d1, d2] => { results := [.lit (.bool false)], args := [d1, d2] }
  | _ => none }
def ProofChecksWrongFalsely : Prop := proofChecksRow.holds Try.pinned (OpenSpec.ofChange proofChecksWrong)

/-- 'backreachlaw18.ProofMore': WHATEVER THE INPUT: true; the input reads as it did. -/
def proofMoreSpec : ChangeSpec := { name := "proofMore", fn := fun _ => fun
  | [d1, d2, d3, d4] => { results := [.lit (.bool true)], args := [d1, d2, d3, d4] }
  | _ => none }
def proofMoreRow : OpenClaim := { program := "ytphloehjcfipfaa", sum := "93305b77abd87ba9c27751beb78eff35db62faa760954ddf3d3b38c32d30992c", func := "backreach/backreachlaw18.ProofMore", spec := "proofMore", unfollowed := true, recurses := true, apart := false }
def ProofMoreSaid : Prop := proofMoreRow.holds Try.pinned (OpenSpec.ofChange proofMoreSpec)

/-- ITS FALSE NEIGHBOUR: 'it returns false'. Refute it at one input. -/
def proofMoreWrong : ChangeSpec := { name := "proofMore", fn := fun _ => fun
  | [d1, d2, d3, d4] => { results := [.lit (.bool false)], args := [d1, d2, d3, d4] }
  | _ => none }
def ProofMoreWrongFalsely : Prop := proofMoreRow.holds Try.pinned (OpenSpec.ofChange proofMoreWrong)

/-- 'backreachlaw18.ProofTrims': WHATEVER THE INPUT: true; the input reads as it did. -/
def proofTrimsSpec : ChangeSpec := { name := "proofTrims", fn := fun _ => fun
  | [d1, d2] => { results := [.lit (.bool true)], args := [d1, d2] }
  | _ => none }
def proofTrimsRow : OpenClaim := { program := "ytphloehjcfipfaa", sum := "93305b77abd87ba9c27751beb78eff35db62faa760954ddf3d3b38c32d30992c", func := "backreach/backreachlaw18.ProofTrims", spec := "proofTrims", unfollowed := true, recurses := true, apart := false }
def ProofTrimsSaid : Prop := proofTrimsRow.holds Try.pinned (OpenSpec.ofChange proofTrimsSpec)

/-- ITS FALSE NEIGHBOUR: 'it returns false'. Refute it at one input. -/
def proofTrimsWrong : ChangeSpec := { name := "proofTrims", fn := fun _ => fun
  | [d1, d2] => { results := [.lit (.bool false)], args := [d1, d2] }
  | _ => none }
def ProofTrimsWrongFalsely : Prop := proofTrimsRow.holds Try.pinned (OpenSpec.ofChange proofTrimsWrong)

/-- 'backreachlaw17.SearchAnswers': WHATEVER THE INPUT: true; the input reads as it did. -/
def searchAnswersSpec : ChangeSpec := { name := "searchAnswers", fn := fun _ => fun
  | [d1, d2] => { results := [.lit (.bool true)], args := [d1, d2] }
  | _ => none }
def searchAnswersRow : OpenClaim := { program := "ytphloehjcfipfaa", sum := "93305b77abd87ba9c27751beb78eff35db62faa760954ddf3d3b38c32d30992c", func := "backreach/backreachlaw17.SearchAnswers", spec := "searchAnswers", unfollowed := true, recurses := true, apart := false }
def SearchAnswersSaid : Prop := searchAnswersRow.holds Try.pinned (OpenSpec.ofChange searchAnswersSpec)

/-- ITS FALSE NEIGHBOUR: 'it returns false'. Refute it at one input. -/
def searchAnswersWrong : ChangeSpec := { name := "searchAnswers", fn := fun _ => fun
  | [d1, d2] => { results := [.lit (.bool false)], args := [d1, d2] }
  | _ => none }
def SearchAnswersWrongFalsely : Prop := searchAnswersRow.holds Try.pinned (OpenSpec.ofChange searchAnswersWrong)

/-- 'backreachlaw17.SearchMore': WHATEVER THE INPUT: true; the input reads as it did. -/
def searchMoreSpec : ChangeSpec := { name := "searchMore", fn := fun _ => fun
  | [d1, d2, d3] => { results := [.lit (.bool true)], args := [d1, d2, d3] }
  | _ => none }
def searchMoreRow : OpenClaim := { program := "ytphloehjcfipfaa", sum := "93305b77abd87ba9c27751beb78eff35db62faa760954ddf3d3b38c32d30992c", func := "backreach/backreachlaw17.SearchMore", spec := "searchMore", unfollowed := true, recurses := true, apart := false }
def SearchMoreSaid : Prop := searchMoreRow.holds Try.pinned (OpenSpec.ofChange searchMoreSpec)

/-- ITS FALSE NEIGHBOUR: 'it returns false'. Refute it at one input. -/
def searchMoreWrong : ChangeSpec := { name := "searchMore", fn := fun _ => fun
  | [d1, d2, d3] => { results := [.lit (.bool false)], args := [d1, d2, d3] }
  | _ => none }
def SearchMoreWrongFalsely : Prop := searchMoreRow.holds Try.pinned (OpenSpec.ofChange searchMoreWrong)

/-- 'backreachlaw17.SearchCounts': WHATEVER THE INPUT: true; the input reads as it did. -/
def searchCountsSpec : ChangeSpec := { name := "searchCounts", fn := fun _ => fun
  | [d1, d2, d3] => { results := [.lit (.bool true)], args := [d1, d2, d3] }
  | _ => none }
def searchCountsRow : OpenClaim := { program := "ytphloehjcfipfaa", sum := "93305b77abd87ba9c27751beb78eff35db62faa760954ddf3d3b38c32d30992c", func := "backreach/backreachlaw17.SearchCounts", spec := "searchCounts", inPlace := ["sync/atomic.AddInt64", "sync/atomic.LoadInt64"], unfollowed := true, recurses := true, apart := false }
def SearchCountsSaid : Prop := searchCountsRow.holds Try.pinned (OpenSpec.ofChange searchCountsSpec)

/-- ITS FALSE NEIGHBOUR: 'it returns false'. Refute it at one input. -/
def searchCountsWrong : ChangeSpec := { name := "searchCounts", fn := fun _ => fun
  | [d1, d2, d3] => { results := [.lit (.bool false)], args := [d1, d2, d3] }
  | _ => none }
def SearchCountsWrongFalsely : Prop := searchCountsRow.holds Try.pinned (OpenSpec.ofChange searchCountsWrong)

/-- 'backreachlaw17.SearchModels': WHATEVER THE INPUT: true; the input reads as it did. -/
def searchModelsSpec : ChangeSpec := { name := "searchModels", fn := fun _ => fun
  | [d1, d2, d3] => { results := [.lit (.bool true)], args := [d1, d2, d3] }
  | _ => none }
def searchModelsRow : OpenClaim := { program := "ytphloehjcfipfaa", sum := "93305b77abd87ba9c27751beb78eff35db62faa760954ddf3d3b38c32d30992c", func := "backreach/backreachlaw17.SearchModels", spec := "searchModels", unfollowed := true, recurses := true, apart := false }
def SearchModelsSaid : Prop := searchModelsRow.holds Try.pinned (OpenSpec.ofChange searchModelsSpec)

/-- ITS FALSE NEIGHBOUR: 'it returns false'. Refute it at one input. -/
def searchModelsWrong : ChangeSpec := { name := "searchModels", fn := fun _ => fun
  | [d1, d2, d3] => { results := [.lit (.bool false)], args := [d1, d2, d3] }
  | _ => none }
def SearchModelsWrongFalsely : Prop := searchModelsRow.holds Try.pinned (OpenSpec.ofChange searchModelsWrong)

/-- 'backreachlaw17.SearchEnds': WHATEVER THE INPUT: true; the input reads as it did. -/
def searchEndsSpec : ChangeSpec := { name := "searchEnds", fn := fun _ => fun
  | [d] => { results := [.lit (.bool true)], args := [d] }
  | _ => none }
def searchEndsRow : OpenClaim := { program := "ytphloehjcfipfaa", sum := "93305b77abd87ba9c27751beb78eff35db62faa760954ddf3d3b38c32d30992c", func := "backreach/backreachlaw17.SearchEnds", spec := "searchEnds", unfollowed := true, recurses := true, apart := false }
def SearchEndsSaid : Prop := searchEndsRow.holds Try.pinned (OpenSpec.ofChange searchEndsSpec)

/-- ITS FALSE NEIGHBOUR: 'it returns false'. Refute it at one input. -/
def searchEndsWrong : ChangeSpec := { name := "searchEnds", fn := fun _ => fun
  | [d] => { results := [.lit (.bool false)], args := [d] }
  | _ => none }
def SearchEndsWrongFalsely : Prop := searchEndsRow.holds Try.pinned (OpenSpec.ofChange searchEndsWrong)

/-- 'backreachlaw18.ProofTrue': WHATEVER THE INPUT: true; the input reads as it did. -/
def proofTrueSpec : ChangeSpec := { name := "proofTrue", fn := fun _ => fun
  | [d1, d2, d3] => { results := [.lit (.bool true)], args := [d1, d2, d3] }
  | _ => none }
def proofTrueRow : OpenClaim := { program := "ytphloehjcfipfaa", sum := "93305b77abd87ba9c27751beb78eff35db62faa760954ddf3d3b38c32d30992c", func := "backreach/backreachlaw18.ProofTrue", spec := "proofTrue", unfollowed := true, recurses := true, apart := false }
def ProofTrueSaid : Prop := proofTrueRow.holds Try.pinned (OpenSpec.ofChange proofTrueSpec)

/-- ITS FALSE NEIGHBOUR: 'it returns false'. Refute it at one input. -/
def proofTrueWrong : ChangeSpec := { name := "proofTrue", fn := fun _ => fun
  | [d1, d2, d3] => { results := [.lit (.bool false)], args := [d1, d2, d3] }
  | _ => none }
def ProofTrueWrongFalsely : Prop := proofTrueRow.holds Try.pinned (OpenSpec.ofChange proofTrueWrong)

/- THE SECOND FORM. 'bulk': how many values and letters a reading holds, each counted each time it is reached (what is shared counts as often as it is met; a slice's spare places count too). A statement '..UptoSaid' is the law's where the arguments, and the package variables that the reading takes, are together of bulk at most 1048576: NARROWER than '..Said'. Prove '..Said' where nothing that the law and all that it calls make is longer than what came in: it says more and counts as full. Else prove '..UptoSaid'. A law counts once. -/
mutual
def uptoBulk {H : Type} : DataW H → Nat
  | .lit (.string bytes) => bytes.length + 1
  | .lit _ => 1
  | .nil => 1
  | .ptr d => uptoBulk d + 1
  | .slice elems spare => uptoBulkAll elems + uptoBulkAll spare + 1
  | .agg parts => uptoBulkAll parts + 1
  | .iface _ d => uptoBulk d + 1
  | .map entries => uptoBulkEntries entries + 1
  | .held _ => 1
def uptoBulkAll {H : Type} : List (DataW H) → Nat
  | [] => 0
  | d :: r => uptoBulk d + uptoBulkAll r
def uptoBulkEntries {H : Type} : List (Lit × DataW H) → Nat
  | [] => 0
  | x :: r => uptoBulkEntry x + uptoBulkEntries r
def uptoBulkEntry {H : Type} : Lit × DataW H → Nat
  | (.string bytes, d) => bytes.length + uptoBulk d + 1
  | (_, d) => uptoBulk d + 1
 end
def uptoSmall : (H : Type) → List (DataW H) → Bool := fun _ ds => decide (uptoBulkAll ds ≤ 1048576)
def OpenSpec.upto (s : _root_.Go.ChangeSpec) : _root_.Go.OpenSpec := { _root_.Go.OpenSpec.ofChange s with cond := some uptoSmall }

/-- 'backreachlaw18.ProofChecks', WHERE WHAT IT READS IS OF BULK AT MOST 1048576: true; the input reads as it did. -/
def proofChecksUptoRow : OpenClaim := { program := "ytphloehjcfipfaa", sum := "93305b77abd87ba9c27751beb78eff35db62faa760954ddf3d3b38c32d30992c", func := "backreach/backreachlaw18.ProofChecks", spec := "proofChecks", unfollowed := true, recurses := true, apart := false, narrowed := true }
def ProofChecksUptoSaid : Prop := proofChecksUptoRow.holds Try.pinned (OpenSpec.upto proofChecksSpec)

/-- 'backreachlaw18.ProofMore', WHERE WHAT IT READS IS OF BULK AT MOST 1048576: true; the input reads as it did. -/
def proofMoreUptoRow : OpenClaim := { program := "ytphloehjcfipfaa", sum := "93305b77abd87ba9c27751beb78eff35db62faa760954ddf3d3b38c32d30992c", func := "backreach/backreachlaw18.ProofMore", spec := "proofMore", unfollowed := true, recurses := true, apart := false, narrowed := true }
def ProofMoreUptoSaid : Prop := proofMoreUptoRow.holds Try.pinned (OpenSpec.upto proofMoreSpec)

/-- 'backreachlaw18.ProofTrims', WHERE WHAT IT READS IS OF BULK AT MOST 1048576: true; the input reads as it did. -/
def proofTrimsUptoRow : OpenClaim := { program := "ytphloehjcfipfaa", sum := "93305b77abd87ba9c27751beb78eff35db62faa760954ddf3d3b38c32d30992c", func := "backreach/backreachlaw18.ProofTrims", spec := "proofTrims", unfollowed := true, recurses := true, apart := false, narrowed := true }
def ProofTrimsUptoSaid : Prop := proofTrimsUptoRow.holds Try.pinned (OpenSpec.upto proofTrimsSpec)

/-- 'backreachlaw17.SearchAnswers', WHERE WHAT IT READS IS OF BULK AT MOST 1048576: true; the input reads as it did. -/
def searchAnswersUptoRow : OpenClaim := { program := "ytphloehjcfipfaa", sum := "93305b77abd87ba9c27751beb78eff35db62faa760954ddf3d3b38c32d30992c", func := "backreach/backreachlaw17.SearchAnswers", spec := "searchAnswers", unfollowed := true, recurses := true, apart := false, narrowed := true }
def SearchAnswersUptoSaid : Prop := searchAnswersUptoRow.holds Try.pinned (OpenSpec.upto searchAnswersSpec)

/-- 'backreachlaw17.SearchMore', WHERE WHAT IT READS IS OF BULK AT MOST 1048576: true; the input reads as it did. -/
def searchMoreUptoRow : OpenClaim := { program := "ytphloehjcfipfaa", sum := "93305b77abd87ba9c27751beb78eff35db62faa760954ddf3d3b38c32d30992c", func := "backreach/backreachlaw17.SearchMore", spec := "searchMore", unfollowed := true, recurses := true, apart := false, narrowed := true }
def SearchMoreUptoSaid : Prop := searchMoreUptoRow.holds Try.pinned (OpenSpec.upto searchMoreSpec)

/-- 'backreachlaw17.SearchCounts', WHERE WHAT IT READS IS OF BULK AT MOST 1048576: true; the input reads as it did. -/
def searchCountsUptoRow : OpenClaim := { program := "ytphloehjcfipfaa", sum := "93305b77abd87ba9c27751beb78eff35db62faa760954ddf3d3b38c32d30992c", func := "backreach/backreachlaw17.SearchCounts", spec := "searchCounts", inPlace := ["sync/atomic.AddInt64", "sync/atomic.LoadInt64"], unfollowed := true, recurses := true, apart := false, narrowed := true }
def SearchCountsUptoSaid : Prop := searchCountsUptoRow.holds Try.pinned (OpenSpec.upto searchCountsSpec)

/-- 'backreachlaw17.SearchModels', WHERE WHAT IT READS IS OF BULK AT MOST 1048576: true; the input reads as it did. -/
def searchModelsUptoRow : OpenClaim := { program := "ytphloehjcfipfaa", sum := "93305b77abd87ba9c27751beb78eff35db62faa760954ddf3d3b38c32d30992c", func := "backreach/backreachlaw17.SearchModels", spec := "searchModels", unfollowed := true, recurses := true, apart := false, narrowed := true }
def SearchModelsUptoSaid : Prop := searchModelsUptoRow.holds Try.pinned (OpenSpec.upto searchModelsSpec)

/-- 'backreachlaw17.SearchEnds', WHERE WHAT IT READS IS OF BULK AT MOST 1048576: true; the input reads as it did. -/
def searchEndsUptoRow : OpenClaim := { program := "ytphloehjcfipfaa", sum := "93305b77abd87ba9c27751beb78eff35db62faa760954ddf3d3b38c32d30992c", func := "backreach/backreachlaw17.SearchEnds", spec := "searchEnds", unfollowed := true, recurses := true, apart := false, narrowed := true }
def SearchEndsUptoSaid : Prop := searchEndsUptoRow.holds Try.pinned (OpenSpec.upto searchEndsSpec)

/-- 'backreachlaw18.ProofTrue', WHERE WHAT IT READS IS OF BULK AT MOST 1048576: true; the input reads as it did. -/
def proofTrueUptoRow : OpenClaim := { program := "ytphloehjcfipfaa", sum := "93305b77abd87ba9c27751beb78eff35db62faa760954ddf3d3b38c32d30992c", func := "backreach/backreachlaw18.ProofTrue", spec := "proofTrue", unfollowed := true, recurses := true, apart := false, narrowed := true }
def ProofTrueUptoSaid : Prop := proofTrueUptoRow.holds Try.pinned (OpenSpec.upto proofTrueSpec)

end Rows
end Go.Proofs.Ytphloehjcfipfaa
