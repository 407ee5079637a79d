/-
  No cell of these rows narrows 'for every input' (looked for: loops, veiled, ifaces, maps, wideKeys, modest, calm, conditions, laid).
  DERIVED. THE GIVEN ROWS OF THIS SEAT. 11 by the template 'for every input the law returns true; each argument reads behind the call as it read before'; 0 by the template 'total and deterministic' (their statements: YtfnkbgcgajgppaaTotals.lean).
  GIVEN WITH THE SEED: the statements are not yours to turn. If you find one false, say at which input.
  Laid BY PROGRAM, IN A SANDBOX (cutbox-rows.mjs): the forced cells as the released guide's own fill.sh prints them over the translation 3e6aaf323f1e3ec1… (all of the seat's roots in one cut). By AI agents, Wed Nov 11 2026. No macro, syntax, notation, axiom, sorry.
-/
import Derived.Test.YtfnkbgcgajgppaaChecked
import GoSem.Claim
import GoSem.ClaimJoined
import GoSem.ClaimMapViews
import Derived.JoinedTies
import Derived.KernelRfl
namespace Go.Proofs.Ytfnkbgcgajgppaa
/- THE CELL 'sum', in the pinned program and in every row, IS THE sha256 OF THE DUMP (.gsa) THAT YtfnkbgcgajgppaaProg.lean LOADS. Nothing in Lean hashes anything: it is a label: what it is worth is what the hold of that sum in a sandbox is worth. -/
noncomputable def Try.pinned : Pinned := { name := "ytfnkbgcgajgppaa", sum := "3e6aaf323f1e3ec19b0e9050f724a7bda8d5240daf4b33b38cf54cf603fb278c", checked := Try.checked }
namespace Rows
def none {H : Type} : Left H := { results := [], args := [] }

/-- 'garrisonlaw23.RuleJudges': WHATEVER THE INPUT: true; the input reads as it did. -/
def ruleJudgesSpec : ChangeSpec := { name := "ruleJudges", fn := fun _ => fun
  | [d1, d2, d3] => { results := [.lit (.bool true)], args := [d1, d2, d3] }
  | _ => none }
def ruleJudgesRow : OpenClaim := { program := "ytfnkbgcgajgppaa", sum := "3e6aaf323f1e3ec19b0e9050f724a7bda8d5240daf4b33b38cf54cf603fb278c", func := "garrison/garrisonlaw23.RuleJudges", spec := "ruleJudges", plainKeys := false, apart := false }
def RuleJudgesSaid : Prop := ruleJudgesRow.holds Try.pinned (OpenSpec.ofChange ruleJudgesSpec)

/-- ITS FALSE NEIGHBOUR: 'it returns false'. Refute it at one input. -/
def ruleJudgesWrong : ChangeSpec := { name := "ruleJudges", fn := fun _ => fun
  | [d1, d2, d3] => { results := [.lit (.bool false)], args := [d1, d2, d3] }
  | _ => none }
def RuleJudgesWrongFalsely : Prop := ruleJudgesRow.holds Try.pinned (OpenSpec.ofChange ruleJudgesWrong)

/-- 'garrisonlaw23.RuleFlows': WHATEVER THE INPUT: true; the input reads as it did. -/
def ruleFlowsSpec : ChangeSpec := { name := "ruleFlows", fn := fun _ => fun
  | [d1, d2] => { results := [.lit (.bool true)], args := [d1, d2] }
  | _ => none }
def ruleFlowsRow : OpenClaim := { program := "ytfnkbgcgajgppaa", sum := "3e6aaf323f1e3ec19b0e9050f724a7bda8d5240daf4b33b38cf54cf603fb278c", func := "garrison/garrisonlaw23.RuleFlows", spec := "ruleFlows", plainKeys := false, apart := false }
def RuleFlowsSaid : Prop := ruleFlowsRow.holds Try.pinned (OpenSpec.ofChange ruleFlowsSpec)

/-- ITS FALSE NEIGHBOUR: 'it returns false'. Refute it at one input. -/
def ruleFlowsWrong : ChangeSpec := { name := "ruleFlows", fn := fun _ => fun
  | [d1, d2] => { results := [.lit (.bool false)], args := [d1, d2] }
  | _ => none }
def RuleFlowsWrongFalsely : Prop := ruleFlowsRow.holds Try.pinned (OpenSpec.ofChange ruleFlowsWrong)

/-- 'garrisonlaw23.RuleKeeps': WHATEVER THE INPUT: true; the input reads as it did. -/
def ruleKeepsSpec : ChangeSpec := { name := "ruleKeeps", fn := fun _ => fun
  | [d1, d2, d3, d4, d5] => { results := [.lit (.bool true)], args := [d1, d2, d3, d4, d5] }
  | _ => none }
def ruleKeepsRow : OpenClaim := { program := "ytfnkbgcgajgppaa", sum := "3e6aaf323f1e3ec19b0e9050f724a7bda8d5240daf4b33b38cf54cf603fb278c", func := "garrison/garrisonlaw23.RuleKeeps", spec := "ruleKeeps", unfollowed := true, recurses := true, plainKeys := false, apart := false }
def RuleKeepsSaid : Prop := ruleKeepsRow.holds Try.pinned (OpenSpec.ofChange ruleKeepsSpec)

/-- ITS FALSE NEIGHBOUR: 'it returns false'. Refute it at one input. -/
def ruleKeepsWrong : ChangeSpec := { name := "ruleKeeps", fn := fun _ => fun
  | [d1, d2, d3, d4, d5] => { results := [.lit (.bool false)], args := [d1, d2, d3, d4, d5] }
  | _ => none }
def RuleKeepsWrongFalsely : Prop := ruleKeepsRow.holds Try.pinned (OpenSpec.ofChange ruleKeepsWrong)

/-- 'garrisonlaw23.RuleNone': WHATEVER THE INPUT: true; the input reads as it did. -/
def ruleNoneSpec : ChangeSpec := { name := "ruleNone", fn := fun _ => fun
  | [d1, d2, d3] => { results := [.lit (.bool true)], args := [d1, d2, d3] }
  | _ => none }
def ruleNoneRow : OpenClaim := { program := "ytfnkbgcgajgppaa", sum := "3e6aaf323f1e3ec19b0e9050f724a7bda8d5240daf4b33b38cf54cf603fb278c", func := "garrison/garrisonlaw23.RuleNone", spec := "ruleNone", plainKeys := false, apart := false }
def RuleNoneSaid : Prop := ruleNoneRow.holds Try.pinned (OpenSpec.ofChange ruleNoneSpec)

/-- ITS FALSE NEIGHBOUR: 'it returns false'. Refute it at one input. -/
def ruleNoneWrong : ChangeSpec := { name := "ruleNone", fn := fun _ => fun
  | [d1, d2, d3] => { results := [.lit (.bool false)], args := [d1, d2, d3] }
  | _ => none }
def RuleNoneWrongFalsely : Prop := ruleNoneRow.holds Try.pinned (OpenSpec.ofChange ruleNoneWrong)

/-- 'garrisonlaw24.FdsApart': WHATEVER THE INPUT: true; the input reads as it did. -/
def fdsApartSpec : ChangeSpec := { name := "fdsApart", fn := fun _ => fun
  | [d1, d2] => { results := [.lit (.bool true)], args := [d1, d2] }
  | _ => none }
def fdsApartRow : OpenClaim := { program := "ytfnkbgcgajgppaa", sum := "3e6aaf323f1e3ec19b0e9050f724a7bda8d5240daf4b33b38cf54cf603fb278c", func := "garrison/garrisonlaw24.FdsApart", spec := "fdsApart", plainKeys := false, apart := false }
def FdsApartSaid : Prop := fdsApartRow.holds Try.pinned (OpenSpec.ofChange fdsApartSpec)

/-- ITS FALSE NEIGHBOUR: 'it returns false'. Refute it at one input. -/
def fdsApartWrong : ChangeSpec := { name := "fdsApart", fn := fun _ => fun
  | [d1, d2] => { results := [.lit (.bool false)], args := [d1, d2] }
  | _ => none }
def FdsApartWrongFalsely : Prop := fdsApartRow.holds Try.pinned (OpenSpec.ofChange fdsApartWrong)

/-- 'garrisonlaw18.FrameApart': WHATEVER THE INPUT: true; the input reads as it did. -/
def frameApartSpec : ChangeSpec := { name := "frameApart", fn := fun _ => fun
  | [d1, d2] => { results := [.lit (.bool true)], args := [d1, d2] }
  | _ => none }
def frameApartRow : OpenClaim := { program := "ytfnkbgcgajgppaa", sum := "3e6aaf323f1e3ec19b0e9050f724a7bda8d5240daf4b33b38cf54cf603fb278c", func := "garrison/garrisonlaw18.FrameApart", spec := "frameApart", plainKeys := false, apart := false }
def FrameApartSaid : Prop := frameApartRow.holds Try.pinned (OpenSpec.ofChange frameApartSpec)

/-- ITS FALSE NEIGHBOUR: 'it returns false'. Refute it at one input. -/
def frameApartWrong : ChangeSpec := { name := "frameApart", fn := fun _ => fun
  | [d1, d2] => { results := [.lit (.bool false)], args := [d1, d2] }
  | _ => none }
def FrameApartWrongFalsely : Prop := frameApartRow.holds Try.pinned (OpenSpec.ofChange frameApartWrong)

/-- 'garrisonlaw18.FramePlays': WHATEVER THE INPUT: true; the input reads as it did. -/
def framePlaysSpec : ChangeSpec := { name := "framePlays", fn := fun _ => fun
  | [d1, d2] => { results := [.lit (.bool true)], args := [d1, d2] }
  | _ => none }
def framePlaysRow : OpenClaim := { program := "ytfnkbgcgajgppaa", sum := "3e6aaf323f1e3ec19b0e9050f724a7bda8d5240daf4b33b38cf54cf603fb278c", func := "garrison/garrisonlaw18.FramePlays", spec := "framePlays", plainKeys := false, apart := false }
def FramePlaysSaid : Prop := framePlaysRow.holds Try.pinned (OpenSpec.ofChange framePlaysSpec)

/-- ITS FALSE NEIGHBOUR: 'it returns false'. Refute it at one input. -/
def framePlaysWrong : ChangeSpec := { name := "framePlays", fn := fun _ => fun
  | [d1, d2] => { results := [.lit (.bool false)], args := [d1, d2] }
  | _ => none }
def FramePlaysWrongFalsely : Prop := framePlaysRow.holds Try.pinned (OpenSpec.ofChange framePlaysWrong)

/-- 'garrisonlaw18.FrameNone': WHATEVER THE INPUT: true; the input reads as it did. -/
def frameNoneSpec : ChangeSpec := { name := "frameNone", fn := fun _ => fun
  | [d1, d2, d3, d4, d5] => { results := [.lit (.bool true)], args := [d1, d2, d3, d4, d5] }
  | _ => none }
def frameNoneRow : OpenClaim := { program := "ytfnkbgcgajgppaa", sum := "3e6aaf323f1e3ec19b0e9050f724a7bda8d5240daf4b33b38cf54cf603fb278c", func := "garrison/garrisonlaw18.FrameNone", spec := "frameNone", plainKeys := false, apart := false }
def FrameNoneSaid : Prop := frameNoneRow.holds Try.pinned (OpenSpec.ofChange frameNoneSpec)

/-- ITS FALSE NEIGHBOUR: 'it returns false'. Refute it at one input. -/
def frameNoneWrong : ChangeSpec := { name := "frameNone", fn := fun _ => fun
  | [d1, d2, d3, d4, d5] => { results := [.lit (.bool false)], args := [d1, d2, d3, d4, d5] }
  | _ => none }
def FrameNoneWrongFalsely : Prop := frameNoneRow.holds Try.pinned (OpenSpec.ofChange frameNoneWrong)

/-- 'garrisonlaw24.FdsPlays': WHATEVER THE INPUT: true; the input reads as it did. -/
def fdsPlaysSpec : ChangeSpec := { name := "fdsPlays", fn := fun _ => fun
  | [d1, d2] => { results := [.lit (.bool true)], args := [d1, d2] }
  | _ => none }
def fdsPlaysRow : OpenClaim := { program := "ytfnkbgcgajgppaa", sum := "3e6aaf323f1e3ec19b0e9050f724a7bda8d5240daf4b33b38cf54cf603fb278c", func := "garrison/garrisonlaw24.FdsPlays", spec := "fdsPlays", plainKeys := false, apart := false }
def FdsPlaysSaid : Prop := fdsPlaysRow.holds Try.pinned (OpenSpec.ofChange fdsPlaysSpec)

/-- ITS FALSE NEIGHBOUR: 'it returns false'. Refute it at one input. -/
def fdsPlaysWrong : ChangeSpec := { name := "fdsPlays", fn := fun _ => fun
  | [d1, d2] => { results := [.lit (.bool false)], args := [d1, d2] }
  | _ => none }
def FdsPlaysWrongFalsely : Prop := fdsPlaysRow.holds Try.pinned (OpenSpec.ofChange fdsPlaysWrong)

/-- 'garrisonlaw24.FdsSets': WHATEVER THE INPUT: true; the input reads as it did. -/
def fdsSetsSpec : ChangeSpec := { name := "fdsSets", fn := fun _ => fun
  | [d] => { results := [.lit (.bool true)], args := [d] }
  | _ => none }
def fdsSetsRow : OpenClaim := { program := "ytfnkbgcgajgppaa", sum := "3e6aaf323f1e3ec19b0e9050f724a7bda8d5240daf4b33b38cf54cf603fb278c", func := "garrison/garrisonlaw24.FdsSets", spec := "fdsSets", plainKeys := false, apart := false }
def FdsSetsSaid : Prop := fdsSetsRow.holds Try.pinned (OpenSpec.ofChange fdsSetsSpec)

/-- ITS FALSE NEIGHBOUR: 'it returns false'. Refute it at one input. -/
def fdsSetsWrong : ChangeSpec := { name := "fdsSets", fn := fun _ => fun
  | [d] => { results := [.lit (.bool false)], args := [d] }
  | _ => none }
def FdsSetsWrongFalsely : Prop := fdsSetsRow.holds Try.pinned (OpenSpec.ofChange fdsSetsWrong)

/-- 'garrisonlaw24.FdsNone': WHATEVER THE INPUT: true; the input reads as it did. -/
def fdsNoneSpec : ChangeSpec := { name := "fdsNone", fn := fun _ => fun
  | [d1, d2, d3, d4] => { results := [.lit (.bool true)], args := [d1, d2, d3, d4] }
  | _ => none }
def fdsNoneRow : OpenClaim := { program := "ytfnkbgcgajgppaa", sum := "3e6aaf323f1e3ec19b0e9050f724a7bda8d5240daf4b33b38cf54cf603fb278c", func := "garrison/garrisonlaw24.FdsNone", spec := "fdsNone", plainKeys := false, apart := false }
def FdsNoneSaid : Prop := fdsNoneRow.holds Try.pinned (OpenSpec.ofChange fdsNoneSpec)

/-- ITS FALSE NEIGHBOUR: 'it returns false'. Refute it at one input. -/
def fdsNoneWrong : ChangeSpec := { name := "fdsNone", fn := fun _ => fun
  | [d1, d2, d3, d4] => { results := [.lit (.bool false)], args := [d1, d2, d3, d4] }
  | _ => none }
def FdsNoneWrongFalsely : Prop := fdsNoneRow.holds Try.pinned (OpenSpec.ofChange fdsNoneWrong)

/- THE SECOND FORM. 'bulk': how many values and letters a reading holds, each counted each time it is reached (what is shared counts as often as it is met; a slice's spare places count too). A statement '..UptoSaid' is the law's where the arguments, and the package variables that the reading takes, are together of bulk at most 1048576: NARROWER than '..Said'. Prove '..Said' where nothing that the law and all that it calls make is longer than what came in: it says more and counts as full. Else prove '..UptoSaid'. A law counts once. -/
mutual
def uptoBulk {H : Type} : DataW H → Nat
  | .lit (.string bytes) => bytes.length + 1
  | .lit _ => 1
  | .nil => 1
  | .ptr d => uptoBulk d + 1
  | .slice elems spare => uptoBulkAll elems + uptoBulkAll spare + 1
  | .agg parts => uptoBulkAll parts + 1
  | .iface _ d => uptoBulk d + 1
  | .map entries => uptoBulkEntries entries + 1
  | .held _ => 1
def uptoBulkAll {H : Type} : List (DataW H) → Nat
  | [] => 0
  | d :: r => uptoBulk d + uptoBulkAll r
def uptoBulkEntries {H : Type} : List (Lit × DataW H) → Nat
  | [] => 0
  | x :: r => uptoBulkEntry x + uptoBulkEntries r
def uptoBulkEntry {H : Type} : Lit × DataW H → Nat
  | (.string bytes, d) => bytes.length + uptoBulk d + 1
  | (_, d) => uptoBulk d + 1
 end
def uptoSmall : (H : Type) → List (DataW H) → Bool := fun _ ds => decide (uptoBulkAll ds ≤ 1048576)
def OpenSpec.upto (s : _root_.Go.ChangeSpec) : _root_.Go.OpenSpec := { _root_.Go.OpenSpec.ofChange s with cond := some uptoSmall }

/-- 'garrisonlaw23.RuleJudges', WHERE WHAT IT READS IS OF BULK AT MOST 1048576: true; the input reads as it did. -/
def ruleJudgesUptoRow : OpenClaim := { program := "ytfnkbgcgajgppaa", sum := "3e6aaf323f1e3ec19b0e9050f724a7bda8d5240daf4b33b38cf54cf603fb278c", func := "garrison/garrisonlaw23.RuleJudges", spec := "ruleJudges", plainKeys := false, apart := false, narrowed := true }
def RuleJudgesUptoSaid : Prop := ruleJudgesUptoRow.holds Try.pinned (OpenSpec.upto ruleJudgesSpec)

/-- 'garrisonlaw23.RuleFlows', WHERE WHAT IT READS IS OF BULK AT MOST 1048576: true; the input reads as it did. -/
def ruleFlowsUptoRow : OpenClaim := { program := "ytfnkbgcgajgppaa", sum := "3e6aaf323f1e3ec19b0e9050f724a7bda8d5240daf4b33b38cf54cf603fb278c", func := "garrison/garrisonlaw23.RuleFlows", spec := "ruleFlows", plainKeys := false, apart := false, narrowed := true }
def RuleFlowsUptoSaid : Prop := ruleFlowsUptoRow.holds Try.pinned (OpenSpec.upto ruleFlowsSpec)

/-- 'garrisonlaw23.RuleKeeps', WHERE WHAT IT READS IS OF BULK AT MOST 1048576: true; the input reads as it did. -/
def ruleKeepsUptoRow : OpenClaim := { program := "ytfnkbgcgajgppaa", sum := "3e6aaf323f1e3ec19b0e9050f724a7bda8d5240daf4b33b38cf54cf603fb278c", func := "garrison/garrisonlaw23.RuleKeeps", spec := "ruleKeeps", unfollowed := true, recurses := true, plainKeys := false, apart := false, narrowed := true }
def RuleKeepsUptoSaid : Prop := ruleKeepsUptoRow.holds Try.pinned (OpenSpec.upto ruleKeepsSpec)

/-- 'garrisonlaw23.RuleNone', WHERE WHAT IT READS IS OF BULK AT MOST 1048576: true; the input reads as it did. -/
def ruleNoneUptoRow : OpenClaim := { program := "ytfnkbgcgajgppaa", sum := "3e6aaf323f1e3ec19b0e9050f724a7bda8d5240daf4b33b38cf54cf603fb278c", func := "garrison/garrisonlaw23.RuleNone", spec := "ruleNone", plainKeys := false, apart := false, narrowed := true }
def RuleNoneUptoSaid : Prop := ruleNoneUptoRow.holds Try.pinned (OpenSpec.upto ruleNoneSpec)

/-- 'garrisonlaw24.FdsApart', WHERE WHAT IT READS IS OF BULK AT MOST 1048576: true; the input reads as it did. -/
def fdsApartUptoRow : OpenClaim := { program := "ytfnkbgcgajgppaa", sum := "3e6aaf323f1e3ec19b0e9050f724a7bda8d5240daf4b33b38cf54cf603fb278c", func := "garrison/garrisonlaw24.FdsApart", spec := "fdsApart", plainKeys := false, apart := false, narrowed := true }
def FdsApartUptoSaid : Prop := fdsApartUptoRow.holds Try.pinned (OpenSpec.upto fdsApartSpec)

/-- 'garrisonlaw18.FrameApart', WHERE WHAT IT READS IS OF BULK AT MOST 1048576: true; the input reads as it did. -/
def frameApartUptoRow : OpenClaim := { program := "ytfnkbgcgajgppaa", sum := "3e6aaf323f1e3ec19b0e9050f724a7bda8d5240daf4b33b38cf54cf603fb278c", func := "garrison/garrisonlaw18.FrameApart", spec := "frameApart", plainKeys := false, apart := false, narrowed := true }
def FrameApartUptoSaid : Prop := frameApartUptoRow.holds Try.pinned (OpenSpec.upto frameApartSpec)

/-- 'garrisonlaw18.FramePlays', WHERE WHAT IT READS IS OF BULK AT MOST 1048576: true; the input reads as it did. -/
def framePlaysUptoRow : OpenClaim := { program := "ytfnkbgcgajgppaa", sum := "3e6aaf323f1e3ec19b0e9050f724a7bda8d5240daf4b33b38cf54cf603fb278c", func := "garrison/garrisonlaw18.FramePlays", spec := "framePlays", plainKeys := false, apart := false, narrowed := true }
def FramePlaysUptoSaid : Prop := framePlaysUptoRow.holds Try.pinned (OpenSpec.upto framePlaysSpec)

/-- 'garrisonlaw18.FrameNone', WHERE WHAT IT READS IS OF BULK AT MOST 1048576: true; the input reads as it did. -/
def frameNoneUptoRow : OpenClaim := { program := "ytfnkbgcgajgppaa", sum := "3e6aaf323f1e3ec19b0e9050f724a7bda8d5240daf4b33b38cf54cf603fb278c", func := "garrison/garrisonlaw18.FrameNone", spec := "frameNone", plainKeys := false, apart := false, narrowed := true }
def FrameNoneUptoSaid : Prop := frameNoneUptoRow.holds Try.pinned (OpenSpec.upto frameNoneSpec)

/-- 'garrisonlaw24.FdsPlays', WHERE WHAT IT READS IS OF BULK AT MOST 1048576: true; the input reads as it did. -/
def fdsPlaysUptoRow : OpenClaim := { program := "ytfnkbgcgajgppaa", sum := "3e6aaf323f1e3ec19b0e9050f724a7bda8d5240daf4b33b38cf54cf603fb278c", func := "garrison/garrisonlaw24.FdsPlays", spec := "fdsPlays", plainKeys := false, apart := false, narrowed := true }
def FdsPlaysUptoSaid : Prop := fdsPlaysUptoRow.holds Try.pinned (OpenSpec.upto fdsPlaysSpec)

/-- 'garrisonlaw24.FdsSets', WHERE WHAT IT READS IS OF BULK AT MOST 1048576: true; the input reads as it did. -/
def fdsSetsUptoRow : OpenClaim := { program := "ytfnkbgcgajgppaa", sum := "3e6aaf323f1e3ec19b0e9050f724a7bda8d5240daf4b33b38cf54cf603fb278c", func := "garrison/garrisonlaw24.FdsSets", spec := "fdsSets", plainKeys := false, apart := false, narrowed := true }
def FdsSetsUptoSaid : Prop := fdsSetsUptoRow.holds Try.pinned (OpenSpec.upto fdsSetsSpec)

/-- 'garrisonlaw24.FdsNone', WHERE WHAT IT READS IS OF BULK AT MOST 1048576: true; the input reads as it did. -/
def fdsNoneUptoRow : OpenClaim := { program := "ytfnkbgcgajgppaa", sum := "3e6aaf323f1e3ec19b0e9050f724a7bda8d5240daf4b33b38cf54cf603fb278c", func := "garrison/garrisonlaw24.FdsNone", spec := "fdsNone", plainKeys := false, apart := false, narrowed := true }
def FdsNoneUptoSaid : Prop := fdsNoneUptoRow.holds Try.pinned (OpenSpec.upto fdsNoneSpec)

end Rows
end Go.Proofs.Ytfnkbgcgajgppaa
