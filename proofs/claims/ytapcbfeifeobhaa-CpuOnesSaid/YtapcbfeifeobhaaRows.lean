/-
  No cell of these rows narrows 'for every input' (looked for: loops, veiled, ifaces, maps, wideKeys, modest, calm, conditions, laid).
  DERIVED. THE GIVEN ROWS OF THIS SEAT. 5 by the template 'for every input the law returns true; each argument reads behind the call as it read before'; 0 by the template 'total and deterministic' (their statements: YtapcbfeifeobhaaTotals.lean).
  GIVEN WITH THE SEED: the statements are not yours to turn. If you find one false, say at which input.
  Laid BY PROGRAM, IN A SANDBOX (cutbox-rows.mjs): the forced cells as the released guide's own fill.sh prints them over the translation 9e23936a10196a7a… (all of the seat's roots in one cut). By AI agents, Wed Nov 11 2026. No macro, syntax, notation, axiom, sorry.
-/
import Derived.Test.YtapcbfeifeobhaaChecked
import GoSem.Claim
import GoSem.ClaimJoined
import GoSem.ClaimMapViews
import Derived.JoinedTies
import Derived.KernelRfl
namespace Go.Proofs.Ytapcbfeifeobhaa
/- THE CELL 'sum', in the pinned program and in every row, IS THE sha256 OF THE DUMP (.gsa) THAT YtapcbfeifeobhaaProg.lean LOADS. Nothing in Lean hashes anything: it is a label: what it is worth is what the hold of that sum in a sandbox is worth. -/
noncomputable def Try.pinned : Pinned := { name := "ytapcbfeifeobhaa", sum := "9e23936a10196a7ae86ced6cd318e81dfc07ff5d79924bbcb5ccb501eda5a4e1", checked := Try.checked }
namespace Rows
def none {H : Type} : Left H := { results := [], args := [] }

/-- 'garrisonlaw20.CpuOnes': WHATEVER THE INPUT: true; the input reads as it did. -/
def cpuOnesSpec : ChangeSpec := { name := "cpuOnes", fn := fun _ => fun
  | [d1, d2, d3, d4, d5] => { results := [.lit (.bool true)], args := [d1, d2, d3, d4, d5] }
  | _ => none }
def cpuOnesRow : OpenClaim := { program := "ytapcbfeifeobhaa", sum := "9e23936a10196a7ae86ced6cd318e81dfc07ff5d79924bbcb5ccb501eda5a4e1", func := "garrison/garrisonlaw20.CpuOnes", spec := "cpuOnes", plainKeys := false, apart := false }
def CpuOnesSaid : Prop := cpuOnesRow.holds Try.pinned (OpenSpec.ofChange cpuOnesSpec)

/-- ITS FALSE NEIGHBOUR: 'it returns false'. Refute it at one input. -/
def cpuOnesWrong : ChangeSpec := { name := "cpuOnes", fn := fun _ => fun
  | [d1, d2, d3, d4, d5] => { results := [.lit (.bool false)], args := [d1, d2, d3, d4, d5] }
  | _ => none }
def CpuOnesWrongFalsely : Prop := cpuOnesRow.holds Try.pinned (OpenSpec.ofChange cpuOnesWrong)

/-- 'garrisonlaw20.CpuRuns': WHATEVER THE INPUT: true; the input reads as it did. -/
def cpuRunsSpec : ChangeSpec := { name := "cpuRuns", fn := fun _ => fun
  | [d1, d2, d3, d4] => { results := [.lit (.bool true)], args := [d1, d2, d3, d4] }
  | _ => none }
def cpuRunsRow : OpenClaim := { program := "ytapcbfeifeobhaa", sum := "9e23936a10196a7ae86ced6cd318e81dfc07ff5d79924bbcb5ccb501eda5a4e1", func := "garrison/garrisonlaw20.CpuRuns", spec := "cpuRuns", plainKeys := false, apart := false }
def CpuRunsSaid : Prop := cpuRunsRow.holds Try.pinned (OpenSpec.ofChange cpuRunsSpec)

/-- ITS FALSE NEIGHBOUR: 'it returns false'. Refute it at one input. -/
def cpuRunsWrong : ChangeSpec := { name := "cpuRuns", fn := fun _ => fun
  | [d1, d2, d3, d4] => { results := [.lit (.bool false)], args := [d1, d2, d3, d4] }
  | _ => none }
def CpuRunsWrongFalsely : Prop := cpuRunsRow.holds Try.pinned (OpenSpec.ofChange cpuRunsWrong)

/-- 'garrisonlaw20.CpuSplits': WHATEVER THE INPUT: true; the input reads as it did. -/
def cpuSplitsSpec : ChangeSpec := { name := "cpuSplits", fn := fun _ => fun
  | [d1, d2, d3, d4] => { results := [.lit (.bool true)], args := [d1, d2, d3, d4] }
  | _ => none }
def cpuSplitsRow : OpenClaim := { program := "ytapcbfeifeobhaa", sum := "9e23936a10196a7ae86ced6cd318e81dfc07ff5d79924bbcb5ccb501eda5a4e1", func := "garrison/garrisonlaw20.CpuSplits", spec := "cpuSplits", plainKeys := false, apart := false }
def CpuSplitsSaid : Prop := cpuSplitsRow.holds Try.pinned (OpenSpec.ofChange cpuSplitsSpec)

/-- ITS FALSE NEIGHBOUR: 'it returns false'. Refute it at one input. -/
def cpuSplitsWrong : ChangeSpec := { name := "cpuSplits", fn := fun _ => fun
  | [d1, d2, d3, d4] => { results := [.lit (.bool false)], args := [d1, d2, d3, d4] }
  | _ => none }
def CpuSplitsWrongFalsely : Prop := cpuSplitsRow.holds Try.pinned (OpenSpec.ofChange cpuSplitsWrong)

/-- 'garrisonlaw20.CpuFaults': WHATEVER THE INPUT: true; the input reads as it did. -/
def cpuFaultsSpec : ChangeSpec := { name := "cpuFaults", fn := fun _ => fun
  | [d1, d2] => { results := [.lit (.bool true)], args := [d1, d2] }
  | _ => none }
def cpuFaultsRow : OpenClaim := { program := "ytapcbfeifeobhaa", sum := "9e23936a10196a7ae86ced6cd318e81dfc07ff5d79924bbcb5ccb501eda5a4e1", func := "garrison/garrisonlaw20.CpuFaults", spec := "cpuFaults", plainKeys := false, apart := false }
def CpuFaultsSaid : Prop := cpuFaultsRow.holds Try.pinned (OpenSpec.ofChange cpuFaultsSpec)

/-- ITS FALSE NEIGHBOUR: 'it returns false'. Refute it at one input. -/
def cpuFaultsWrong : ChangeSpec := { name := "cpuFaults", fn := fun _ => fun
  | [d1, d2] => { results := [.lit (.bool false)], args := [d1, d2] }
  | _ => none }
def CpuFaultsWrongFalsely : Prop := cpuFaultsRow.holds Try.pinned (OpenSpec.ofChange cpuFaultsWrong)

/-- 'garrisonlaw20.CpuBoots': WHATEVER THE INPUT: true; the input reads as it did. -/
def cpuBootsSpec : ChangeSpec := { name := "cpuBoots", fn := fun _ => fun
  | [d1, d2, d3, d4] => { results := [.lit (.bool true)], args := [d1, d2, d3, d4] }
  | _ => none }
def cpuBootsRow : OpenClaim := { program := "ytapcbfeifeobhaa", sum := "9e23936a10196a7ae86ced6cd318e81dfc07ff5d79924bbcb5ccb501eda5a4e1", func := "garrison/garrisonlaw20.CpuBoots", spec := "cpuBoots", plainKeys := false, apart := false }
def CpuBootsSaid : Prop := cpuBootsRow.holds Try.pinned (OpenSpec.ofChange cpuBootsSpec)

/-- ITS FALSE NEIGHBOUR: 'it returns false'. Refute it at one input. -/
def cpuBootsWrong : ChangeSpec := { name := "cpuBoots", fn := fun _ => fun
  | [d1, d2, d3, d4] => { results := [.lit (.bool false)], args := [d1, d2, d3, d4] }
  | _ => none }
def CpuBootsWrongFalsely : Prop := cpuBootsRow.holds Try.pinned (OpenSpec.ofChange cpuBootsWrong)

/- THE SECOND FORM. 'bulk': how many values and letters a reading holds, each counted each time it is reached (what is shared counts as often as it is met; a slice's spare places count too). A statement '..UptoSaid' is the law's where the arguments, and the package variables that the reading takes, are together of bulk at most 1048576: NARROWER than '..Said'. Prove '..Said' where nothing that the law and all that it calls make is longer than what came in: it says more and counts as full. Else prove '..UptoSaid'. A law counts once. -/
mutual
def uptoBulk {H : Type} : DataW H → Nat
  | .lit (.string bytes) => bytes.length + 1
  | .lit _ => 1
  | .nil => 1
  | .ptr d => uptoBulk d + 1
  | .slice elems spare => uptoBulkAll elems + uptoBulkAll spare + 1
  | .agg parts => uptoBulkAll parts + 1
  | .iface _ d => uptoBulk d + 1
  | .map entries => uptoBulkEntries entries + 1
  | .held _ => 1
def uptoBulkAll {H : Type} : List (DataW H) → Nat
  | [] => 0
  | d :: r => uptoBulk d + uptoBulkAll r
def uptoBulkEntries {H : Type} : List (Lit × DataW H) → Nat
  | [] => 0
  | x :: r => uptoBulkEntry x + uptoBulkEntries r
def uptoBulkEntry {H : Type} : Lit × DataW H → Nat
  | (.string bytes, d) => bytes.length + uptoBulk d + 1
  | (_, d) => uptoBulk d + 1
 end
def uptoSmall : (H : Type) → List (DataW H) → Bool := fun _ ds => decide (uptoBulkAll ds ≤ 1048576)
def OpenSpec.upto (s : _root_.Go.ChangeSpec) : _root_.Go.OpenSpec := { _root_.Go.OpenSpec.ofChange s with cond := some uptoSmall }

/-- 'garrisonlaw20.CpuOnes', WHERE WHAT IT READS IS OF BULK AT MOST 1048576: true; the input reads as it did. -/
def cpuOnesUptoRow : OpenClaim := { program := "ytapcbfeifeobhaa", sum := "9e23936a10196a7ae86ced6cd318e81dfc07ff5d79924bbcb5ccb501eda5a4e1", func := "garrison/garrisonlaw20.CpuOnes", spec := "cpuOnes", plainKeys := false, apart := false, narrowed := true }
def CpuOnesUptoSaid : Prop := cpuOnesUptoRow.holds Try.pinned (OpenSpec.upto cpuOnesSpec)

/-- 'garrisonlaw20.CpuRuns', WHERE WHAT IT READS IS OF BULK AT MOST 1048576: true; the input reads as it did. -/
def cpuRunsUptoRow : OpenClaim := { program := "ytapcbfeifeobhaa", sum := "9e23936a10196a7ae86ced6cd318e81dfc07ff5d79924bbcb5ccb501eda5a4e1", func := "garrison/garrisonlaw20.CpuRuns", spec := "cpuRuns", plainKeys := false, apart := false, narrowed := true }
def CpuRunsUptoSaid : Prop := cpuRunsUptoRow.holds Try.pinned (OpenSpec.upto cpuRunsSpec)

/-- 'garrisonlaw20.CpuSplits', WHERE WHAT IT READS IS OF BULK AT MOST 1048576: true; the input reads as it did. -/
def cpuSplitsUptoRow : OpenClaim := { program := "ytapcbfeifeobhaa", sum := "9e23936a10196a7ae86ced6cd318e81dfc07ff5d79924bbcb5ccb501eda5a4e1", func := "garrison/garrisonlaw20.CpuSplits", spec := "cpuSplits", plainKeys := false, apart := false, narrowed := true }
def CpuSplitsUptoSaid : Prop := cpuSplitsUptoRow.holds Try.pinned (OpenSpec.upto cpuSplitsSpec)

/-- 'garrisonlaw20.CpuFaults', WHERE WHAT IT READS IS OF BULK AT MOST 1048576: true; the input reads as it did. -/
def cpuFaultsUptoRow : OpenClaim := { program := "ytapcbfeifeobhaa", sum := "9e23936a10196a7ae86ced6cd318e81dfc07ff5d79924bbcb5ccb501eda5a4e1", func := "garrison/garrisonlaw20.CpuFaults", spec := "cpuFaults", plainKeys := false, apart := false, narrowed := true }
def CpuFaultsUptoSaid : Prop := cpuFaultsUptoRow.holds Try.pinned (OpenSpec.upto cpuFaultsSpec)

/-- 'garrisonlaw20.CpuBoots', WHERE WHAT IT READS IS OF BULK AT MOST 1048576: true; the input reads as it did. -/
def cpuBootsUptoRow : OpenClaim := { program := "ytapcbfeifeobhaa", sum := "9e23936a10196a7ae86ced6cd318e81dfc07ff5d79924bbcb5ccb501eda5a4e1", func := "garrison/garrisonlaw20.CpuBoots", spec := "cpuBoots", plainKeys := false, apart := false, narrowed := true }
def CpuBootsUptoSaid : Prop := cpuBootsUptoRow.holds Try.pinned (OpenSpec.upto cpuBootsSpec)

end Rows
end Go.Proofs.Ytapcbfeifeobhaa
