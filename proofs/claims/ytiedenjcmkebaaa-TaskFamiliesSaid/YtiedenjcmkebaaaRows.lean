/-
  No cell of these rows narrows 'for every input' (looked for: loops, veiled, ifaces, maps, wideKeys, modest, calm, conditions, laid).
  DERIVED. THE GIVEN ROWS OF THIS SEAT. 8 by the template 'for every input the law returns true; each argument reads behind the call as it read before'; 0 by the template 'total and deterministic' (their statements: YtiedenjcmkebaaaTotals.lean).
  GIVEN WITH THE SEED: the statements are not yours to turn. If you find one false, say at which input.
  Laid BY PROGRAM, IN A SANDBOX (cutbox-rows.mjs): the forced cells as the released guide's own fill.sh prints them over the translation 8e7d41ca9365cc5a… (all of the seat's roots in one cut). By AI agents, Wed Nov 11 2026. No macro, syntax, notation, axiom, sorry.
-/
import Derived.Test.YtiedenjcmkebaaaChecked
import GoSem.Claim
import GoSem.ClaimJoined
import GoSem.ClaimMapViews
import Derived.JoinedTies
import Derived.KernelRfl
namespace Go.Proofs.Ytiedenjcmkebaaa
/- THE CELL 'sum', in the pinned program and in every row, IS THE sha256 OF THE DUMP (.gsa) THAT YtiedenjcmkebaaaProg.lean LOADS. Nothing in Lean hashes anything: it is a label: what it is worth is what the hold of that sum in a sandbox is worth. -/
noncomputable def Try.pinned : Pinned := { name := "ytiedenjcmkebaaa", sum := "8e7d41ca9365cc5ad1fe60794332d71a12c18da1d85ad4cabc7e11d9283c9e57", checked := Try.checked }
namespace Rows
def none {H : Type} : Left H := { results := [], args := [] }

/-- 'garrisonlaw26.TurnBounds': WHATEVER THE INPUT: true; the input reads as it did. -/
def turnBoundsSpec : ChangeSpec := { name := "turnBounds", fn := fun _ => fun
  | [d1, d2, d3] => { results := [.lit (.bool true)], args := [d1, d2, d3] }
  | _ => none }
def turnBoundsRow : OpenClaim := { program := "ytiedenjcmkebaaa", sum := "8e7d41ca9365cc5ad1fe60794332d71a12c18da1d85ad4cabc7e11d9283c9e57", func := "garrison/garrisonlaw26.TurnBounds", spec := "turnBounds", plainKeys := false, apart := false }
def TurnBoundsSaid : Prop := turnBoundsRow.holds Try.pinned (OpenSpec.ofChange turnBoundsSpec)

/-- ITS FALSE NEIGHBOUR: 'it returns false'. Refute it at one input. -/
def turnBoundsWrong : ChangeSpec := { name := "turnBounds", fn := fun _ => fun
  | [d1, d2, d3] => { results := [.lit (.bool false)], args := [d1, d2, d3] }
  | _ => none }
def TurnBoundsWrongFalsely : Prop := turnBoundsRow.holds Try.pinned (OpenSpec.ofChange turnBoundsWrong)

/-- 'garrisonlaw19.SpaceFaults': WHATEVER THE INPUT: true; the input reads as it did. -/
def spaceFaultsSpec : ChangeSpec := { name := "spaceFaults", fn := fun _ => fun
  | [d1, d2, d3, d4, d5] => { results := [.lit (.bool true)], args := [d1, d2, d3, d4, d5] }
  | _ => none }
def spaceFaultsRow : OpenClaim := { program := "ytiedenjcmkebaaa", sum := "8e7d41ca9365cc5ad1fe60794332d71a12c18da1d85ad4cabc7e11d9283c9e57", func := "garrison/garrisonlaw19.SpaceFaults", spec := "spaceFaults", plainKeys := false, apart := false }
def SpaceFaultsSaid : Prop := spaceFaultsRow.holds Try.pinned (OpenSpec.ofChange spaceFaultsSpec)

/-- ITS FALSE NEIGHBOUR: 'it returns false'. Refute it at one input. -/
def spaceFaultsWrong : ChangeSpec := { name := "spaceFaults", fn := fun _ => fun
  | [d1, d2, d3, d4, d5] => { results := [.lit (.bool false)], args := [d1, d2, d3, d4, d5] }
  | _ => none }
def SpaceFaultsWrongFalsely : Prop := spaceFaultsRow.holds Try.pinned (OpenSpec.ofChange spaceFaultsWrong)

/-- 'garrisonlaw25.TaskFamilies': WHATEVER THE INPUT: true; the input reads as it did. -/
def taskFamiliesSpec : ChangeSpec := { name := "taskFamilies", fn := fun _ => fun
  | [d1, d2] => { results := [.lit (.bool true)], args := [d1, d2] }
  | _ => none }
def taskFamiliesRow : OpenClaim := { program := "ytiedenjcmkebaaa", sum := "8e7d41ca9365cc5ad1fe60794332d71a12c18da1d85ad4cabc7e11d9283c9e57", func := "garrison/garrisonlaw25.TaskFamilies", spec := "taskFamilies", plainKeys := false, apart := false }
def TaskFamiliesSaid : Prop := taskFamiliesRow.holds Try.pinned (OpenSpec.ofChange taskFamiliesSpec)

/-- ITS FALSE NEIGHBOUR: 'it returns false'. Refute it at one input. -/
def taskFamiliesWrong : ChangeSpec := { name := "taskFamilies", fn := fun _ => fun
  | [d1, d2] => { results := [.lit (.bool false)], args := [d1, d2] }
  | _ => none }
def TaskFamiliesWrongFalsely : Prop := taskFamiliesRow.holds Try.pinned (OpenSpec.ofChange taskFamiliesWrong)

/-- 'garrisonlaw19.SpaceCopies': WHATEVER THE INPUT: true; the input reads as it did. -/
def spaceCopiesSpec : ChangeSpec := { name := "spaceCopies", fn := fun _ => fun
  | [d1, d2, d3, d4, d5] => { results := [.lit (.bool true)], args := [d1, d2, d3, d4, d5] }
  | _ => none }
def spaceCopiesRow : OpenClaim := { program := "ytiedenjcmkebaaa", sum := "8e7d41ca9365cc5ad1fe60794332d71a12c18da1d85ad4cabc7e11d9283c9e57", func := "garrison/garrisonlaw19.SpaceCopies", spec := "spaceCopies", plainKeys := false, apart := false }
def SpaceCopiesSaid : Prop := spaceCopiesRow.holds Try.pinned (OpenSpec.ofChange spaceCopiesSpec)

/-- ITS FALSE NEIGHBOUR: 'it returns false'. Refute it at one input. -/
def spaceCopiesWrong : ChangeSpec := { name := "spaceCopies", fn := fun _ => fun
  | [d1, d2, d3, d4, d5] => { results := [.lit (.bool false)], args := [d1, d2, d3, d4, d5] }
  | _ => none }
def SpaceCopiesWrongFalsely : Prop := spaceCopiesRow.holds Try.pinned (OpenSpec.ofChange spaceCopiesWrong)

/-- 'garrisonlaw26.TurnFair': WHATEVER THE INPUT: true; the input reads as it did. -/
def turnFairSpec : ChangeSpec := { name := "turnFair", fn := fun _ => fun
  | [d1, d2, d3] => { results := [.lit (.bool true)], args := [d1, d2, d3] }
  | _ => none }
def turnFairRow : OpenClaim := { program := "ytiedenjcmkebaaa", sum := "8e7d41ca9365cc5ad1fe60794332d71a12c18da1d85ad4cabc7e11d9283c9e57", func := "garrison/garrisonlaw26.TurnFair", spec := "turnFair", plainKeys := false, apart := false }
def TurnFairSaid : Prop := turnFairRow.holds Try.pinned (OpenSpec.ofChange turnFairSpec)

/-- ITS FALSE NEIGHBOUR: 'it returns false'. Refute it at one input. -/
def turnFairWrong : ChangeSpec := { name := "turnFair", fn := fun _ => fun
  | [d1, d2, d3] => { results := [.lit (.bool false)], args := [d1, d2, d3] }
  | _ => none }
def TurnFairWrongFalsely : Prop := turnFairRow.holds Try.pinned (OpenSpec.ofChange turnFairWrong)

/-- 'garrisonlaw25.TaskMemory': WHATEVER THE INPUT: true; the input reads as it did. -/
def taskMemorySpec : ChangeSpec := { name := "taskMemory", fn := fun _ => fun
  | [d1, d2, d3, d4, d5] => { results := [.lit (.bool true)], args := [d1, d2, d3, d4, d5] }
  | _ => none }
def taskMemoryRow : OpenClaim := { program := "ytiedenjcmkebaaa", sum := "8e7d41ca9365cc5ad1fe60794332d71a12c18da1d85ad4cabc7e11d9283c9e57", func := "garrison/garrisonlaw25.TaskMemory", spec := "taskMemory", plainKeys := false, apart := false }
def TaskMemorySaid : Prop := taskMemoryRow.holds Try.pinned (OpenSpec.ofChange taskMemorySpec)

/-- ITS FALSE NEIGHBOUR: 'it returns false'. Refute it at one input. -/
def taskMemoryWrong : ChangeSpec := { name := "taskMemory", fn := fun _ => fun
  | [d1, d2, d3, d4, d5] => { results := [.lit (.bool false)], args := [d1, d2, d3, d4, d5] }
  | _ => none }
def TaskMemoryWrongFalsely : Prop := taskMemoryRow.holds Try.pinned (OpenSpec.ofChange taskMemoryWrong)

/-- 'garrisonlaw28.CallNone': WHATEVER THE INPUT: true; the input reads as it did. -/
def callNoneSpec : ChangeSpec := { name := "callNone", fn := fun _ => fun
  | [d1, d2] => { results := [.lit (.bool true)], args := [d1, d2] }
  | _ => none }
def callNoneRow : OpenClaim := { program := "ytiedenjcmkebaaa", sum := "8e7d41ca9365cc5ad1fe60794332d71a12c18da1d85ad4cabc7e11d9283c9e57", func := "garrison/garrisonlaw28.CallNone", spec := "callNone", unfollowed := true, recurses := true, plainKeys := false, apart := false }
def CallNoneSaid : Prop := callNoneRow.holds Try.pinned (OpenSpec.ofChange callNoneSpec)

/-- ITS FALSE NEIGHBOUR: 'it returns false'. Refute it at one input. -/
def callNoneWrong : ChangeSpec := { name := "callNone", fn := fun _ => fun
  | [d1, d2] => { results := [.lit (.bool false)], args := [d1, d2] }
  | _ => none }
def CallNoneWrongFalsely : Prop := callNoneRow.holds Try.pinned (OpenSpec.ofChange callNoneWrong)

/-- 'garrisonlaw26.TurnPlays': WHATEVER THE INPUT: true; the input reads as it did. -/
def turnPlaysSpec : ChangeSpec := { name := "turnPlays", fn := fun _ => fun
  | [d1, d2] => { results := [.lit (.bool true)], args := [d1, d2] }
  | _ => none }
def turnPlaysRow : OpenClaim := { program := "ytiedenjcmkebaaa", sum := "8e7d41ca9365cc5ad1fe60794332d71a12c18da1d85ad4cabc7e11d9283c9e57", func := "garrison/garrisonlaw26.TurnPlays", spec := "turnPlays", plainKeys := false, apart := false }
def TurnPlaysSaid : Prop := turnPlaysRow.holds Try.pinned (OpenSpec.ofChange turnPlaysSpec)

/-- ITS FALSE NEIGHBOUR: 'it returns false'. Refute it at one input. -/
def turnPlaysWrong : ChangeSpec := { name := "turnPlays", fn := fun _ => fun
  | [d1, d2] => { results := [.lit (.bool false)], args := [d1, d2] }
  | _ => none }
def TurnPlaysWrongFalsely : Prop := turnPlaysRow.holds Try.pinned (OpenSpec.ofChange turnPlaysWrong)

/- THE SECOND FORM. 'bulk': how many values and letters a reading holds, each counted each time it is reached (what is shared counts as often as it is met; a slice's spare places count too). A statement '..UptoSaid' is the law's where the arguments, and the package variables that the reading takes, are together of bulk at most 1048576: NARROWER than '..Said'. Prove '..Said' where nothing that the law and all that it calls make is longer than what came in: it says more and counts as full. Else prove '..UptoSaid'. A law counts once. -/
mutual
def uptoBulk {H : Type} : DataW H → Nat
  | .lit (.string bytes) => bytes.length + 1
  | .lit _ => 1
  | .nil => 1
  | .ptr d => uptoBulk d + 1
  | .slice elems spare => uptoBulkAll elems + uptoBulkAll spare + 1
  | .agg parts => uptoBulkAll parts + 1
  | .iface _ d => uptoBulk d + 1
  | .map entries => uptoBulkEntries entries + 1
  | .held _ => 1
def uptoBulkAll {H : Type} : List (DataW H) → Nat
  | [] => 0
  | d :: r => uptoBulk d + uptoBulkAll r
def uptoBulkEntries {H : Type} : List (Lit × DataW H) → Nat
  | [] => 0
  | x :: r => uptoBulkEntry x + uptoBulkEntries r
def uptoBulkEntry {H : Type} : Lit × DataW H → Nat
  | (.string bytes, d) => bytes.length + uptoBulk d + 1
  | (_, d) => uptoBulk d + 1
 end
def uptoSmall : (H : Type) → List (DataW H) → Bool := fun _ ds => decide (uptoBulkAll ds ≤ 1048576)
def OpenSpec.upto (s : _root_.Go.ChangeSpec) : _root_.Go.OpenSpec := { _root_.Go.OpenSpec.ofChange s with cond := some uptoSmall }

/-- 'garrisonlaw26.TurnBounds', WHERE WHAT IT READS IS OF BULK AT MOST 1048576: true; the input reads as it did. -/
def turnBoundsUptoRow : OpenClaim := { program := "ytiedenjcmkebaaa", sum := "8e7d41ca9365cc5ad1fe60794332d71a12c18da1d85ad4cabc7e11d9283c9e57", func := "garrison/garrisonlaw26.TurnBounds", spec := "turnBounds", plainKeys := false, apart := false, narrowed := true }
def TurnBoundsUptoSaid : Prop := turnBoundsUptoRow.holds Try.pinned (OpenSpec.upto turnBoundsSpec)

/-- 'garrisonlaw19.SpaceFaults', WHERE WHAT IT READS IS OF BULK AT MOST 1048576: true; the input reads as it did. -/
def spaceFaultsUptoRow : OpenClaim := { program := "ytiedenjcmkebaaa", sum := "8e7d41ca9365cc5ad1fe60794332d71a12c18da1d85ad4cabc7e11d9283c9e57", func := "garrison/garrisonlaw19.SpaceFaults", spec := "spaceFaults", plainKeys := false, apart := false, narrowed := true }
def SpaceFaultsUptoSaid : Prop := spaceFaultsUptoRow.holds Try.pinned (OpenSpec.upto spaceFaultsSpec)

/-- 'garrisonlaw25.TaskFamilies', WHERE WHAT IT READS IS OF BULK AT MOST 1048576: true; the input reads as it did. -/
def taskFamiliesUptoRow : OpenClaim := { program := "ytiedenjcmkebaaa", sum := "8e7d41ca9365cc5ad1fe60794332d71a12c18da1d85ad4cabc7e11d9283c9e57", func := "garrison/garrisonlaw25.TaskFamilies", spec := "taskFamilies", plainKeys := false, apart := false, narrowed := true }
def TaskFamiliesUptoSaid : Prop := taskFamiliesUptoRow.holds Try.pinned (OpenSpec.upto taskFamiliesSpec)

/-- 'garrisonlaw19.SpaceCopies', WHERE WHAT IT READS IS OF BULK AT MOST 1048576: true; the input reads as it did. -/
def spaceCopiesUptoRow : OpenClaim := { program := "ytiedenjcmkebaaa", sum := "8e7d41ca9365cc5ad1fe60794332d71a12c18da1d85ad4cabc7e11d9283c9e57", func := "garrison/garrisonlaw19.SpaceCopies", spec := "spaceCopies", plainKeys := false, apart := false, narrowed := true }
def SpaceCopiesUptoSaid : Prop := spaceCopiesUptoRow.holds Try.pinned (OpenSpec.upto spaceCopiesSpec)

/-- 'garrisonlaw26.TurnFair', WHERE WHAT IT READS IS OF BULK AT MOST 1048576: true; the input reads as it did. -/
def turnFairUptoRow : OpenClaim := { program := "ytiedenjcmkebaaa", sum := "8e7d41ca9365cc5ad1fe60794332d71a12c18da1d85ad4cabc7e11d9283c9e57", func := "garrison/garrisonlaw26.TurnFair", spec := "turnFair", plainKeys := false, apart := false, narrowed := true }
def TurnFairUptoSaid : Prop := turnFairUptoRow.holds Try.pinned (OpenSpec.upto turnFairSpec)

/-- 'garrisonlaw25.TaskMemory', WHERE WHAT IT READS IS OF BULK AT MOST 1048576: true; the input reads as it did. -/
def taskMemoryUptoRow : OpenClaim := { program := "ytiedenjcmkebaaa", sum := "8e7d41ca9365cc5ad1fe60794332d71a12c18da1d85ad4cabc7e11d9283c9e57", func := "garrison/garrisonlaw25.TaskMemory", spec := "taskMemory", plainKeys := false, apart := false, narrowed := true }
def TaskMemoryUptoSaid : Prop := taskMemoryUptoRow.holds Try.pinned (OpenSpec.upto taskMemorySpec)

/-- 'garrisonlaw28.CallNone', WHERE WHAT IT READS IS OF BULK AT MOST 1048576: true; the input reads as it did. -/
def callNoneUptoRow : OpenClaim := { program := "ytiedenjcmkebaaa", sum := "8e7d41ca9365cc5ad1fe60794332d71a12c18da1d85ad4cabc7e11d9283c9e57", func := "garrison/garrisonlaw28.CallNone", spec := "callNone", unfollowed := true, recurses := true, plainKeys := false, apart := false, narrowed := true }
def CallNoneUptoSaid : Prop := callNoneUptoRow.holds Try.pinned (OpenSpec.upto callNoneSpec)

/-- 'garrisonlaw26.TurnPlays', WHERE WHAT IT READS IS OF BULK AT MOST 1048576: true; the input reads as it did. -/
def turnPlaysUptoRow : OpenClaim := { program := "ytiedenjcmkebaaa", sum := "8e7d41ca9365cc5ad1fe60794332d71a12c18da1d85ad4cabc7e11d9283c9e57", func := "garrison/garrisonlaw26.TurnPlays", spec := "turnPlays", plainKeys := false, apart := false, narrowed := true }
def TurnPlaysUptoSaid : Prop := turnPlaysUptoRow.holds Try.pinned (OpenSpec.upto turnPlaysSpec)

end Rows
end Go.Proofs.Ytiedenjcmkebaaa
