/-
  No cell of these rows narrows 'for every input' (looked for: loops, veiled, ifaces, maps, wideKeys, modest, calm, conditions, laid).
  DERIVED. THE GIVEN ROWS OF THIS SEAT. 12 by the template 'for every input the law returns true; each argument reads behind the call as it read before'; 0 by the template 'total and deterministic' (their statements: YtbdcbkmacpameaaTotals.lean).
  GIVEN WITH THE SEED: the statements are not yours to turn. If you find one false, say at which input.
  Laid BY PROGRAM, IN A SANDBOX (cutbox-rows.mjs): the forced cells as the released guide's own fill.sh prints them over the translation 17f1091155685e43… (all of the seat's roots in one cut). By AI agents, Wed Nov 11 2026. No macro, syntax, notation, axiom, sorry.
-/
import Derived.Test.YtbdcbkmacpameaaChecked
import GoSem.Claim
import GoSem.ClaimJoined
import GoSem.ClaimMapViews
import Derived.JoinedTies
import Derived.KernelRfl
namespace Go.Proofs.Ytbdcbkmacpameaa
/- THE CELL 'sum', in the pinned program and in every row, IS THE sha256 OF THE DUMP (.gsa) THAT YtbdcbkmacpameaaProg.lean LOADS. Nothing in Lean hashes anything: it is a label: what it is worth is what the hold of that sum in a sandbox is worth. -/
noncomputable def Try.pinned : Pinned := { name := "ytbdcbkmacpameaa", sum := "17f1091155685e439a581604edd0adad76f153ef750f728736bc28cd65f5abfc", checked := Try.checked }
namespace Rows
def none {H : Type} : Left H := { results := [], args := [] }

/-- 'garrisonlaw16.OpsNames': WHATEVER THE INPUT: true; the input reads as it did. -/
def opsNamesSpec : ChangeSpec := { name := "opsNames", fn := fun _ => fun
  | [d] => { results := [.lit (.bool true)], args := [d] }
  | _ => none }
def opsNamesRow : OpenClaim := { program := "ytbdcbkmacpameaa", sum := "17f1091155685e439a581604edd0adad76f153ef750f728736bc28cd65f5abfc", func := "garrison/garrisonlaw16.OpsNames", spec := "opsNames", apart := false }
def OpsNamesSaid : Prop := opsNamesRow.holds Try.pinned (OpenSpec.ofChange opsNamesSpec)

/-- ITS FALSE NEIGHBOUR: 'it returns false'. Refute it at one input. -/
def opsNamesWrong : ChangeSpec := { name := "opsNames", fn := fun _ => fun
  | [d] => { results := [.lit (.bool false)], args := [d] }
  | _ => none }
def OpsNamesWrongFalsely : Prop := opsNamesRow.holds Try.pinned (OpenSpec.ofChange opsNamesWrong)

/-- 'garrisonlaw16.OpsBytes': WHATEVER THE INPUT: true; the input reads as it did. -/
def opsBytesSpec : ChangeSpec := { name := "opsBytes", fn := fun _ => fun
  | [d1, d2, d3] => { results := [.lit (.bool true)], args := [d1, d2, d3] }
  | _ => none }
def opsBytesRow : OpenClaim := { program := "ytbdcbkmacpameaa", sum := "17f1091155685e439a581604edd0adad76f153ef750f728736bc28cd65f5abfc", func := "garrison/garrisonlaw16.OpsBytes", spec := "opsBytes", apart := false }
def OpsBytesSaid : Prop := opsBytesRow.holds Try.pinned (OpenSpec.ofChange opsBytesSpec)

/-- ITS FALSE NEIGHBOUR: 'it returns false'. Refute it at one input. -/
def opsBytesWrong : ChangeSpec := { name := "opsBytes", fn := fun _ => fun
  | [d1, d2, d3] => { results := [.lit (.bool false)], args := [d1, d2, d3] }
  | _ => none }
def OpsBytesWrongFalsely : Prop := opsBytesRow.holds Try.pinned (OpenSpec.ofChange opsBytesWrong)

/-- 'garrisonlaw16.OpsUnlike': WHATEVER THE INPUT: true; the input reads as it did. -/
def opsUnlikeSpec : ChangeSpec := { name := "opsUnlike", fn := fun _ => fun
  | [d1, d2, d3, d4] => { results := [.lit (.bool true)], args := [d1, d2, d3, d4] }
  | _ => none }
def opsUnlikeRow : OpenClaim := { program := "ytbdcbkmacpameaa", sum := "17f1091155685e439a581604edd0adad76f153ef750f728736bc28cd65f5abfc", func := "garrison/garrisonlaw16.OpsUnlike", spec := "opsUnlike", apart := false }
def OpsUnlikeSaid : Prop := opsUnlikeRow.holds Try.pinned (OpenSpec.ofChange opsUnlikeSpec)

/-- ITS FALSE NEIGHBOUR: 'it returns false'. Refute it at one input. -/
def opsUnlikeWrong : ChangeSpec := { name := "opsUnlike", fn := fun _ => fun
  | [d1, d2, d3, d4] => { results := [.lit (.bool false)], args := [d1, d2, d3, d4] }
  | _ => none }
def OpsUnlikeWrongFalsely : Prop := opsUnlikeRow.holds Try.pinned (OpenSpec.ofChange opsUnlikeWrong)

/-- 'garrisonlaw28.CallValues': WHATEVER THE INPUT: true; the input reads as it did. -/
def callValuesSpec : ChangeSpec := { name := "callValues", fn := fun _ => fun
  | [d1, d2, d3, d4] => { results := [.lit (.bool true)], args := [d1, d2, d3, d4] }
  | _ => none }
def callValuesRow : OpenClaim := { program := "ytbdcbkmacpameaa", sum := "17f1091155685e439a581604edd0adad76f153ef750f728736bc28cd65f5abfc", func := "garrison/garrisonlaw28.CallValues", spec := "callValues", apart := false }
def CallValuesSaid : Prop := callValuesRow.holds Try.pinned (OpenSpec.ofChange callValuesSpec)

/-- ITS FALSE NEIGHBOUR: 'it returns false'. Refute it at one input. -/
def callValuesWrong : ChangeSpec := { name := "callValues", fn := fun _ => fun
  | [d1, d2, d3, d4] => { results := [.lit (.bool false)], args := [d1, d2, d3, d4] }
  | _ => none }
def CallValuesWrongFalsely : Prop := callValuesRow.holds Try.pinned (OpenSpec.ofChange callValuesWrong)

/-- 'garrisonlaw06.NodeSpreads': WHATEVER THE INPUT: true; the input reads as it did. -/
def nodeSpreadsSpec : ChangeSpec := { name := "nodeSpreads", fn := fun _ => fun
  | [d] => { results := [.lit (.bool true)], args := [d] }
  | _ => none }
def nodeSpreadsRow : OpenClaim := { program := "ytbdcbkmacpameaa", sum := "17f1091155685e439a581604edd0adad76f153ef750f728736bc28cd65f5abfc", func := "garrison/garrisonlaw06.NodeSpreads", spec := "nodeSpreads", apart := false }
def NodeSpreadsSaid : Prop := nodeSpreadsRow.holds Try.pinned (OpenSpec.ofChange nodeSpreadsSpec)

/-- ITS FALSE NEIGHBOUR: 'it returns false'. Refute it at one input. -/
def nodeSpreadsWrong : ChangeSpec := { name := "nodeSpreads", fn := fun _ => fun
  | [d] => { results := [.lit (.bool false)], args := [d] }
  | _ => none }
def NodeSpreadsWrongFalsely : Prop := nodeSpreadsRow.holds Try.pinned (OpenSpec.ofChange nodeSpreadsWrong)

/-- 'garrisonlaw06.NodeAll': WHATEVER THE INPUT: true; the input reads as it did. -/
def nodeAllSpec : ChangeSpec := { name := "nodeAll", fn := fun _ => fun
  | [d] => { results := [.lit (.bool true)], args := [d] }
  | _ => none }
def nodeAllRow : OpenClaim := { program := "ytbdcbkmacpameaa", sum := "17f1091155685e439a581604edd0adad76f153ef750f728736bc28cd65f5abfc", func := "garrison/garrisonlaw06.NodeAll", spec := "nodeAll", apart := false }
def NodeAllSaid : Prop := nodeAllRow.holds Try.pinned (OpenSpec.ofChange nodeAllSpec)

/-- ITS FALSE NEIGHBOUR: 'it returns false'. Refute it at one input. -/
def nodeAllWrong : ChangeSpec := { name := "nodeAll", fn := fun _ => fun
  | [d] => { results := [.lit (.bool false)], args := [d] }
  | _ => none }
def NodeAllWrongFalsely : Prop := nodeAllRow.holds Try.pinned (OpenSpec.ofChange nodeAllWrong)

/-- 'garrisonlaw16.OpsPrograms': WHATEVER THE INPUT: true; the input reads as it did. -/
def opsProgramsSpec : ChangeSpec := { name := "opsPrograms", fn := fun _ => fun
  | [d1, d2, d3, d4] => { results := [.lit (.bool true)], args := [d1, d2, d3, d4] }
  | _ => none }
def opsProgramsRow : OpenClaim := { program := "ytbdcbkmacpameaa", sum := "17f1091155685e439a581604edd0adad76f153ef750f728736bc28cd65f5abfc", func := "garrison/garrisonlaw16.OpsPrograms", spec := "opsPrograms", apart := false }
def OpsProgramsSaid : Prop := opsProgramsRow.holds Try.pinned (OpenSpec.ofChange opsProgramsSpec)

/-- ITS FALSE NEIGHBOUR: 'it returns false'. Refute it at one input. -/
def opsProgramsWrong : ChangeSpec := { name := "opsPrograms", fn := fun _ => fun
  | [d1, d2, d3, d4] => { results := [.lit (.bool false)], args := [d1, d2, d3, d4] }
  | _ => none }
def OpsProgramsWrongFalsely : Prop := opsProgramsRow.holds Try.pinned (OpenSpec.ofChange opsProgramsWrong)

/-- 'garrisonlaw22.TtyLines': WHATEVER THE INPUT: true; the input reads as it did. -/
def ttyLinesSpec : ChangeSpec := { name := "ttyLines", fn := fun _ => fun
  | [d] => { results := [.lit (.bool true)], args := [d] }
  | _ => none }
def ttyLinesRow : OpenClaim := { program := "ytbdcbkmacpameaa", sum := "17f1091155685e439a581604edd0adad76f153ef750f728736bc28cd65f5abfc", func := "garrison/garrisonlaw22.TtyLines", spec := "ttyLines", apart := false }
def TtyLinesSaid : Prop := ttyLinesRow.holds Try.pinned (OpenSpec.ofChange ttyLinesSpec)

/-- ITS FALSE NEIGHBOUR: 'it returns false'. Refute it at one input. -/
def ttyLinesWrong : ChangeSpec := { name := "ttyLines", fn := fun _ => fun
  | [d] => { results := [.lit (.bool false)], args := [d] }
  | _ => none }
def TtyLinesWrongFalsely : Prop := ttyLinesRow.holds Try.pinned (OpenSpec.ofChange ttyLinesWrong)

/-- 'garrisonlaw22.TtyApart': WHATEVER THE INPUT: true; the input reads as it did. -/
def ttyApartSpec : ChangeSpec := { name := "ttyApart", fn := fun _ => fun
  | [d1, d2, d3] => { results := [.lit (.bool true)], args := [d1, d2, d3] }
  | _ => none }
def ttyApartRow : OpenClaim := { program := "ytbdcbkmacpameaa", sum := "17f1091155685e439a581604edd0adad76f153ef750f728736bc28cd65f5abfc", func := "garrison/garrisonlaw22.TtyApart", spec := "ttyApart", apart := false }
def TtyApartSaid : Prop := ttyApartRow.holds Try.pinned (OpenSpec.ofChange ttyApartSpec)

/-- ITS FALSE NEIGHBOUR: 'it returns false'. Refute it at one input. -/
def ttyApartWrong : ChangeSpec := { name := "ttyApart", fn := fun _ => fun
  | [d1, d2, d3] => { results := [.lit (.bool false)], args := [d1, d2, d3] }
  | _ => none }
def TtyApartWrongFalsely : Prop := ttyApartRow.holds Try.pinned (OpenSpec.ofChange ttyApartWrong)

/-- 'garrisonlaw22.TtyPlays': WHATEVER THE INPUT: true; the input reads as it did. -/
def ttyPlaysSpec : ChangeSpec := { name := "ttyPlays", fn := fun _ => fun
  | [d] => { results := [.lit (.bool true)], args := [d] }
  | _ => none }
def ttyPlaysRow : OpenClaim := { program := "ytbdcbkmacpameaa", sum := "17f1091155685e439a581604edd0adad76f153ef750f728736bc28cd65f5abfc", func := "garrison/garrisonlaw22.TtyPlays", spec := "ttyPlays", apart := false }
def TtyPlaysSaid : Prop := ttyPlaysRow.holds Try.pinned (OpenSpec.ofChange ttyPlaysSpec)

/-- ITS FALSE NEIGHBOUR: 'it returns false'. Refute it at one input. -/
def ttyPlaysWrong : ChangeSpec := { name := "ttyPlays", fn := fun _ => fun
  | [d] => { results := [.lit (.bool false)], args := [d] }
  | _ => none }
def TtyPlaysWrongFalsely : Prop := ttyPlaysRow.holds Try.pinned (OpenSpec.ofChange ttyPlaysWrong)

/-- 'garrisonlaw22.TtyNone': WHATEVER THE INPUT: true; the input reads as it did. -/
def ttyNoneSpec : ChangeSpec := { name := "ttyNone", fn := fun _ => fun
  | [d1, d2, d3] => { results := [.lit (.bool true)], args := [d1, d2, d3] }
  | _ => none }
def ttyNoneRow : OpenClaim := { program := "ytbdcbkmacpameaa", sum := "17f1091155685e439a581604edd0adad76f153ef750f728736bc28cd65f5abfc", func := "garrison/garrisonlaw22.TtyNone", spec := "ttyNone", apart := false }
def TtyNoneSaid : Prop := ttyNoneRow.holds Try.pinned (OpenSpec.ofChange ttyNoneSpec)

/-- ITS FALSE NEIGHBOUR: 'it returns false'. Refute it at one input. -/
def ttyNoneWrong : ChangeSpec := { name := "ttyNone", fn := fun _ => fun
  | [d1, d2, d3] => { results := [.lit (.bool false)], args := [d1, d2, d3] }
  | _ => none }
def TtyNoneWrongFalsely : Prop := ttyNoneRow.holds Try.pinned (OpenSpec.ofChange ttyNoneWrong)

/-- 'garrisonlaw16.OpsForms': WHATEVER THE INPUT: true; the input reads as it did. -/
def opsFormsSpec : ChangeSpec := { name := "opsForms", fn := fun _ => fun
  | [d] => { results := [.lit (.bool true)], args := [d] }
  | _ => none }
def opsFormsRow : OpenClaim := { program := "ytbdcbkmacpameaa", sum := "17f1091155685e439a581604edd0adad76f153ef750f728736bc28cd65f5abfc", func := "garrison/garrisonlaw16.OpsForms", spec := "opsForms", apart := false }
def OpsFormsSaid : Prop := opsFormsRow.holds Try.pinned (OpenSpec.ofChange opsFormsSpec)

/-- ITS FALSE NEIGHBOUR: 'it returns false'. Refute it at one input. -/
def opsFormsWrong : ChangeSpec := { name := "opsForms", fn := fun _ => fun
  | [d] => { results := [.lit (.bool false)], args := [d] }
  | _ => none }
def OpsFormsWrongFalsely : Prop := opsFormsRow.holds Try.pinned (OpenSpec.ofChange opsFormsWrong)

/- THE SECOND FORM. 'bulk': how many values and letters a reading holds, each counted each time it is reached (what is shared counts as often as it is met; a slice's spare places count too). A statement '..UptoSaid' is the law's where the arguments, and the package variables that the reading takes, are together of bulk at most 1048576: NARROWER than '..Said'. Prove '..Said' where nothing that the law and all that it calls make is longer than what came in: it says more and counts as full. Else prove '..UptoSaid'. A law counts once. -/
mutual
def uptoBulk {H : Type} : DataW H → Nat
  | .lit (.string bytes) => bytes.length + 1
  | .lit _ => 1
  | .nil => 1
  | .ptr d => uptoBulk d + 1
  | .slice elems spare => uptoBulkAll elems + uptoBulkAll spare + 1
  | .agg parts => uptoBulkAll parts + 1
  | .iface _ d => uptoBulk d + 1
  | .map entries => uptoBulkEntries entries + 1
  | .held _ => 1
def uptoBulkAll {H : Type} : List (DataW H) → Nat
  | [] => 0
  | d :: r => uptoBulk d + uptoBulkAll r
def uptoBulkEntries {H : Type} : List (Lit × DataW H) → Nat
  | [] => 0
  | x :: r => uptoBulkEntry x + uptoBulkEntries r
def uptoBulkEntry {H : Type} : Lit × DataW H → Nat
  | (.string bytes, d) => bytes.length + uptoBulk d + 1
  | (_, d) => uptoBulk d + 1
 end
def uptoSmall : (H : Type) → List (DataW H) → Bool := fun _ ds => decide (uptoBulkAll ds ≤ 1048576)
def OpenSpec.upto (s : _root_.Go.ChangeSpec) : _root_.Go.OpenSpec := { _root_.Go.OpenSpec.ofChange s with cond := some uptoSmall }

/-- 'garrisonlaw16.OpsNames', WHERE WHAT IT READS IS OF BULK AT MOST 1048576: true; the input reads as it did. -/
def opsNamesUptoRow : OpenClaim := { program := "ytbdcbkmacpameaa", sum := "17f1091155685e439a581604edd0adad76f153ef750f728736bc28cd65f5abfc", func := "garrison/garrisonlaw16.OpsNames", spec := "opsNames", apart := false, narrowed := true }
def OpsNamesUptoSaid : Prop := opsNamesUptoRow.holds Try.pinned (OpenSpec.upto opsNamesSpec)

/-- 'garrisonlaw16.OpsBytes', WHERE WHAT IT READS IS OF BULK AT MOST 1048576: true; the input reads as it did. -/
def opsBytesUptoRow : OpenClaim := { program := "ytbdcbkmacpameaa", sum := "17f1091155685e439a581604edd0adad76f153ef750f728736bc28cd65f5abfc", func := "garrison/garrisonlaw16.OpsBytes", spec := "opsBytes", apart := false, narrowed := true }
def OpsBytesUptoSaid : Prop := opsBytesUptoRow.holds Try.pinned (OpenSpec.upto opsBytesSpec)

/-- 'garrisonlaw16.OpsUnlike', WHERE WHAT IT READS IS OF BULK AT MOST 1048576: true; the input reads as it did. -/
def opsUnlikeUptoRow : OpenClaim := { program := "ytbdcbkmacpameaa", sum := "17f1091155685e439a581604edd0adad76f153ef750f728736bc28cd65f5abfc", func := "garrison/garrisonlaw16.OpsUnlike", spec := "opsUnlike", apart := false, narrowed := true }
def OpsUnlikeUptoSaid : Prop := opsUnlikeUptoRow.holds Try.pinned (OpenSpec.upto opsUnlikeSpec)

/-- 'garrisonlaw28.CallValues', WHERE WHAT IT READS IS OF BULK AT MOST 1048576: true; the input reads as it did. -/
def callValuesUptoRow : OpenClaim := { program := "ytbdcbkmacpameaa", sum := "17f1091155685e439a581604edd0adad76f153ef750f728736bc28cd65f5abfc", func := "garrison/garrisonlaw28.CallValues", spec := "callValues", apart := false, narrowed := true }
def CallValuesUptoSaid : Prop := callValuesUptoRow.holds Try.pinned (OpenSpec.upto callValuesSpec)

/-- 'garrisonlaw06.NodeSpreads', WHERE WHAT IT READS IS OF BULK AT MOST 1048576: true; the input reads as it did. -/
def nodeSpreadsUptoRow : OpenClaim := { program := "ytbdcbkmacpameaa", sum := "17f1091155685e439a581604edd0adad76f153ef750f728736bc28cd65f5abfc", func := "garrison/garrisonlaw06.NodeSpreads", spec := "nodeSpreads", apart := false, narrowed := true }
def NodeSpreadsUptoSaid : Prop := nodeSpreadsUptoRow.holds Try.pinned (OpenSpec.upto nodeSpreadsSpec)

/-- 'garrisonlaw06.NodeAll', WHERE WHAT IT READS IS OF BULK AT MOST 1048576: true; the input reads as it did. -/
def nodeAllUptoRow : OpenClaim := { program := "ytbdcbkmacpameaa", sum := "17f1091155685e439a581604edd0adad76f153ef750f728736bc28cd65f5abfc", func := "garrison/garrisonlaw06.NodeAll", spec := "nodeAll", apart := false, narrowed := true }
def NodeAllUptoSaid : Prop := nodeAllUptoRow.holds Try.pinned (OpenSpec.upto nodeAllSpec)

/-- 'garrisonlaw16.OpsPrograms', WHERE WHAT IT READS IS OF BULK AT MOST 1048576: true; the input reads as it did. -/
def opsProgramsUptoRow : OpenClaim := { program := "ytbdcbkmacpameaa", sum := "17f1091155685e439a581604edd0adad76f153ef750f728736bc28cd65f5abfc", func := "garrison/garrisonlaw16.OpsPrograms", spec := "opsPrograms", apart := false, narrowed := true }
def OpsProgramsUptoSaid : Prop := opsProgramsUptoRow.holds Try.pinned (OpenSpec.upto opsProgramsSpec)

/-- 'garrisonlaw22.TtyLines', WHERE WHAT IT READS IS OF BULK AT MOST 1048576: true; the input reads as it did. -/
def ttyLinesUptoRow : OpenClaim := { program := "ytbdcbkmacpameaa", sum := "17f1091155685e439a581604edd0adad76f153ef750f728736bc28cd65f5abfc", func := "garrison/garrisonlaw22.TtyLines", spec := "ttyLines", apart := false, narrowed := true }
def TtyLinesUptoSaid : Prop := ttyLinesUptoRow.holds Try.pinned (OpenSpec.upto ttyLinesSpec)

/-- 'garrisonlaw22.TtyApart', WHERE WHAT IT READS IS OF BULK AT MOST 1048576: true; the input reads as it did. -/
def ttyApartUptoRow : OpenClaim := { program := "ytbdcbkmacpameaa", sum := "17f1091155685e439a581604edd0adad76f153ef750f728736bc28cd65f5abfc", func := "garrison/garrisonlaw22.TtyApart", spec := "ttyApart", apart := false, narrowed := true }
def TtyApartUptoSaid : Prop := ttyApartUptoRow.holds Try.pinned (OpenSpec.upto ttyApartSpec)

/-- 'garrisonlaw22.TtyPlays', WHERE WHAT IT READS IS OF BULK AT MOST 1048576: true; the input reads as it did. -/
def ttyPlaysUptoRow : OpenClaim := { program := "ytbdcbkmacpameaa", sum := "17f1091155685e439a581604edd0adad76f153ef750f728736bc28cd65f5abfc", func := "garrison/garrisonlaw22.TtyPlays", spec := "ttyPlays", apart := false, narrowed := true }
def TtyPlaysUptoSaid : Prop := ttyPlaysUptoRow.holds Try.pinned (OpenSpec.upto ttyPlaysSpec)

/-- 'garrisonlaw22.TtyNone', WHERE WHAT IT READS IS OF BULK AT MOST 1048576: true; the input reads as it did. -/
def ttyNoneUptoRow : OpenClaim := { program := "ytbdcbkmacpameaa", sum := "17f1091155685e439a581604edd0adad76f153ef750f728736bc28cd65f5abfc", func := "garrison/garrisonlaw22.TtyNone", spec := "ttyNone", apart := false, narrowed := true }
def TtyNoneUptoSaid : Prop := ttyNoneUptoRow.holds Try.pinned (OpenSpec.upto ttyNoneSpec)

/-- 'garrisonlaw16.OpsForms', WHERE WHAT IT READS IS OF BULK AT MOST 1048576: true; the input reads as it did. -/
def opsFormsUptoRow : OpenClaim := { program := "ytbdcbkmacpameaa", sum := "17f1091155685e439a581604edd0adad76f153ef750f728736bc28cd65f5abfc", func := "garrison/garrisonlaw16.OpsForms", spec := "opsForms", apart := false, narrowed := true }
def OpsFormsUptoSaid : Prop := opsFormsUptoRow.holds Try.pinned (OpenSpec.upto opsFormsSpec)

end Rows
end Go.Proofs.Ytbdcbkmacpameaa
