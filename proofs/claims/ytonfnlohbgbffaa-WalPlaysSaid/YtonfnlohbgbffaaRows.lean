/-
  No cell of these rows narrows 'for every input' (looked for: loops, veiled, ifaces, maps, wideKeys, modest, calm, conditions, laid).
  DERIVED. THE GIVEN ROWS OF THIS SEAT. 12 by the template 'for every input the law returns true; each argument reads behind the call as it read before'; 0 by the template 'total and deterministic' (their statements: YtonfnlohbgbffaaTotals.lean).
  GIVEN WITH THE SEED: the statements are not yours to turn. If you find one false, say at which input.
  Laid BY PROGRAM, IN A SANDBOX (cutbox-rows.mjs): the forced cells as the released guide's own fill.sh prints them over the translation 4d6e088a7c2f7fd8… (all of the seat's roots in one cut). By AI agents, Wed Nov 11 2026. No macro, syntax, notation, axiom, sorry.
-/
import Derived.Test.YtonfnlohbgbffaaChecked
import GoSem.Claim
import GoSem.ClaimJoined
import GoSem.ClaimMapViews
import Derived.JoinedTies
import Derived.KernelRfl
namespace Go.Proofs.Ytonfnlohbgbffaa
/- THE CELL 'sum', in the pinned program and in every row, IS THE sha256 OF THE DUMP (.gsa) THAT YtonfnlohbgbffaaProg.lean LOADS. Nothing in Lean hashes anything: it is a label: what it is worth is what the hold of that sum in a sandbox is worth. -/
noncomputable def Try.pinned : Pinned := { name := "ytonfnlohbgbffaa", sum := "4d6e088a7c2f7fd871b1044bb7873201b54a7572024c8b0c1e163054c00f5b35", checked := Try.checked }
namespace Rows
def none {H : Type} : Left H := { results := [], args := [] }

/-- 'garrisonlaw06.NodeBytes': WHATEVER THE INPUT: true; the input reads as it did. -/
def nodeBytesSpec : ChangeSpec := { name := "nodeBytes", fn := fun _ => fun
  | [d1, d2, d3] => { results := [.lit (.bool true)], args := [d1, d2, d3] }
  | _ => none }
def nodeBytesRow : OpenClaim := { program := "ytonfnlohbgbffaa", sum := "4d6e088a7c2f7fd871b1044bb7873201b54a7572024c8b0c1e163054c00f5b35", func := "garrison/garrisonlaw06.NodeBytes", spec := "nodeBytes", plainKeys := false, apart := false }
def NodeBytesSaid : Prop := nodeBytesRow.holds Try.pinned (OpenSpec.ofChange nodeBytesSpec)

/-- ITS FALSE NEIGHBOUR: 'it returns false'. Refute it at one input. -/
def nodeBytesWrong : ChangeSpec := { name := "nodeBytes", fn := fun _ => fun
  | [d1, d2, d3] => { results := [.lit (.bool false)], args := [d1, d2, d3] }
  | _ => none }
def NodeBytesWrongFalsely : Prop := nodeBytesRow.holds Try.pinned (OpenSpec.ofChange nodeBytesWrong)

/-- 'garrisonlaw05.BitsPlaces': WHATEVER THE INPUT: true; the input reads as it did. -/
def bitsPlacesSpec : ChangeSpec := { name := "bitsPlaces", fn := fun _ => fun
  | [d1, d2] => { results := [.lit (.bool true)], args := [d1, d2] }
  | _ => none }
def bitsPlacesRow : OpenClaim := { program := "ytonfnlohbgbffaa", sum := "4d6e088a7c2f7fd871b1044bb7873201b54a7572024c8b0c1e163054c00f5b35", func := "garrison/garrisonlaw05.BitsPlaces", spec := "bitsPlaces", unfollowed := true, recurses := true, plainKeys := false, apart := false }
def BitsPlacesSaid : Prop := bitsPlacesRow.holds Try.pinned (OpenSpec.ofChange bitsPlacesSpec)

/-- ITS FALSE NEIGHBOUR: 'it returns false'. Refute it at one input. -/
def bitsPlacesWrong : ChangeSpec := { name := "bitsPlaces", fn := fun _ => fun
  | [d1, d2] => { results := [.lit (.bool false)], args := [d1, d2] }
  | _ => none }
def BitsPlacesWrongFalsely : Prop := bitsPlacesRow.holds Try.pinned (OpenSpec.ofChange bitsPlacesWrong)

/-- 'garrisonlaw05.BitsFill': WHATEVER THE INPUT: true; the input reads as it did. -/
def bitsFillSpec : ChangeSpec := { name := "bitsFill", fn := fun _ => fun
  | [d1, d2] => { results := [.lit (.bool true)], args := [d1, d2] }
  | _ => none }
def bitsFillRow : OpenClaim := { program := "ytonfnlohbgbffaa", sum := "4d6e088a7c2f7fd871b1044bb7873201b54a7572024c8b0c1e163054c00f5b35", func := "garrison/garrisonlaw05.BitsFill", spec := "bitsFill", unfollowed := true, recurses := true, plainKeys := false, apart := false }
def BitsFillSaid : Prop := bitsFillRow.holds Try.pinned (OpenSpec.ofChange bitsFillSpec)

/-- ITS FALSE NEIGHBOUR: 'it returns false'. Refute it at one input. -/
def bitsFillWrong : ChangeSpec := { name := "bitsFill", fn := fun _ => fun
  | [d1, d2] => { results := [.lit (.bool false)], args := [d1, d2] }
  | _ => none }
def BitsFillWrongFalsely : Prop := bitsFillRow.holds Try.pinned (OpenSpec.ofChange bitsFillWrong)

/-- 'garrisonlaw05.BitsPlays': WHATEVER THE INPUT: true; the input reads as it did. -/
def bitsPlaysSpec : ChangeSpec := { name := "bitsPlays", fn := fun _ => fun
  | [d1, d2, d3] => { results := [.lit (.bool true)], args := [d1, d2, d3] }
  | _ => none }
def bitsPlaysRow : OpenClaim := { program := "ytonfnlohbgbffaa", sum := "4d6e088a7c2f7fd871b1044bb7873201b54a7572024c8b0c1e163054c00f5b35", func := "garrison/garrisonlaw05.BitsPlays", spec := "bitsPlays", unfollowed := true, recurses := true, plainKeys := false, apart := false }
def BitsPlaysSaid : Prop := bitsPlaysRow.holds Try.pinned (OpenSpec.ofChange bitsPlaysSpec)

/-- ITS FALSE NEIGHBOUR: 'it returns false'. Refute it at one input. -/
def bitsPlaysWrong : ChangeSpec := { name := "bitsPlays", fn := fun _ => fun
  | [d1, d2, d3] => { results := [.lit (.bool false)], args := [d1, d2, d3] }
  | _ => none }
def BitsPlaysWrongFalsely : Prop := bitsPlaysRow.holds Try.pinned (OpenSpec.ofChange bitsPlaysWrong)

/-- 'garrisonlaw05.BitsNone': WHATEVER THE INPUT: true; the input reads as it did. -/
def bitsNoneSpec : ChangeSpec := { name := "bitsNone", fn := fun _ => fun
  | [d1, d2, d3, d4] => { results := [.lit (.bool true)], args := [d1, d2, d3, d4] }
  | _ => none }
def bitsNoneRow : OpenClaim := { program := "ytonfnlohbgbffaa", sum := "4d6e088a7c2f7fd871b1044bb7873201b54a7572024c8b0c1e163054c00f5b35", func := "garrison/garrisonlaw05.BitsNone", spec := "bitsNone", unfollowed := true, recurses := true, plainKeys := false, apart := false }
def BitsNoneSaid : Prop := bitsNoneRow.holds Try.pinned (OpenSpec.ofChange bitsNoneSpec)

/-- ITS FALSE NEIGHBOUR: 'it returns false'. Refute it at one input. -/
def bitsNoneWrong : ChangeSpec := { name := "bitsNone", fn := fun _ => fun
  | [d1, d2, d3, d4] => { results := [.lit (.bool false)], args := [d1, d2, d3, d4] }
  | _ => none }
def BitsNoneWrongFalsely : Prop := bitsNoneRow.holds Try.pinned (OpenSpec.ofChange bitsNoneWrong)

/-- 'garrisonlaw05.BitsSpare': WHATEVER THE INPUT: true; the input reads as it did. -/
def bitsSpareSpec : ChangeSpec := { name := "bitsSpare", fn := fun _ => fun
  | [d1, d2] => { results := [.lit (.bool true)], args := [d1, d2] }
  | _ => none }
def bitsSpareRow : OpenClaim := { program := "ytonfnlohbgbffaa", sum := "4d6e088a7c2f7fd871b1044bb7873201b54a7572024c8b0c1e163054c00f5b35", func := "garrison/garrisonlaw05.BitsSpare", spec := "bitsSpare", unfollowed := true, recurses := true, plainKeys := false, apart := false }
def BitsSpareSaid : Prop := bitsSpareRow.holds Try.pinned (OpenSpec.ofChange bitsSpareSpec)

/-- ITS FALSE NEIGHBOUR: 'it returns false'. Refute it at one input. -/
def bitsSpareWrong : ChangeSpec := { name := "bitsSpare", fn := fun _ => fun
  | [d1, d2] => { results := [.lit (.bool false)], args := [d1, d2] }
  | _ => none }
def BitsSpareWrongFalsely : Prop := bitsSpareRow.holds Try.pinned (OpenSpec.ofChange bitsSpareWrong)

/-- 'garrisonlaw06.NodeTables': WHATEVER THE INPUT: true; the input reads as it did. -/
def nodeTablesSpec : ChangeSpec := { name := "nodeTables", fn := fun _ => fun
  | [d1, d2, d3, d4] => { results := [.lit (.bool true)], args := [d1, d2, d3, d4] }
  | _ => none }
def nodeTablesRow : OpenClaim := { program := "ytonfnlohbgbffaa", sum := "4d6e088a7c2f7fd871b1044bb7873201b54a7572024c8b0c1e163054c00f5b35", func := "garrison/garrisonlaw06.NodeTables", spec := "nodeTables", plainKeys := false, apart := false }
def NodeTablesSaid : Prop := nodeTablesRow.holds Try.pinned (OpenSpec.ofChange nodeTablesSpec)

/-- ITS FALSE NEIGHBOUR: 'it returns false'. Refute it at one input. -/
def nodeTablesWrong : ChangeSpec := { name := "nodeTables", fn := fun _ => fun
  | [d1, d2, d3, d4] => { results := [.lit (.bool false)], args := [d1, d2, d3, d4] }
  | _ => none }
def NodeTablesWrongFalsely : Prop := nodeTablesRow.holds Try.pinned (OpenSpec.ofChange nodeTablesWrong)

/-- 'garrisonlaw04.WalFull': WHATEVER THE INPUT: true; the input reads as it did. -/
def walFullSpec : ChangeSpec := { name := "walFull", fn := fun _ => fun
  | [d] => { results := [.lit (.bool true)], args := [d] }
  | _ => none }
def walFullRow : OpenClaim := { program := "ytonfnlohbgbffaa", sum := "4d6e088a7c2f7fd871b1044bb7873201b54a7572024c8b0c1e163054c00f5b35", func := "garrison/garrisonlaw04.WalFull", spec := "walFull", recurses := true, plainKeys := false, apart := false }
def WalFullSaid : Prop := walFullRow.holds Try.pinned (OpenSpec.ofChange walFullSpec)

/-- ITS FALSE NEIGHBOUR: 'it returns false'. Refute it at one input. -/
def walFullWrong : ChangeSpec := { name := "walFull", fn := fun _ => fun
  | [d] => { results := [.lit (.bool false)], args := [d] }
  | _ => none }
def WalFullWrongFalsely : Prop := walFullRow.holds Try.pinned (OpenSpec.ofChange walFullWrong)

/-- 'garrisonlaw04.WalHeads': WHATEVER THE INPUT: true; the input reads as it did. -/
def walHeadsSpec : ChangeSpec := { name := "walHeads", fn := fun _ => fun
  | [d1, d2, d3, d4] => { results := [.lit (.bool true)], args := [d1, d2, d3, d4] }
  | _ => none }
def walHeadsRow : OpenClaim := { program := "ytonfnlohbgbffaa", sum := "4d6e088a7c2f7fd871b1044bb7873201b54a7572024c8b0c1e163054c00f5b35", func := "garrison/garrisonlaw04.WalHeads", spec := "walHeads", recurses := true, plainKeys := false, apart := false }
def WalHeadsSaid : Prop := walHeadsRow.holds Try.pinned (OpenSpec.ofChange walHeadsSpec)

/-- ITS FALSE NEIGHBOUR: 'it returns false'. Refute it at one input. -/
def walHeadsWrong : ChangeSpec := { name := "walHeads", fn := fun _ => fun
  | [d1, d2, d3, d4] => { results := [.lit (.bool false)], args := [d1, d2, d3, d4] }
  | _ => none }
def WalHeadsWrongFalsely : Prop := walHeadsRow.holds Try.pinned (OpenSpec.ofChange walHeadsWrong)

/-- 'garrisonlaw04.WalNone': WHATEVER THE INPUT: true; the input reads as it did. -/
def walNoneSpec : ChangeSpec := { name := "walNone", fn := fun _ => fun
  | [d1, d2, d3] => { results := [.lit (.bool true)], args := [d1, d2, d3] }
  | _ => none }
def walNoneRow : OpenClaim := { program := "ytonfnlohbgbffaa", sum := "4d6e088a7c2f7fd871b1044bb7873201b54a7572024c8b0c1e163054c00f5b35", func := "garrison/garrisonlaw04.WalNone", spec := "walNone", recurses := true, plainKeys := false, apart := false }
def WalNoneSaid : Prop := walNoneRow.holds Try.pinned (OpenSpec.ofChange walNoneSpec)

/-- ITS FALSE NEIGHBOUR: 'it returns false'. Refute it at one input. -/
def walNoneWrong : ChangeSpec := { name := "walNone", fn := fun _ => fun
  | [d1, d2, d3] => { results := [.lit (.bool false)], args := [d1, d2, d3] }
  | _ => none }
def WalNoneWrongFalsely : Prop := walNoneRow.holds Try.pinned (OpenSpec.ofChange walNoneWrong)

/-- 'garrisonlaw04.WalWhole': WHATEVER THE INPUT: true; the input reads as it did. -/
def walWholeSpec : ChangeSpec := { name := "walWhole", fn := fun _ => fun
  | [d1, d2, d3, d4, d5] => { results := [.lit (.bool true)], args := [d1, d2, d3, d4, d5] }
  | _ => none }
def walWholeRow : OpenClaim := { program := "ytonfnlohbgbffaa", sum := "4d6e088a7c2f7fd871b1044bb7873201b54a7572024c8b0c1e163054c00f5b35", func := "garrison/garrisonlaw04.WalWhole", spec := "walWhole", recurses := true, plainKeys := false, apart := false }
def WalWholeSaid : Prop := walWholeRow.holds Try.pinned (OpenSpec.ofChange walWholeSpec)

/-- ITS FALSE NEIGHBOUR: 'it returns false'. Refute it at one input. -/
def walWholeWrong : ChangeSpec := { name := "walWhole", fn := fun _ => fun
  | [d1, d2, d3, d4, d5] => { results := [.lit (.bool false)], args := [d1, d2, d3, d4, d5] }
  | _ => none }
def WalWholeWrongFalsely : Prop := walWholeRow.holds Try.pinned (OpenSpec.ofChange walWholeWrong)

/-- 'garrisonlaw04.WalPlays': WHATEVER THE INPUT: true; the input reads as it did. -/
def walPlaysSpec : ChangeSpec := { name := "walPlays", fn := fun _ => fun
  | [d] => { results := [.lit (.bool true)], args := [d] }
  | _ => none }
def walPlaysRow : OpenClaim := { program := "ytonfnlohbgbffaa", sum := "4d6e088a7c2f7fd871b1044bb7873201b54a7572024c8b0c1e163054c00f5b35", func := "garrison/garrisonlaw04.WalPlays", spec := "walPlays", recurses := true, plainKeys := false, apart := false }
def WalPlaysSaid : Prop := walPlaysRow.holds Try.pinned (OpenSpec.ofChange walPlaysSpec)

/-- ITS FALSE NEIGHBOUR: 'it returns false'. Refute it at one input. -/
def walPlaysWrong : ChangeSpec := { name := "walPlays", fn := fun _ => fun
  | [d] => { results := [.lit (.bool false)], args := [d] }
  | _ => none }
def WalPlaysWrongFalsely : Prop := walPlaysRow.holds Try.pinned (OpenSpec.ofChange walPlaysWrong)

/- THE SECOND FORM. 'bulk': how many values and letters a reading holds, each counted each time it is reached (what is shared counts as often as it is met; a slice's spare places count too). A statement '..UptoSaid' is the law's where the arguments, and the package variables that the reading takes, are together of bulk at most 1048576: NARROWER than '..Said'. Prove '..Said' where nothing that the law and all that it calls make is longer than what came in: it says more and counts as full. Else prove '..UptoSaid'. A law counts once. -/
mutual
def uptoBulk {H : Type} : DataW H → Nat
  | .lit (.string bytes) => bytes.length + 1
  | .lit _ => 1
  | .nil => 1
  | .ptr d => uptoBulk d + 1
  | .slice elems spare => uptoBulkAll elems + uptoBulkAll spare + 1
  | .agg parts => uptoBulkAll parts + 1
  | .iface _ d => uptoBulk d + 1
  | .map entries => uptoBulkEntries entries + 1
  | .held _ => 1
def uptoBulkAll {H : Type} : List (DataW H) → Nat
  | [] => 0
  | d :: r => uptoBulk d + uptoBulkAll r
def uptoBulkEntries {H : Type} : List (Lit × DataW H) → Nat
  | [] => 0
  | x :: r => uptoBulkEntry x + uptoBulkEntries r
def uptoBulkEntry {H : Type} : Lit × DataW H → Nat
  | (.string bytes, d) => bytes.length + uptoBulk d + 1
  | (_, d) => uptoBulk d + 1
 end
def uptoSmall : (H : Type) → List (DataW H) → Bool := fun _ ds => decide (uptoBulkAll ds ≤ 1048576)
def OpenSpec.upto (s : _root_.Go.ChangeSpec) : _root_.Go.OpenSpec := { _root_.Go.OpenSpec.ofChange s with cond := some uptoSmall }

/-- 'garrisonlaw06.NodeBytes', WHERE WHAT IT READS IS OF BULK AT MOST 1048576: true; the input reads as it did. -/
def nodeBytesUptoRow : OpenClaim := { program := "ytonfnlohbgbffaa", sum := "4d6e088a7c2f7fd871b1044bb7873201b54a7572024c8b0c1e163054c00f5b35", func := "garrison/garrisonlaw06.NodeBytes", spec := "nodeBytes", plainKeys := false, apart := false, narrowed := true }
def NodeBytesUptoSaid : Prop := nodeBytesUptoRow.holds Try.pinned (OpenSpec.upto nodeBytesSpec)

/-- 'garrisonlaw05.BitsPlaces', WHERE WHAT IT READS IS OF BULK AT MOST 1048576: true; the input reads as it did. -/
def bitsPlacesUptoRow : OpenClaim := { program := "ytonfnlohbgbffaa", sum := "4d6e088a7c2f7fd871b1044bb7873201b54a7572024c8b0c1e163054c00f5b35", func := "garrison/garrisonlaw05.BitsPlaces", spec := "bitsPlaces", unfollowed := true, recurses := true, plainKeys := false, apart := false, narrowed := true }
def BitsPlacesUptoSaid : Prop := bitsPlacesUptoRow.holds Try.pinned (OpenSpec.upto bitsPlacesSpec)

/-- 'garrisonlaw05.BitsFill', WHERE WHAT IT READS IS OF BULK AT MOST 1048576: true; the input reads as it did. -/
def bitsFillUptoRow : OpenClaim := { program := "ytonfnlohbgbffaa", sum := "4d6e088a7c2f7fd871b1044bb7873201b54a7572024c8b0c1e163054c00f5b35", func := "garrison/garrisonlaw05.BitsFill", spec := "bitsFill", unfollowed := true, recurses := true, plainKeys := false, apart := false, narrowed := true }
def BitsFillUptoSaid : Prop := bitsFillUptoRow.holds Try.pinned (OpenSpec.upto bitsFillSpec)

/-- 'garrisonlaw05.BitsPlays', WHERE WHAT IT READS IS OF BULK AT MOST 1048576: true; the input reads as it did. -/
def bitsPlaysUptoRow : OpenClaim := { program := "ytonfnlohbgbffaa", sum := "4d6e088a7c2f7fd871b1044bb7873201b54a7572024c8b0c1e163054c00f5b35", func := "garrison/garrisonlaw05.BitsPlays", spec := "bitsPlays", unfollowed := true, recurses := true, plainKeys := false, apart := false, narrowed := true }
def BitsPlaysUptoSaid : Prop := bitsPlaysUptoRow.holds Try.pinned (OpenSpec.upto bitsPlaysSpec)

/-- 'garrisonlaw05.BitsNone', WHERE WHAT IT READS IS OF BULK AT MOST 1048576: true; the input reads as it did. -/
def bitsNoneUptoRow : OpenClaim := { program := "ytonfnlohbgbffaa", sum := "4d6e088a7c2f7fd871b1044bb7873201b54a7572024c8b0c1e163054c00f5b35", func := "garrison/garrisonlaw05.BitsNone", spec := "bitsNone", unfollowed := true, recurses := true, plainKeys := false, apart := false, narrowed := true }
def BitsNoneUptoSaid : Prop := bitsNoneUptoRow.holds Try.pinned (OpenSpec.upto bitsNoneSpec)

/-- 'garrisonlaw05.BitsSpare', WHERE WHAT IT READS IS OF BULK AT MOST 1048576: true; the input reads as it did. -/
def bitsSpareUptoRow : OpenClaim := { program := "ytonfnlohbgbffaa", sum := "4d6e088a7c2f7fd871b1044bb7873201b54a7572024c8b0c1e163054c00f5b35", func := "garrison/garrisonlaw05.BitsSpare", spec := "bitsSpare", unfollowed := true, recurses := true, plainKeys := false, apart := false, narrowed := true }
def BitsSpareUptoSaid : Prop := bitsSpareUptoRow.holds Try.pinned (OpenSpec.upto bitsSpareSpec)

/-- 'garrisonlaw06.NodeTables', WHERE WHAT IT READS IS OF BULK AT MOST 1048576: true; the input reads as it did. -/
def nodeTablesUptoRow : OpenClaim := { program := "ytonfnlohbgbffaa", sum := "4d6e088a7c2f7fd871b1044bb7873201b54a7572024c8b0c1e163054c00f5b35", func := "garrison/garrisonlaw06.NodeTables", spec := "nodeTables", plainKeys := false, apart := false, narrowed := true }
def NodeTablesUptoSaid : Prop := nodeTablesUptoRow.holds Try.pinned (OpenSpec.upto nodeTablesSpec)

/-- 'garrisonlaw04.WalFull', WHERE WHAT IT READS IS OF BULK AT MOST 1048576: true; the input reads as it did. -/
def walFullUptoRow : OpenClaim := { program := "ytonfnlohbgbffaa", sum := "4d6e088a7c2f7fd871b1044bb7873201b54a7572024c8b0c1e163054c00f5b35", func := "garrison/garrisonlaw04.WalFull", spec := "walFull", recurses := true, plainKeys := false, apart := false, narrowed := true }
def WalFullUptoSaid : Prop := walFullUptoRow.holds Try.pinned (OpenSpec.upto walFullSpec)

/-- 'garrisonlaw04.WalHeads', WHERE WHAT IT READS IS OF BULK AT MOST 1048576: true; the input reads as it did. -/
def walHeadsUptoRow : OpenClaim := { program := "ytonfnlohbgbffaa", sum := "4d6e088a7c2f7fd871b1044bb7873201b54a7572024c8b0c1e163054c00f5b35", func := "garrison/garrisonlaw04.WalHeads", spec := "walHeads", recurses := true, plainKeys := false, apart := false, narrowed := true }
def WalHeadsUptoSaid : Prop := walHeadsUptoRow.holds Try.pinned (OpenSpec.upto walHeadsSpec)

/-- 'garrisonlaw04.WalNone', WHERE WHAT IT READS IS OF BULK AT MOST 1048576: true; the input reads as it did. -/
def walNoneUptoRow : OpenClaim := { program := "ytonfnlohbgbffaa", sum := "4d6e088a7c2f7fd871b1044bb7873201b54a7572024c8b0c1e163054c00f5b35", func := "garrison/garrisonlaw04.WalNone", spec := "walNone", recurses := true, plainKeys := false, apart := false, narrowed := true }
def WalNoneUptoSaid : Prop := walNoneUptoRow.holds Try.pinned (OpenSpec.upto walNoneSpec)

/-- 'garrisonlaw04.WalWhole', WHERE WHAT IT READS IS OF BULK AT MOST 1048576: true; the input reads as it did. -/
def walWholeUptoRow : OpenClaim := { program := "ytonfnlohbgbffaa", sum := "4d6e088a7c2f7fd871b1044bb7873201b54a7572024c8b0c1e163054c00f5b35", func := "garrison/garrisonlaw04.WalWhole", spec := "walWhole", recurses := true, plainKeys := false, apart := false, narrowed := true }
def WalWholeUptoSaid : Prop := walWholeUptoRow.holds Try.pinned (OpenSpec.upto walWholeSpec)

/-- 'garrisonlaw04.WalPlays', WHERE WHAT IT READS IS OF BULK AT MOST 1048576: true; the input reads as it did. -/
def walPlaysUptoRow : OpenClaim := { program := "ytonfnlohbgbffaa", sum := "4d6e088a7c2f7fd871b1044bb7873201b54a7572024c8b0c1e163054c00f5b35", func := "garrison/garrisonlaw04.WalPlays", spec := "walPlays", recurses := true, plainKeys := false, apart := false, narrowed := true }
def WalPlaysUptoSaid : Prop := walPlaysUptoRow.holds Try.pinned (OpenSpec.upto walPlaysSpec)

end Rows
end Go.Proofs.Ytonfnlohbgbffaa
