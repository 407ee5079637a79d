/-
  DERIVED. GIVEN WITH THE SEED: THE CARDS: each row of YtmieioaklgdbdaaDoorRows.lean that lists a variable, with what it lists TIED to the program's text (the seventh form; the later family's looks); each row that meets fmt, with fmt's text TOLD by the authors' own Lean function (tested against real Go, not proved from fmt's source: count such statements apart). THE CARD IS WHAT COUNTS. Prove the row's statement (the work); the ties are given (YtmieioaklgdbdaaDoorTie.lean); close each card by the builder's one call (the guide's Derived/Test/ToyasCard.lean, 'card_holds'). Laid BY PROGRAM, IN A SANDBOX (cutbox-door.mjs). By AI agents, Wed Nov 11 2026. No macro, syntax, notation, axiom, sorry.
-/
import Derived.Test.YtmieioaklgdbdaaDoorRows
import GoSem.ClaimSeven
namespace Go.Proofs.YtmieioaklgdbdaaDoor
namespace Rows

/-- THE TIED CARD OF 'garrisonlaw01.LabelTexts'. -/
def labelTextsCard : Claim7 := { stood := { row := labelTextsRow, standIns := [], harness := (true, "ce5183c19cd67f551d2b5de4a2d1af082c429157cf537e25efc209d79adcd0be"), looks := false }, kinds := [], alts := [], laidByText := true, laidKinds := [.data], laidTests := true, laidLooks := .later }
def LabelTextsCardSaid : Prop := Claim7.holds Tryd.pinned (.plain (OpenSpec.ofChange labelTextsSpec)) labelTextsCard

/-- THE SECOND FORM's CARD OF 'garrisonlaw01.LabelTexts'. -/
def labelTextsUptoCard : Claim7 := { stood := { row := labelTextsUptoRow, standIns := [], harness := (true, "ce5183c19cd67f551d2b5de4a2d1af082c429157cf537e25efc209d79adcd0be"), looks := false }, kinds := [], alts := [], laidByText := true, laidKinds := [.data], laidTests := true, laidLooks := .later }
def LabelTextsUptoCardSaid : Prop := Claim7.holds Tryd.pinned (.plain (OpenSpec.upto labelTextsSpec)) labelTextsUptoCard
end Rows
end Go.Proofs.YtmieioaklgdbdaaDoor
