/-
  DERIVED. GIVEN WITH THE SEED: THE CARDS: each row of YtcjnnonfnlemmaaDoorRows.lean that lists a variable, with what it lists TIED to the program's text (the seventh form; the later family's looks); each row that meets fmt, with fmt's text TOLD by the authors' own Lean function (tested against real Go, not proved from fmt's source: count such statements apart). THE CARD IS WHAT COUNTS. Prove the row's statement (the work); the ties are given (YtcjnnonfnlemmaaDoorTie.lean); close each card by the builder's one call (the guide's Derived/Test/ToyasCard.lean, 'card_holds'). Laid BY PROGRAM, IN A SANDBOX (cutbox-door.mjs). By AI agents, Wed Nov 11 2026. No macro, syntax, notation, axiom, sorry.
-/
import Derived.Test.YtcjnnonfnlemmaaDoorRows
import GoSem.ClaimSeven
namespace Go.Proofs.YtcjnnonfnlemmaaDoor
namespace Rows

/-- THE TIED CARD OF 'garrisonlaw01.LabelMakes'. -/
def labelMakesCard : Claim7 := { stood := { row := labelMakesRow, standIns := [], harness := (true, "af7c6a53a57fb88c8b4bcb3322b4e1baba0b521f9537c19291d55e088f9af35b"), looks := false }, kinds := [], alts := [], laidByText := true, laidKinds := [.data], laidTests := true, laidLooks := .later }
def LabelMakesCardSaid : Prop := Claim7.holds Tryd.pinned (.plain (OpenSpec.ofChange labelMakesSpec)) labelMakesCard

/-- THE TIED CARD OF 'garrisonlaw01.LabelOrders'. -/
def labelOrdersCard : Claim7 := { stood := { row := labelOrdersRow, standIns := [], harness := (true, "af7c6a53a57fb88c8b4bcb3322b4e1baba0b521f9537c19291d55e088f9af35b"), looks := false }, kinds := [], alts := [], laidByText := true, laidKinds := [.data], laidTests := true, laidLooks := .later }
def LabelOrdersCardSaid : Prop := Claim7.holds Tryd.pinned (.plain (OpenSpec.ofChange labelOrdersSpec)) labelOrdersCard

/-- THE TIED CARD OF 'garrisonlaw01.LabelLists'. -/
def labelListsCard : Claim7 := { stood := { row := labelListsRow, standIns := [], harness := (true, "af7c6a53a57fb88c8b4bcb3322b4e1baba0b521f9537c19291d55e088f9af35b"), looks := false }, kinds := [], alts := [], laidByText := true, laidKinds := [.data], laidTests := true, laidLooks := .later }
def LabelListsCardSaid : Prop := Claim7.holds Tryd.pinned (.plain (OpenSpec.ofChange labelListsSpec)) labelListsCard

/-- THE TIED CARD OF 'garrisonlaw01.LabelLaws'. -/
def labelLawsCard : Claim7 := { stood := { row := labelLawsRow, standIns := [], harness := (true, "af7c6a53a57fb88c8b4bcb3322b4e1baba0b521f9537c19291d55e088f9af35b"), looks := false }, kinds := [], alts := [], laidByText := true, laidKinds := [.data], laidTests := true, laidLooks := .later }
def LabelLawsCardSaid : Prop := Claim7.holds Tryd.pinned (.plain (OpenSpec.ofChange labelLawsSpec)) labelLawsCard

/-- THE TIED CARD OF 'garrisonlaw01.LabelTexts'. -/
def labelTextsCard : Claim7 := { stood := { row := labelTextsRow, standIns := [], harness := (true, "af7c6a53a57fb88c8b4bcb3322b4e1baba0b521f9537c19291d55e088f9af35b"), looks := false }, kinds := [], alts := [], laidByText := true, laidKinds := [.data], laidTests := true, laidLooks := .later }
def LabelTextsCardSaid : Prop := Claim7.holds Tryd.pinned (.plain (OpenSpec.ofChange labelTextsSpec)) labelTextsCard

/-- THE SECOND FORM's CARD OF 'garrisonlaw01.LabelMakes'. -/
def labelMakesUptoCard : Claim7 := { stood := { row := labelMakesUptoRow, standIns := [], harness := (true, "af7c6a53a57fb88c8b4bcb3322b4e1baba0b521f9537c19291d55e088f9af35b"), looks := false }, kinds := [], alts := [], laidByText := true, laidKinds := [.data], laidTests := true, laidLooks := .later }
def LabelMakesUptoCardSaid : Prop := Claim7.holds Tryd.pinned (.plain (OpenSpec.upto labelMakesSpec)) labelMakesUptoCard

/-- THE SECOND FORM's CARD OF 'garrisonlaw01.LabelOrders'. -/
def labelOrdersUptoCard : Claim7 := { stood := { row := labelOrdersUptoRow, standIns := [], harness := (true, "af7c6a53a57fb88c8b4bcb3322b4e1baba0b521f9537c19291d55e088f9af35b"), looks := false }, kinds := [], alts := [], laidByText := true, laidKinds := [.data], laidTests := true, laidLooks := .later }
def LabelOrdersUptoCardSaid : Prop := Claim7.holds Tryd.pinned (.plain (OpenSpec.upto labelOrdersSpec)) labelOrdersUptoCard

/-- THE SECOND FORM's CARD OF 'garrisonlaw01.LabelLists'. -/
def labelListsUptoCard : Claim7 := { stood := { row := labelListsUptoRow, standIns := [], harness := (true, "af7c6a53a57fb88c8b4bcb3322b4e1baba0b521f9537c19291d55e088f9af35b"), looks := false }, kinds := [], alts := [], laidByText := true, laidKinds := [.data], laidTests := true, laidLooks := .later }
def LabelListsUptoCardSaid : Prop := Claim7.holds Tryd.pinned (.plain (OpenSpec.upto labelListsSpec)) labelListsUptoCard

/-- THE SECOND FORM's CARD OF 'garrisonlaw01.LabelLaws'. -/
def labelLawsUptoCard : Claim7 := { stood := { row := labelLawsUptoRow, standIns := [], harness := (true, "af7c6a53a57fb88c8b4bcb3322b4e1baba0b521f9537c19291d55e088f9af35b"), looks := false }, kinds := [], alts := [], laidByText := true, laidKinds := [.data], laidTests := true, laidLooks := .later }
def LabelLawsUptoCardSaid : Prop := Claim7.holds Tryd.pinned (.plain (OpenSpec.upto labelLawsSpec)) labelLawsUptoCard

/-- THE SECOND FORM's CARD OF 'garrisonlaw01.LabelTexts'. -/
def labelTextsUptoCard : Claim7 := { stood := { row := labelTextsUptoRow, standIns := [], harness := (true, "af7c6a53a57fb88c8b4bcb3322b4e1baba0b521f9537c19291d55e088f9af35b"), looks := false }, kinds := [], alts := [], laidByText := true, laidKinds := [.data], laidTests := true, laidLooks := .later }
def LabelTextsUptoCardSaid : Prop := Claim7.holds Tryd.pinned (.plain (OpenSpec.upto labelTextsSpec)) labelTextsUptoCard
end Rows
end Go.Proofs.YtcjnnonfnlemmaaDoor
