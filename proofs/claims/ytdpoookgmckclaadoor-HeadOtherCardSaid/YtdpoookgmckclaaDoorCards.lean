/-
  DERIVED. GIVEN WITH THE SEED: THE CARDS: each row of YtdpoookgmckclaaDoorRows.lean that lists a variable, with what it lists TIED to the program's text (the seventh form; the later family's looks); each row that meets fmt, with fmt's text TOLD by the authors' own Lean function (tested against real Go, not proved from fmt's source: count such statements apart). THE CARD IS WHAT COUNTS. Prove the row's statement (the work); the ties are given (YtdpoookgmckclaaDoorTie.lean); close each card by the builder's one call (the guide's Derived/Test/ToyasCard.lean, 'card_holds'). Laid BY PROGRAM, IN A SANDBOX (cutbox-door.mjs). By AI agents, Wed Nov 11 2026. No macro, syntax, notation, axiom, sorry.
-/
import Derived.Test.YtdpoookgmckclaaDoorRows
import GoSem.ClaimSeven
namespace Go.Proofs.YtdpoookgmckclaaDoor
namespace Rows

/-- THE TIED CARD OF 'nunciolaw20.HeadTells'. -/
def headTellsCard : Claim7 := { stood := { row := headTellsRow, standIns := [], harness := (true, "498e3267e62ce195954756acd036d98c85f3cb9eda65eb5921c7ebb5d692b813"), looks := false }, kinds := [], alts := [], laidByText := true, laidKinds := [.data, .pinned], laidTests := true, laidLooks := .later }
def HeadTellsCardSaid : Prop := Claim7.holds Tryd.pinned (.plain (OpenSpec.ofChange headTellsSpec)) headTellsCard

/-- THE TIED CARD OF 'nunciolaw20.HeadOther'. -/
def headOtherCard : Claim7 := { stood := { row := headOtherRow, standIns := [], harness := (true, "498e3267e62ce195954756acd036d98c85f3cb9eda65eb5921c7ebb5d692b813"), looks := false }, kinds := [], alts := [], laidByText := true, laidKinds := [.data, .pinned], laidTests := true, laidLooks := .later }
def HeadOtherCardSaid : Prop := Claim7.holds Tryd.pinned (.plain (OpenSpec.ofChange headOtherSpec)) headOtherCard

/-- THE TIED CARD OF 'nunciolaw20.HeadWrong'. -/
def headWrongCard : Claim7 := { stood := { row := headWrongRow, standIns := [], harness := (true, "498e3267e62ce195954756acd036d98c85f3cb9eda65eb5921c7ebb5d692b813"), looks := false }, kinds := [], alts := [], laidByText := true, laidKinds := [.data, .pinned], laidTests := true, laidLooks := .later }
def HeadWrongCardSaid : Prop := Claim7.holds Tryd.pinned (.plain (OpenSpec.ofChange headWrongSpec)) headWrongCard

/-- THE TIED CARD OF 'nunciolaw20.HeadLengths'. -/
def headLengthsCard : Claim7 := { stood := { row := headLengthsRow, standIns := [], harness := (true, "498e3267e62ce195954756acd036d98c85f3cb9eda65eb5921c7ebb5d692b813"), looks := false }, kinds := [], alts := [], laidByText := true, laidKinds := [.data, .data, .data, .data, .pinned], laidTests := true, laidLooks := .later }
def HeadLengthsCardSaid : Prop := Claim7.holds Tryd.pinned (.plain (OpenSpec.ofChange headLengthsSpec)) headLengthsCard

/-- THE SECOND FORM's CARD OF 'nunciolaw20.HeadTells'. -/
def headTellsUptoCard : Claim7 := { stood := { row := headTellsUptoRow, standIns := [], harness := (true, "498e3267e62ce195954756acd036d98c85f3cb9eda65eb5921c7ebb5d692b813"), looks := false }, kinds := [], alts := [], laidByText := true, laidKinds := [.data, .pinned], laidTests := true, laidLooks := .later }
def HeadTellsUptoCardSaid : Prop := Claim7.holds Tryd.pinned (.plain (OpenSpec.upto headTellsSpec)) headTellsUptoCard

/-- THE SECOND FORM's CARD OF 'nunciolaw20.HeadOther'. -/
def headOtherUptoCard : Claim7 := { stood := { row := headOtherUptoRow, standIns := [], harness := (true, "498e3267e62ce195954756acd036d98c85f3cb9eda65eb5921c7ebb5d692b813"), looks := false }, kinds := [], alts := [], laidByText := true, laidKinds := [.data, .pinned], laidTests := true, laidLooks := .later }
def HeadOtherUptoCardSaid : Prop := Claim7.holds Tryd.pinned (.plain (OpenSpec.upto headOtherSpec)) headOtherUptoCard

/-- THE SECOND FORM's CARD OF 'nunciolaw20.HeadWrong'. -/
def headWrongUptoCard : Claim7 := { stood := { row := headWrongUptoRow, standIns := [], harness := (true, "498e3267e62ce195954756acd036d98c85f3cb9eda65eb5921c7ebb5d692b813"), looks := false }, kinds := [], alts := [], laidByText := true, laidKinds := [.data, .pinned], laidTests := true, laidLooks := .later }
def HeadWrongUptoCardSaid : Prop := Claim7.holds Tryd.pinned (.plain (OpenSpec.upto headWrongSpec)) headWrongUptoCard

/-- THE SECOND FORM's CARD OF 'nunciolaw20.HeadLengths'. -/
def headLengthsUptoCard : Claim7 := { stood := { row := headLengthsUptoRow, standIns := [], harness := (true, "498e3267e62ce195954756acd036d98c85f3cb9eda65eb5921c7ebb5d692b813"), looks := false }, kinds := [], alts := [], laidByText := true, laidKinds := [.data, .data, .data, .data, .pinned], laidTests := true, laidLooks := .later }
def HeadLengthsUptoCardSaid : Prop := Claim7.holds Tryd.pinned (.plain (OpenSpec.upto headLengthsSpec)) headLengthsUptoCard
end Rows
end Go.Proofs.YtdpoookgmckclaaDoor
