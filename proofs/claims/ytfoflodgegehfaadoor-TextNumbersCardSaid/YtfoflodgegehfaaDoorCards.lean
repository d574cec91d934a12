/-
  DERIVED. GIVEN WITH THE SEED: THE CARDS: each row of YtfoflodgegehfaaDoorRows.lean that lists a variable, with what it lists TIED to the program's text (the seventh form; the later family's looks); each row that meets fmt, with fmt's text TOLD by the authors' own Lean function (tested against real Go, not proved from fmt's source: count such statements apart). THE CARD IS WHAT COUNTS. Prove the row's statement (the work); the ties are given (YtfoflodgegehfaaDoorTie.lean); close each card by the builder's one call (the guide's Derived/Test/ToyasCard.lean, 'card_holds'). Laid BY PROGRAM, IN A SANDBOX (cutbox-door.mjs). By AI agents, Wed Nov 11 2026. No macro, syntax, notation, axiom, sorry.
-/
import Derived.Test.YtfoflodgegehfaaDoorRows
import GoSem.ClaimSeven
namespace Go.Proofs.YtfoflodgegehfaaDoor
namespace Rows

/-- THE TIED CARD OF 'nunciolaw02.TextFolds'. -/
def textFoldsCard : Claim7 := { stood := { row := textFoldsRow, standIns := [], harness := (true, "9807dafe3f6d15e133c68866b88ae7e123aecc51ae5408fe4f2340aba51fdb13"), looks := false }, kinds := [], alts := [], laidByText := true, laidKinds := [.data, .data, .data, .data, .pinned], laidTests := true, laidLooks := .later }
def TextFoldsCardSaid : Prop := Claim7.holds Tryd.pinned (.plain (OpenSpec.ofChange textFoldsSpec)) textFoldsCard

/-- THE TIED CARD OF 'nunciolaw02.TextTells'. -/
def textTellsCard : Claim7 := { stood := { row := textTellsRow, standIns := [], harness := (true, "9807dafe3f6d15e133c68866b88ae7e123aecc51ae5408fe4f2340aba51fdb13"), looks := false }, kinds := [], alts := [], laidByText := true, laidKinds := [.data, .data, .data, .data, .pinned], laidTests := true, laidLooks := .later }
def TextTellsCardSaid : Prop := Claim7.holds Tryd.pinned (.plain (OpenSpec.ofChange textTellsSpec)) textTellsCard

/-- THE TIED CARD OF 'nunciolaw02.TextJoins'. -/
def textJoinsCard : Claim7 := { stood := { row := textJoinsRow, standIns := [], harness := (true, "9807dafe3f6d15e133c68866b88ae7e123aecc51ae5408fe4f2340aba51fdb13"), looks := false }, kinds := [], alts := [], laidByText := true, laidKinds := [.data, .data, .data, .data, .pinned], laidTests := true, laidLooks := .later }
def TextJoinsCardSaid : Prop := Claim7.holds Tryd.pinned (.plain (OpenSpec.ofChange textJoinsSpec)) textJoinsCard

/-- THE TIED CARD OF 'nunciolaw02.TextNumbers'. -/
def textNumbersCard : Claim7 := { stood := { row := textNumbersRow, standIns := [], harness := (true, "9807dafe3f6d15e133c68866b88ae7e123aecc51ae5408fe4f2340aba51fdb13"), looks := false }, kinds := [], alts := [], laidByText := true, laidKinds := [.data, .data, .data, .data, .pinned], laidTests := true, laidLooks := .later }
def TextNumbersCardSaid : Prop := Claim7.holds Tryd.pinned (.plain (OpenSpec.ofChange textNumbersSpec)) textNumbersCard

/-- THE TIED CARD OF 'nunciolaw02.TextMedias'. -/
def textMediasCard : Claim7 := { stood := { row := textMediasRow, standIns := [], harness := (true, "9807dafe3f6d15e133c68866b88ae7e123aecc51ae5408fe4f2340aba51fdb13"), looks := false }, kinds := [], alts := [], laidByText := true, laidKinds := [.data, .data, .data, .data, .pinned], laidTests := true, laidLooks := .later }
def TextMediasCardSaid : Prop := Claim7.holds Tryd.pinned (.plain (OpenSpec.ofChange textMediasSpec)) textMediasCard

/-- THE SECOND FORM's CARD OF 'nunciolaw02.TextFolds'. -/
def textFoldsUptoCard : Claim7 := { stood := { row := textFoldsUptoRow, standIns := [], harness := (true, "9807dafe3f6d15e133c68866b88ae7e123aecc51ae5408fe4f2340aba51fdb13"), looks := false }, kinds := [], alts := [], laidByText := true, laidKinds := [.data, .data, .data, .data, .pinned], laidTests := true, laidLooks := .later }
def TextFoldsUptoCardSaid : Prop := Claim7.holds Tryd.pinned (.plain (OpenSpec.upto textFoldsSpec)) textFoldsUptoCard

/-- THE SECOND FORM's CARD OF 'nunciolaw02.TextTells'. -/
def textTellsUptoCard : Claim7 := { stood := { row := textTellsUptoRow, standIns := [], harness := (true, "9807dafe3f6d15e133c68866b88ae7e123aecc51ae5408fe4f2340aba51fdb13"), looks := false }, kinds := [], alts := [], laidByText := true, laidKinds := [.data, .data, .data, .data, .pinned], laidTests := true, laidLooks := .later }
def TextTellsUptoCardSaid : Prop := Claim7.holds Tryd.pinned (.plain (OpenSpec.upto textTellsSpec)) textTellsUptoCard

/-- THE SECOND FORM's CARD OF 'nunciolaw02.TextJoins'. -/
def textJoinsUptoCard : Claim7 := { stood := { row := textJoinsUptoRow, standIns := [], harness := (true, "9807dafe3f6d15e133c68866b88ae7e123aecc51ae5408fe4f2340aba51fdb13"), looks := false }, kinds := [], alts := [], laidByText := true, laidKinds := [.data, .data, .data, .data, .pinned], laidTests := true, laidLooks := .later }
def TextJoinsUptoCardSaid : Prop := Claim7.holds Tryd.pinned (.plain (OpenSpec.upto textJoinsSpec)) textJoinsUptoCard

/-- THE SECOND FORM's CARD OF 'nunciolaw02.TextNumbers'. -/
def textNumbersUptoCard : Claim7 := { stood := { row := textNumbersUptoRow, standIns := [], harness := (true, "9807dafe3f6d15e133c68866b88ae7e123aecc51ae5408fe4f2340aba51fdb13"), looks := false }, kinds := [], alts := [], laidByText := true, laidKinds := [.data, .data, .data, .data, .pinned], laidTests := true, laidLooks := .later }
def TextNumbersUptoCardSaid : Prop := Claim7.holds Tryd.pinned (.plain (OpenSpec.upto textNumbersSpec)) textNumbersUptoCard

/-- THE SECOND FORM's CARD OF 'nunciolaw02.TextMedias'. -/
def textMediasUptoCard : Claim7 := { stood := { row := textMediasUptoRow, standIns := [], harness := (true, "9807dafe3f6d15e133c68866b88ae7e123aecc51ae5408fe4f2340aba51fdb13"), looks := false }, kinds := [], alts := [], laidByText := true, laidKinds := [.data, .data, .data, .data, .pinned], laidTests := true, laidLooks := .later }
def TextMediasUptoCardSaid : Prop := Claim7.holds Tryd.pinned (.plain (OpenSpec.upto textMediasSpec)) textMediasUptoCard
end Rows
end Go.Proofs.YtfoflodgegehfaaDoor
