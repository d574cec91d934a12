/-
  No cell of these rows narrows 'for every input' (looked for: loops, veiled, ifaces, maps, wideKeys, modest, calm, conditions, laid).
  DERIVED. THE GIVEN ROWS OF THIS SEAT. 10 by the template 'for every input the law returns true; each argument reads behind the call as it read before'; 0 by the template 'total and deterministic' (their statements: YtbbeikdbioelgaaTotals.lean).
  GIVEN WITH THE SEED: the statements are not yours to turn. If you find one false, say at which input.
  Laid BY PROGRAM, IN A SANDBOX (cutbox-rows.mjs): the forced cells as the released guide's own fill.sh prints them over the translation e0c82589c9a73a19… (all of the seat's roots in one cut). By AI agents, Wed Nov 11 2026. No macro, syntax, notation, axiom, sorry.
-/
import Derived.Test.YtbbeikdbioelgaaChecked
import GoSem.Claim
import GoSem.ClaimJoined
import GoSem.ClaimMapViews
import Derived.JoinedTies
import Derived.KernelRfl
namespace Go.Proofs.Ytbbeikdbioelgaa
/- THE CELL 'sum', in the pinned program and in every row, IS THE sha256 OF THE DUMP (.gsa) THAT YtbbeikdbioelgaaProg.lean LOADS. Nothing in Lean hashes anything: it is a label: what it is worth is what the hold of that sum in a sandbox is worth. -/
noncomputable def Try.pinned : Pinned := { name := "ytbbeikdbioelgaa", sum := "e0c82589c9a73a19fcff6695007db1310ae61ef480057e825a7fce4c513b1d78", checked := Try.checked }
namespace Rows
def none {H : Type} : Left H := { results := [], args := [] }

/-- 'nunciolaw07.WriteBytes': WHATEVER THE INPUT: true; the input reads as it did. -/
def writeBytesSpec : ChangeSpec := { name := "writeBytes", fn := fun _ => fun
  | [d] => { results := [.lit (.bool true)], args := [d] }
  | _ => none }
def writeBytesRow : OpenClaim := { program := "ytbbeikdbioelgaa", sum := "e0c82589c9a73a19fcff6695007db1310ae61ef480057e825a7fce4c513b1d78", func := "nuncio/nunciolaw07.WriteBytes", spec := "writeBytes", unfollowed := true, recurses := true, apart := false }
def WriteBytesSaid : Prop := writeBytesRow.holds Try.pinned (OpenSpec.ofChange writeBytesSpec)

/-- ITS FALSE NEIGHBOUR: 'it returns false'. Refute it at one input. -/
def writeBytesWrong : ChangeSpec := { name := "writeBytes", fn := fun _ => fun
  | [d] => { results := [.lit (.bool false)], args := [d] }
  | _ => none }
def WriteBytesWrongFalsely : Prop := writeBytesRow.holds Try.pinned (OpenSpec.ofChange writeBytesWrong)

/-- 'nunciolaw07.WriteOne': WHATEVER THE INPUT: true; the input reads as it did. -/
def writeOneSpec : ChangeSpec := { name := "writeOne", fn := fun _ => fun
  | [d1, d2] => { results := [.lit (.bool true)], args := [d1, d2] }
  | _ => none }
def writeOneRow : OpenClaim := { program := "ytbbeikdbioelgaa", sum := "e0c82589c9a73a19fcff6695007db1310ae61ef480057e825a7fce4c513b1d78", func := "nuncio/nunciolaw07.WriteOne", spec := "writeOne", unfollowed := true, recurses := true, apart := false }
def WriteOneSaid : Prop := writeOneRow.holds Try.pinned (OpenSpec.ofChange writeOneSpec)

/-- ITS FALSE NEIGHBOUR: 'it returns false'. Refute it at one input. -/
def writeOneWrong : ChangeSpec := { name := "writeOne", fn := fun _ => fun
  | [d1, d2] => { results := [.lit (.bool false)], args := [d1, d2] }
  | _ => none }
def WriteOneWrongFalsely : Prop := writeOneRow.holds Try.pinned (OpenSpec.ofChange writeOneWrong)

/-- 'nunciolaw07.WriteSpares': WHATEVER THE INPUT: true; the input reads as it did. -/
def writeSparesSpec : ChangeSpec := { name := "writeSpares", fn := fun _ => fun
  | [d1, d2] => { results := [.lit (.bool true)], args := [d1, d2] }
  | _ => none }
def writeSparesRow : OpenClaim := { program := "ytbbeikdbioelgaa", sum := "e0c82589c9a73a19fcff6695007db1310ae61ef480057e825a7fce4c513b1d78", func := "nuncio/nunciolaw07.WriteSpares", spec := "writeSpares", unfollowed := true, recurses := true, apart := false }
def WriteSparesSaid : Prop := writeSparesRow.holds Try.pinned (OpenSpec.ofChange writeSparesSpec)

/-- ITS FALSE NEIGHBOUR: 'it returns false'. Refute it at one input. -/
def writeSparesWrong : ChangeSpec := { name := "writeSpares", fn := fun _ => fun
  | [d1, d2] => { results := [.lit (.bool false)], args := [d1, d2] }
  | _ => none }
def WriteSparesWrongFalsely : Prop := writeSparesRow.holds Try.pinned (OpenSpec.ofChange writeSparesWrong)

/-- 'nunciolaw06.ReadNames': WHATEVER THE INPUT: true; the input reads as it did. -/
def readNamesSpec : ChangeSpec := { name := "readNames", fn := fun _ => fun
  | [d1, d2] => { results := [.lit (.bool true)], args := [d1, d2] }
  | _ => none }
def readNamesRow : OpenClaim := { program := "ytbbeikdbioelgaa", sum := "e0c82589c9a73a19fcff6695007db1310ae61ef480057e825a7fce4c513b1d78", func := "nuncio/nunciolaw06.ReadNames", spec := "readNames", unfollowed := true, recurses := true, apart := false }
def ReadNamesSaid : Prop := readNamesRow.holds Try.pinned (OpenSpec.ofChange readNamesSpec)

/-- ITS FALSE NEIGHBOUR: 'it returns false'. Refute it at one input. -/
def readNamesWrong : ChangeSpec := { name := "readNames", fn := fun _ => fun
  | [d1, d2] => { results := [.lit (.bool false)], args := [d1, d2] }
  | _ => none }
def ReadNamesWrongFalsely : Prop := readNamesRow.holds Try.pinned (OpenSpec.ofChange readNamesWrong)

/-- 'nunciolaw06.ReadMessages': WHATEVER THE INPUT: true; the input reads as it did. -/
def readMessagesSpec : ChangeSpec := { name := "readMessages", fn := fun _ => fun
  | [d] => { results := [.lit (.bool true)], args := [d] }
  | _ => none }
def readMessagesRow : OpenClaim := { program := "ytbbeikdbioelgaa", sum := "e0c82589c9a73a19fcff6695007db1310ae61ef480057e825a7fce4c513b1d78", func := "nuncio/nunciolaw06.ReadMessages", spec := "readMessages", unfollowed := true, recurses := true, apart := false }
def ReadMessagesSaid : Prop := readMessagesRow.holds Try.pinned (OpenSpec.ofChange readMessagesSpec)

/-- ITS FALSE NEIGHBOUR: 'it returns false'. Refute it at one input. -/
def readMessagesWrong : ChangeSpec := { name := "readMessages", fn := fun _ => fun
  | [d] => { results := [.lit (.bool false)], args := [d] }
  | _ => none }
def ReadMessagesWrongFalsely : Prop := readMessagesRow.holds Try.pinned (OpenSpec.ofChange readMessagesWrong)

/-- 'nunciolaw06.ReadRight': WHATEVER THE INPUT: true; the input reads as it did. -/
def readRightSpec : ChangeSpec := { name := "readRight", fn := fun _ => fun
  | [d] => { results := [.lit (.bool true)], args := [d] }
  | _ => none }
def readRightRow : OpenClaim := { program := "ytbbeikdbioelgaa", sum := "e0c82589c9a73a19fcff6695007db1310ae61ef480057e825a7fce4c513b1d78", func := "nuncio/nunciolaw06.ReadRight", spec := "readRight", unfollowed := true, recurses := true, apart := false }
def ReadRightSaid : Prop := readRightRow.holds Try.pinned (OpenSpec.ofChange readRightSpec)

/-- ITS FALSE NEIGHBOUR: 'it returns false'. Refute it at one input. -/
def readRightWrong : ChangeSpec := { name := "readRight", fn := fun _ => fun
  | [d] => { results := [.lit (.bool false)], args := [d] }
  | _ => none }
def ReadRightWrongFalsely : Prop := readRightRow.holds Try.pinned (OpenSpec.ofChange readRightWrong)

/-- 'nunciolaw06.ReadBack': WHATEVER THE INPUT: true; the input reads as it did. -/
def readBackSpec : ChangeSpec := { name := "readBack", fn := fun _ => fun
  | [d1, d2, d3] => { results := [.lit (.bool true)], args := [d1, d2, d3] }
  | _ => none }
def readBackRow : OpenClaim := { program := "ytbbeikdbioelgaa", sum := "e0c82589c9a73a19fcff6695007db1310ae61ef480057e825a7fce4c513b1d78", func := "nuncio/nunciolaw06.ReadBack", spec := "readBack", unfollowed := true, recurses := true, apart := false }
def ReadBackSaid : Prop := readBackRow.holds Try.pinned (OpenSpec.ofChange readBackSpec)

/-- ITS FALSE NEIGHBOUR: 'it returns false'. Refute it at one input. -/
def readBackWrong : ChangeSpec := { name := "readBack", fn := fun _ => fun
  | [d1, d2, d3] => { results := [.lit (.bool false)], args := [d1, d2, d3] }
  | _ => none }
def ReadBackWrongFalsely : Prop := readBackRow.holds Try.pinned (OpenSpec.ofChange readBackWrong)

/-- 'nunciolaw06.ReadCuts': WHATEVER THE INPUT: true; the input reads as it did. -/
def readCutsSpec : ChangeSpec := { name := "readCuts", fn := fun _ => fun
  | [d1, d2, d3] => { results := [.lit (.bool true)], args := [d1, d2, d3] }
  | _ => none }
def readCutsRow : OpenClaim := { program := "ytbbeikdbioelgaa", sum := "e0c82589c9a73a19fcff6695007db1310ae61ef480057e825a7fce4c513b1d78", func := "nuncio/nunciolaw06.ReadCuts", spec := "readCuts", unfollowed := true, recurses := true, apart := false }
def ReadCutsSaid : Prop := readCutsRow.holds Try.pinned (OpenSpec.ofChange readCutsSpec)

/-- ITS FALSE NEIGHBOUR: 'it returns false'. Refute it at one input. -/
def readCutsWrong : ChangeSpec := { name := "readCuts", fn := fun _ => fun
  | [d1, d2, d3] => { results := [.lit (.bool false)], args := [d1, d2, d3] }
  | _ => none }
def ReadCutsWrongFalsely : Prop := readCutsRow.holds Try.pinned (OpenSpec.ofChange readCutsWrong)

/-- 'nunciolaw07.WriteBack': WHATEVER THE INPUT: true; the input reads as it did. -/
def writeBackSpec : ChangeSpec := { name := "writeBack", fn := fun _ => fun
  | [d] => { results := [.lit (.bool true)], args := [d] }
  | _ => none }
def writeBackRow : OpenClaim := { program := "ytbbeikdbioelgaa", sum := "e0c82589c9a73a19fcff6695007db1310ae61ef480057e825a7fce4c513b1d78", func := "nuncio/nunciolaw07.WriteBack", spec := "writeBack", unfollowed := true, recurses := true, apart := false }
def WriteBackSaid : Prop := writeBackRow.holds Try.pinned (OpenSpec.ofChange writeBackSpec)

/-- ITS FALSE NEIGHBOUR: 'it returns false'. Refute it at one input. -/
def writeBackWrong : ChangeSpec := { name := "writeBack", fn := fun _ => fun
  | [d] => { results := [.lit (.bool false)], args := [d] }
  | _ => none }
def WriteBackWrongFalsely : Prop := writeBackRow.holds Try.pinned (OpenSpec.ofChange writeBackWrong)

/-- 'nunciolaw07.WriteRead': WHATEVER THE INPUT: true; the input reads as it did. -/
def writeReadSpec : ChangeSpec := { name := "writeRead", fn := fun _ => fun
  | [d] => { results := [.lit (.bool true)], args := [d] }
  | _ => none }
def writeReadRow : OpenClaim := { program := "ytbbeikdbioelgaa", sum := "e0c82589c9a73a19fcff6695007db1310ae61ef480057e825a7fce4c513b1d78", func := "nuncio/nunciolaw07.WriteRead", spec := "writeRead", unfollowed := true, recurses := true, apart := false }
def WriteReadSaid : Prop := writeReadRow.holds Try.pinned (OpenSpec.ofChange writeReadSpec)

/-- ITS FALSE NEIGHBOUR: 'it returns false'. Refute it at one input. -/
def writeReadWrong : ChangeSpec := { name := "writeRead", fn := fun _ => fun
  | [d] => { results := [.lit (.bool false)], args := [d] }
  | _ => none }
def WriteReadWrongFalsely : Prop := writeReadRow.holds Try.pinned (OpenSpec.ofChange writeReadWrong)

/- THE SECOND FORM. 'bulk': how many values and letters a reading holds, each counted each time it is reached (what is shared counts as often as it is met; a slice's spare places count too). A statement '..UptoSaid' is the law's where the arguments, and the package variables that the reading takes, are together of bulk at most 1048576: NARROWER than '..Said'. Prove '..Said' where nothing that the law and all that it calls make is longer than what came in: it says more and counts as full. Else prove '..UptoSaid'. A law counts once. -/
mutual
def uptoBulk {H : Type} : DataW H → Nat
  | .lit (.string bytes) => bytes.length + 1
  | .lit _ => 1
  | .nil => 1
  | .ptr d => uptoBulk d + 1
  | .slice elems spare => uptoBulkAll elems + uptoBulkAll spare + 1
  | .agg parts => uptoBulkAll parts + 1
  | .iface _ d => uptoBulk d + 1
  | .map entries => uptoBulkEntries entries + 1
  | .held _ => 1
def uptoBulkAll {H : Type} : List (DataW H) → Nat
  | [] => 0
  | d :: r => uptoBulk d + uptoBulkAll r
def uptoBulkEntries {H : Type} : List (Lit × DataW H) → Nat
  | [] => 0
  | x :: r => uptoBulkEntry x + uptoBulkEntries r
def uptoBulkEntry {H : Type} : Lit × DataW H → Nat
  | (.string bytes, d) => bytes.length + uptoBulk d + 1
  | (_, d) => uptoBulk d + 1
 end
def uptoSmall : (H : Type) → List (DataW H) → Bool := fun _ ds => decide (uptoBulkAll ds ≤ 1048576)
def OpenSpec.upto (s : _root_.Go.ChangeSpec) : _root_.Go.OpenSpec := { _root_.Go.OpenSpec.ofChange s with cond := some uptoSmall }

/-- 'nunciolaw07.WriteBytes', WHERE WHAT IT READS IS OF BULK AT MOST 1048576: true; the input reads as it did. -/
def writeBytesUptoRow : OpenClaim := { program := "ytbbeikdbioelgaa", sum := "e0c82589c9a73a19fcff6695007db1310ae61ef480057e825a7fce4c513b1d78", func := "nuncio/nunciolaw07.WriteBytes", spec := "writeBytes", unfollowed := true, recurses := true, apart := false, narrowed := true }
def WriteBytesUptoSaid : Prop := writeBytesUptoRow.holds Try.pinned (OpenSpec.upto writeBytesSpec)

/-- 'nunciolaw07.WriteOne', WHERE WHAT IT READS IS OF BULK AT MOST 1048576: true; the input reads as it did. -/
def writeOneUptoRow : OpenClaim := { program := "ytbbeikdbioelgaa", sum := "e0c82589c9a73a19fcff6695007db1310ae61ef480057e825a7fce4c513b1d78", func := "nuncio/nunciolaw07.WriteOne", spec := "writeOne", unfollowed := true, recurses := true, apart := false, narrowed := true }
def WriteOneUptoSaid : Prop := writeOneUptoRow.holds Try.pinned (OpenSpec.upto writeOneSpec)

/-- 'nunciolaw07.WriteSpares', WHERE WHAT IT READS IS OF BULK AT MOST 1048576: true; the input reads as it did. -/
def writeSparesUptoRow : OpenClaim := { program := "ytbbeikdbioelgaa", sum := "e0c82589c9a73a19fcff6695007db1310ae61ef480057e825a7fce4c513b1d78", func := "nuncio/nunciolaw07.WriteSpares", spec := "writeSpares", unfollowed := true, recurses := true, apart := false, narrowed := true }
def WriteSparesUptoSaid : Prop := writeSparesUptoRow.holds Try.pinned (OpenSpec.upto writeSparesSpec)

/-- 'nunciolaw06.ReadNames', WHERE WHAT IT READS IS OF BULK AT MOST 1048576: true; the input reads as it did. -/
def readNamesUptoRow : OpenClaim := { program := "ytbbeikdbioelgaa", sum := "e0c82589c9a73a19fcff6695007db1310ae61ef480057e825a7fce4c513b1d78", func := "nuncio/nunciolaw06.ReadNames", spec := "readNames", unfollowed := true, recurses := true, apart := false, narrowed := true }
def ReadNamesUptoSaid : Prop := readNamesUptoRow.holds Try.pinned (OpenSpec.upto readNamesSpec)

/-- 'nunciolaw06.ReadMessages', WHERE WHAT IT READS IS OF BULK AT MOST 1048576: true; the input reads as it did. -/
def readMessagesUptoRow : OpenClaim := { program := "ytbbeikdbioelgaa", sum := "e0c82589c9a73a19fcff6695007db1310ae61ef480057e825a7fce4c513b1d78", func := "nuncio/nunciolaw06.ReadMessages", spec := "readMessages", unfollowed := true, recurses := true, apart := false, narrowed := true }
def ReadMessagesUptoSaid : Prop := readMessagesUptoRow.holds Try.pinned (OpenSpec.upto readMessagesSpec)

/-- 'nunciolaw06.ReadRight', WHERE WHAT IT READS IS OF BULK AT MOST 1048576: true; the input reads as it did. -/
def readRightUptoRow : OpenClaim := { program := "ytbbeikdbioelgaa", sum := "e0c82589c9a73a19fcff6695007db1310ae61ef480057e825a7fce4c513b1d78", func := "nuncio/nunciolaw06.ReadRight", spec := "readRight", unfollowed := true, recurses := true, apart := false, narrowed := true }
def ReadRightUptoSaid : Prop := readRightUptoRow.holds Try.pinned (OpenSpec.upto readRightSpec)

/-- 'nunciolaw06.ReadBack', WHERE WHAT IT READS IS OF BULK AT MOST 1048576: true; the input reads as it did. -/
def readBackUptoRow : OpenClaim := { program := "ytbbeikdbioelgaa", sum := "e0c82589c9a73a19fcff6695007db1310ae61ef480057e825a7fce4c513b1d78", func := "nuncio/nunciolaw06.ReadBack", spec := "readBack", unfollowed := true, recurses := true, apart := false, narrowed := true }
def ReadBackUptoSaid : Prop := readBackUptoRow.holds Try.pinned (OpenSpec.upto readBackSpec)

/-- 'nunciolaw06.ReadCuts', WHERE WHAT IT READS IS OF BULK AT MOST 1048576: true; the input reads as it did. -/
def readCutsUptoRow : OpenClaim := { program := "ytbbeikdbioelgaa", sum := "e0c82589c9a73a19fcff6695007db1310ae61ef480057e825a7fce4c513b1d78", func := "nuncio/nunciolaw06.ReadCuts", spec := "readCuts", unfollowed := true, recurses := true, apart := false, narrowed := true }
def ReadCutsUptoSaid : Prop := readCutsUptoRow.holds Try.pinned (OpenSpec.upto readCutsSpec)

/-- 'nunciolaw07.WriteBack', WHERE WHAT IT READS IS OF BULK AT MOST 1048576: true; the input reads as it did. -/
def writeBackUptoRow : OpenClaim := { program := "ytbbeikdbioelgaa", sum := "e0c82589c9a73a19fcff6695007db1310ae61ef480057e825a7fce4c513b1d78", func := "nuncio/nunciolaw07.WriteBack", spec := "writeBack", unfollowed := true, recurses := true, apart := false, narrowed := true }
def WriteBackUptoSaid : Prop := writeBackUptoRow.holds Try.pinned (OpenSpec.upto writeBackSpec)

/-- 'nunciolaw07.WriteRead', WHERE WHAT IT READS IS OF BULK AT MOST 1048576: true; the input reads as it did. -/
def writeReadUptoRow : OpenClaim := { program := "ytbbeikdbioelgaa", sum := "e0c82589c9a73a19fcff6695007db1310ae61ef480057e825a7fce4c513b1d78", func := "nuncio/nunciolaw07.WriteRead", spec := "writeRead", unfollowed := true, recurses := true, apart := false, narrowed := true }
def WriteReadUptoSaid : Prop := writeReadUptoRow.holds Try.pinned (OpenSpec.upto writeReadSpec)

end Rows
end Go.Proofs.Ytbbeikdbioelgaa
