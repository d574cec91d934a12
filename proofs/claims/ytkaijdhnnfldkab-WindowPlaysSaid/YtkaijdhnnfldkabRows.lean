/-
  No cell of these rows narrows 'for every input' (looked for: loops, veiled, ifaces, maps, wideKeys, modest, calm, conditions, laid).
  DERIVED. THE GIVEN ROWS OF THIS SEAT. 6 by the template 'for every input the law returns true; each argument reads behind the call as it read before'; 0 by the template 'total and deterministic' (their statements: YtkaijdhnnfldkabTotals.lean).
  GIVEN WITH THE SEED: the statements are not yours to turn. If you find one false, say at which input.
  Laid BY PROGRAM, IN A SANDBOX (cutbox-rows.mjs): the forced cells as the released guide's own fill.sh prints them over the translation fe50ad4fd4129eec… (all of the seat's roots in one cut). By AI agents, Wed Nov 11 2026. No macro, syntax, notation, axiom, sorry.
-/
import Derived.Test.YtkaijdhnnfldkabChecked
import GoSem.Claim
import GoSem.ClaimJoined
import GoSem.ClaimMapViews
import Derived.JoinedTies
import Derived.KernelRfl
namespace Go.Proofs.Ytkaijdhnnfldkab
/- THE CELL 'sum', in the pinned program and in every row, IS THE sha256 OF THE DUMP (.gsa) THAT YtkaijdhnnfldkabProg.lean LOADS. Nothing in Lean hashes anything: it is a label: what it is worth is what the hold of that sum in a sandbox is worth. -/
noncomputable def Try.pinned : Pinned := { name := "ytkaijdhnnfldkab", sum := "fe50ad4fd4129eecad44feeee03922205c6a45095a6206b51ca845c7a5a4dbfc", checked := Try.checked }
namespace Rows
def none {H : Type} : Left H := { results := [], args := [] }

/-- 'nunciolaw03.B64Decodes': WHATEVER THE INPUT: true; the input reads as it did. -/
def b64DecodesSpec : ChangeSpec := { name := "b64Decodes", fn := fun _ => fun
  | [d] => { results := [.lit (.bool true)], args := [d] }
  | _ => none }
def b64DecodesRow : OpenClaim := { program := "ytkaijdhnnfldkab", sum := "fe50ad4fd4129eecad44feeee03922205c6a45095a6206b51ca845c7a5a4dbfc", func := "nuncio/nunciolaw03.B64Decodes", spec := "b64Decodes", apart := false }
def B64DecodesSaid : Prop := b64DecodesRow.holds Try.pinned (OpenSpec.ofChange b64DecodesSpec)

/-- ITS FALSE NEIGHBOUR: 'it returns false'. Refute it at one input. -/
def b64DecodesWrong : ChangeSpec := { name := "b64Decodes", fn := fun _ => fun
  | [d] => { results := [.lit (.bool false)], args := [d] }
  | _ => none }
def B64DecodesWrongFalsely : Prop := b64DecodesRow.holds Try.pinned (OpenSpec.ofChange b64DecodesWrong)

/-- 'nunciolaw03.B64Back': WHATEVER THE INPUT: true; the input reads as it did. -/
def b64BackSpec : ChangeSpec := { name := "b64Back", fn := fun _ => fun
  | [d1, d2] => { results := [.lit (.bool true)], args := [d1, d2] }
  | _ => none }
def b64BackRow : OpenClaim := { program := "ytkaijdhnnfldkab", sum := "fe50ad4fd4129eecad44feeee03922205c6a45095a6206b51ca845c7a5a4dbfc", func := "nuncio/nunciolaw03.B64Back", spec := "b64Back", apart := false }
def B64BackSaid : Prop := b64BackRow.holds Try.pinned (OpenSpec.ofChange b64BackSpec)

/-- ITS FALSE NEIGHBOUR: 'it returns false'. Refute it at one input. -/
def b64BackWrong : ChangeSpec := { name := "b64Back", fn := fun _ => fun
  | [d1, d2] => { results := [.lit (.bool false)], args := [d1, d2] }
  | _ => none }
def B64BackWrongFalsely : Prop := b64BackRow.holds Try.pinned (OpenSpec.ofChange b64BackWrong)

/-- 'nunciolaw03.B64Joins': WHATEVER THE INPUT: true; the input reads as it did. -/
def b64JoinsSpec : ChangeSpec := { name := "b64Joins", fn := fun _ => fun
  | [d1, d2] => { results := [.lit (.bool true)], args := [d1, d2] }
  | _ => none }
def b64JoinsRow : OpenClaim := { program := "ytkaijdhnnfldkab", sum := "fe50ad4fd4129eecad44feeee03922205c6a45095a6206b51ca845c7a5a4dbfc", func := "nuncio/nunciolaw03.B64Joins", spec := "b64Joins", apart := false }
def B64JoinsSaid : Prop := b64JoinsRow.holds Try.pinned (OpenSpec.ofChange b64JoinsSpec)

/-- ITS FALSE NEIGHBOUR: 'it returns false'. Refute it at one input. -/
def b64JoinsWrong : ChangeSpec := { name := "b64Joins", fn := fun _ => fun
  | [d1, d2] => { results := [.lit (.bool false)], args := [d1, d2] }
  | _ => none }
def B64JoinsWrongFalsely : Prop := b64JoinsRow.holds Try.pinned (OpenSpec.ofChange b64JoinsWrong)

/-- 'nunciolaw17.WindowFirst': WHATEVER THE INPUT: true; the input reads as it did. -/
def windowFirstSpec : ChangeSpec := { name := "windowFirst", fn := fun _ => fun
  | [d1, d2, d3, d4] => { results := [.lit (.bool true)], args := [d1, d2, d3, d4] }
  | _ => none }
def windowFirstRow : OpenClaim := { program := "ytkaijdhnnfldkab", sum := "fe50ad4fd4129eecad44feeee03922205c6a45095a6206b51ca845c7a5a4dbfc", func := "nuncio/nunciolaw17.WindowFirst", spec := "windowFirst", apart := false }
def WindowFirstSaid : Prop := windowFirstRow.holds Try.pinned (OpenSpec.ofChange windowFirstSpec)

/-- ITS FALSE NEIGHBOUR: 'it returns false'. Refute it at one input. -/
def windowFirstWrong : ChangeSpec := { name := "windowFirst", fn := fun _ => fun
  | [d1, d2, d3, d4] => { results := [.lit (.bool false)], args := [d1, d2, d3, d4] }
  | _ => none }
def WindowFirstWrongFalsely : Prop := windowFirstRow.holds Try.pinned (OpenSpec.ofChange windowFirstWrong)

/-- 'nunciolaw17.WindowPlays': WHATEVER THE INPUT: true; the input reads as it did. -/
def windowPlaysSpec : ChangeSpec := { name := "windowPlays", fn := fun _ => fun
  | [d] => { results := [.lit (.bool true)], args := [d] }
  | _ => none }
def windowPlaysRow : OpenClaim := { program := "ytkaijdhnnfldkab", sum := "fe50ad4fd4129eecad44feeee03922205c6a45095a6206b51ca845c7a5a4dbfc", func := "nuncio/nunciolaw17.WindowPlays", spec := "windowPlays", apart := false }
def WindowPlaysSaid : Prop := windowPlaysRow.holds Try.pinned (OpenSpec.ofChange windowPlaysSpec)

/-- ITS FALSE NEIGHBOUR: 'it returns false'. Refute it at one input. -/
def windowPlaysWrong : ChangeSpec := { name := "windowPlays", fn := fun _ => fun
  | [d] => { results := [.lit (.bool false)], args := [d] }
  | _ => none }
def WindowPlaysWrongFalsely : Prop := windowPlaysRow.holds Try.pinned (OpenSpec.ofChange windowPlaysWrong)

/-- 'nunciolaw17.WindowSums': WHATEVER THE INPUT: true; the input reads as it did. -/
def windowSumsSpec : ChangeSpec := { name := "windowSums", fn := fun _ => fun
  | [d1, d2] => { results := [.lit (.bool true)], args := [d1, d2] }
  | _ => none }
def windowSumsRow : OpenClaim := { program := "ytkaijdhnnfldkab", sum := "fe50ad4fd4129eecad44feeee03922205c6a45095a6206b51ca845c7a5a4dbfc", func := "nuncio/nunciolaw17.WindowSums", spec := "windowSums", apart := false }
def WindowSumsSaid : Prop := windowSumsRow.holds Try.pinned (OpenSpec.ofChange windowSumsSpec)

/-- ITS FALSE NEIGHBOUR: 'it returns false'. Refute it at one input. -/
def windowSumsWrong : ChangeSpec := { name := "windowSums", fn := fun _ => fun
  | [d1, d2] => { results := [.lit (.bool false)], args := [d1, d2] }
  | _ => none }
def WindowSumsWrongFalsely : Prop := windowSumsRow.holds Try.pinned (OpenSpec.ofChange windowSumsWrong)

/- THE SECOND FORM. 'bulk': how many values and letters a reading holds, each counted each time it is reached (what is shared counts as often as it is met; a slice's spare places count too). A statement '..UptoSaid' is the law's where the arguments, and the package variables that the reading takes, are together of bulk at most 1048576: NARROWER than '..Said'. Prove '..Said' where nothing that the law and all that it calls make is longer than what came in: it says more and counts as full. Else prove '..UptoSaid'. A law counts once. -/
mutual
def uptoBulk {H : Type} : DataW H → Nat
  | .lit (.string bytes) => bytes.length + 1
  | .lit _ => 1
  | .nil => 1
  | .ptr d => uptoBulk d + 1
  | .slice elems spare => uptoBulkAll elems + uptoBulkAll spare + 1
  | .agg parts => uptoBulkAll parts + 1
  | .iface _ d => uptoBulk d + 1
  | .map entries => uptoBulkEntries entries + 1
  | .held _ => 1
def uptoBulkAll {H : Type} : List (DataW H) → Nat
  | [] => 0
  | d :: r => uptoBulk d + uptoBulkAll r
def uptoBulkEntries {H : Type} : List (Lit × DataW H) → Nat
  | [] => 0
  | x :: r => uptoBulkEntry x + uptoBulkEntries r
def uptoBulkEntry {H : Type} : Lit × DataW H → Nat
  | (.string bytes, d) => bytes.length + uptoBulk d + 1
  | (_, d) => uptoBulk d + 1
 end
def uptoSmall : (H : Type) → List (DataW H) → Bool := fun _ ds => decide (uptoBulkAll ds ≤ 1048576)
def OpenSpec.upto (s : _root_.Go.ChangeSpec) : _root_.Go.OpenSpec := { _root_.Go.OpenSpec.ofChange s with cond := some uptoSmall }

/-- 'nunciolaw03.B64Decodes', WHERE WHAT IT READS IS OF BULK AT MOST 1048576: true; the input reads as it did. -/
def b64DecodesUptoRow : OpenClaim := { program := "ytkaijdhnnfldkab", sum := "fe50ad4fd4129eecad44feeee03922205c6a45095a6206b51ca845c7a5a4dbfc", func := "nuncio/nunciolaw03.B64Decodes", spec := "b64Decodes", apart := false, narrowed := true }
def B64DecodesUptoSaid : Prop := b64DecodesUptoRow.holds Try.pinned (OpenSpec.upto b64DecodesSpec)

/-- 'nunciolaw03.B64Back', WHERE WHAT IT READS IS OF BULK AT MOST 1048576: true; the input reads as it did. -/
def b64BackUptoRow : OpenClaim := { program := "ytkaijdhnnfldkab", sum := "fe50ad4fd4129eecad44feeee03922205c6a45095a6206b51ca845c7a5a4dbfc", func := "nuncio/nunciolaw03.B64Back", spec := "b64Back", apart := false, narrowed := true }
def B64BackUptoSaid : Prop := b64BackUptoRow.holds Try.pinned (OpenSpec.upto b64BackSpec)

/-- 'nunciolaw03.B64Joins', WHERE WHAT IT READS IS OF BULK AT MOST 1048576: true; the input reads as it did. -/
def b64JoinsUptoRow : OpenClaim := { program := "ytkaijdhnnfldkab", sum := "fe50ad4fd4129eecad44feeee03922205c6a45095a6206b51ca845c7a5a4dbfc", func := "nuncio/nunciolaw03.B64Joins", spec := "b64Joins", apart := false, narrowed := true }
def B64JoinsUptoSaid : Prop := b64JoinsUptoRow.holds Try.pinned (OpenSpec.upto b64JoinsSpec)

/-- 'nunciolaw17.WindowFirst', WHERE WHAT IT READS IS OF BULK AT MOST 1048576: true; the input reads as it did. -/
def windowFirstUptoRow : OpenClaim := { program := "ytkaijdhnnfldkab", sum := "fe50ad4fd4129eecad44feeee03922205c6a45095a6206b51ca845c7a5a4dbfc", func := "nuncio/nunciolaw17.WindowFirst", spec := "windowFirst", apart := false, narrowed := true }
def WindowFirstUptoSaid : Prop := windowFirstUptoRow.holds Try.pinned (OpenSpec.upto windowFirstSpec)

/-- 'nunciolaw17.WindowPlays', WHERE WHAT IT READS IS OF BULK AT MOST 1048576: true; the input reads as it did. -/
def windowPlaysUptoRow : OpenClaim := { program := "ytkaijdhnnfldkab", sum := "fe50ad4fd4129eecad44feeee03922205c6a45095a6206b51ca845c7a5a4dbfc", func := "nuncio/nunciolaw17.WindowPlays", spec := "windowPlays", apart := false, narrowed := true }
def WindowPlaysUptoSaid : Prop := windowPlaysUptoRow.holds Try.pinned (OpenSpec.upto windowPlaysSpec)

/-- 'nunciolaw17.WindowSums', WHERE WHAT IT READS IS OF BULK AT MOST 1048576: true; the input reads as it did. -/
def windowSumsUptoRow : OpenClaim := { program := "ytkaijdhnnfldkab", sum := "fe50ad4fd4129eecad44feeee03922205c6a45095a6206b51ca845c7a5a4dbfc", func := "nuncio/nunciolaw17.WindowSums", spec := "windowSums", apart := false, narrowed := true }
def WindowSumsUptoSaid : Prop := windowSumsUptoRow.holds Try.pinned (OpenSpec.upto windowSumsSpec)

end Rows
end Go.Proofs.Ytkaijdhnnfldkab
