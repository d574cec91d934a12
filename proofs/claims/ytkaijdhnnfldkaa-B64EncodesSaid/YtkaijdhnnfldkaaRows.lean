/-
  No cell of these rows narrows 'for every input' (looked for: loops, veiled, ifaces, maps, wideKeys, modest, calm, conditions, laid).
  DERIVED. THE GIVEN ROWS OF THIS SEAT. 6 by the template 'for every input the law returns true; each argument reads behind the call as it read before'; 0 by the template 'total and deterministic' (their statements: YtkaijdhnnfldkaaTotals.lean).
  GIVEN WITH THE SEED: the statements are not yours to turn. If you find one false, say at which input.
  Laid BY PROGRAM, IN A SANDBOX (cutbox-rows.mjs): the forced cells as the released guide's own fill.sh prints them over the translation e89e6d5f0bdce80a… (all of the seat's roots in one cut). By AI agents, Wed Nov 11 2026. No macro, syntax, notation, axiom, sorry.
-/
import Derived.Test.YtkaijdhnnfldkaaChecked
import GoSem.Claim
import GoSem.ClaimJoined
import GoSem.ClaimMapViews
import Derived.JoinedTies
import Derived.KernelRfl
namespace Go.Proofs.Ytkaijdhnnfldkaa
/- THE CELL 'sum', in the pinned program and in every row, IS THE sha256 OF THE DUMP (.gsa) THAT YtkaijdhnnfldkaaProg.lean LOADS. Nothing in Lean hashes anything: it is a label: what it is worth is what the hold of that sum in a sandbox is worth. -/
noncomputable def Try.pinned : Pinned := { name := "ytkaijdhnnfldkaa", sum := "e89e6d5f0bdce80ac823f8102489ec59369d78823c4301fd5f56ee196dddbb63", checked := Try.checked }
namespace Rows
def none {H : Type} : Left H := { results := [], args := [] }

/-- 'nunciolaw18.StreamNext': WHATEVER THE INPUT: true; the input reads as it did. -/
def streamNextSpec : ChangeSpec := { name := "streamNext", fn := fun _ => fun
  | [d1, d2] => { results := [.lit (.bool true)], args := [d1, d2] }
  | _ => none }
def streamNextRow : OpenClaim := { program := "ytkaijdhnnfldkaa", sum := "e89e6d5f0bdce80ac823f8102489ec59369d78823c4301fd5f56ee196dddbb63", func := "nuncio/nunciolaw18.StreamNext", spec := "streamNext", apart := false }
def StreamNextSaid : Prop := streamNextRow.holds Try.pinned (OpenSpec.ofChange streamNextSpec)

/-- ITS FALSE NEIGHBOUR: 'it returns false'. Refute it at one input. -/
def streamNextWrong : ChangeSpec := { name := "streamNext", fn := fun _ => fun
  | [d1, d2] => { results := [.lit (.bool false)], args := [d1, d2] }
  | _ => none }
def StreamNextWrongFalsely : Prop := streamNextRow.holds Try.pinned (OpenSpec.ofChange streamNextWrong)

/-- 'nunciolaw18.StreamAll': WHATEVER THE INPUT: true; the input reads as it did. -/
def streamAllSpec : ChangeSpec := { name := "streamAll", fn := fun _ => fun
  | [] => { results := [.lit (.bool true)], args := [] }
  | _ => none }
def streamAllRow : OpenClaim := { program := "ytkaijdhnnfldkaa", sum := "e89e6d5f0bdce80ac823f8102489ec59369d78823c4301fd5f56ee196dddbb63", func := "nuncio/nunciolaw18.StreamAll", spec := "streamAll", apart := false }
def StreamAllSaid : Prop := streamAllRow.holds Try.pinned (OpenSpec.ofChange streamAllSpec)

/-- ITS FALSE NEIGHBOUR: 'it returns false'. Refute it at one input. -/
def streamAllWrong : ChangeSpec := { name := "streamAll", fn := fun _ => fun
  | [] => { results := [.lit (.bool false)], args := [] }
  | _ => none }
def StreamAllWrongFalsely : Prop := streamAllRow.holds Try.pinned (OpenSpec.ofChange streamAllWrong)

/-- 'nunciolaw18.StreamRuns': WHATEVER THE INPUT: true; the input reads as it did. -/
def streamRunsSpec : ChangeSpec := { name := "streamRuns", fn := fun _ => fun
  | [d1, d2, d3] => { results := [.lit (.bool true)], args := [d1, d2, d3] }
  | _ => none }
def streamRunsRow : OpenClaim := { program := "ytkaijdhnnfldkaa", sum := "e89e6d5f0bdce80ac823f8102489ec59369d78823c4301fd5f56ee196dddbb63", func := "nuncio/nunciolaw18.StreamRuns", spec := "streamRuns", apart := false }
def StreamRunsSaid : Prop := streamRunsRow.holds Try.pinned (OpenSpec.ofChange streamRunsSpec)

/-- ITS FALSE NEIGHBOUR: 'it returns false'. Refute it at one input. -/
def streamRunsWrong : ChangeSpec := { name := "streamRuns", fn := fun _ => fun
  | [d1, d2, d3] => { results := [.lit (.bool false)], args := [d1, d2, d3] }
  | _ => none }
def StreamRunsWrongFalsely : Prop := streamRunsRow.holds Try.pinned (OpenSpec.ofChange streamRunsWrong)

/-- 'nunciolaw18.StreamMirrors': WHATEVER THE INPUT: true; the input reads as it did. -/
def streamMirrorsSpec : ChangeSpec := { name := "streamMirrors", fn := fun _ => fun
  | [d1, d2] => { results := [.lit (.bool true)], args := [d1, d2] }
  | _ => none }
def streamMirrorsRow : OpenClaim := { program := "ytkaijdhnnfldkaa", sum := "e89e6d5f0bdce80ac823f8102489ec59369d78823c4301fd5f56ee196dddbb63", func := "nuncio/nunciolaw18.StreamMirrors", spec := "streamMirrors", apart := false }
def StreamMirrorsSaid : Prop := streamMirrorsRow.holds Try.pinned (OpenSpec.ofChange streamMirrorsSpec)

/-- ITS FALSE NEIGHBOUR: 'it returns false'. Refute it at one input. -/
def streamMirrorsWrong : ChangeSpec := { name := "streamMirrors", fn := fun _ => fun
  | [d1, d2] => { results := [.lit (.bool false)], args := [d1, d2] }
  | _ => none }
def StreamMirrorsWrongFalsely : Prop := streamMirrorsRow.holds Try.pinned (OpenSpec.ofChange streamMirrorsWrong)

/-- 'nunciolaw18.StreamEnds': WHATEVER THE INPUT: true; the input reads as it did. -/
def streamEndsSpec : ChangeSpec := { name := "streamEnds", fn := fun _ => fun
  | [d] => { results := [.lit (.bool true)], args := [d] }
  | _ => none }
def streamEndsRow : OpenClaim := { program := "ytkaijdhnnfldkaa", sum := "e89e6d5f0bdce80ac823f8102489ec59369d78823c4301fd5f56ee196dddbb63", func := "nuncio/nunciolaw18.StreamEnds", spec := "streamEnds", apart := false }
def StreamEndsSaid : Prop := streamEndsRow.holds Try.pinned (OpenSpec.ofChange streamEndsSpec)

/-- ITS FALSE NEIGHBOUR: 'it returns false'. Refute it at one input. -/
def streamEndsWrong : ChangeSpec := { name := "streamEnds", fn := fun _ => fun
  | [d] => { results := [.lit (.bool false)], args := [d] }
  | _ => none }
def StreamEndsWrongFalsely : Prop := streamEndsRow.holds Try.pinned (OpenSpec.ofChange streamEndsWrong)

/-- 'nunciolaw03.B64Encodes': WHATEVER THE INPUT: true; the input reads as it did. -/
def b64EncodesSpec : ChangeSpec := { name := "b64Encodes", fn := fun _ => fun
  | [d] => { results := [.lit (.bool true)], args := [d] }
  | _ => none }
def b64EncodesRow : OpenClaim := { program := "ytkaijdhnnfldkaa", sum := "e89e6d5f0bdce80ac823f8102489ec59369d78823c4301fd5f56ee196dddbb63", func := "nuncio/nunciolaw03.B64Encodes", spec := "b64Encodes", apart := false }
def B64EncodesSaid : Prop := b64EncodesRow.holds Try.pinned (OpenSpec.ofChange b64EncodesSpec)

/-- ITS FALSE NEIGHBOUR: 'it returns false'. Refute it at one input. -/
def b64EncodesWrong : ChangeSpec := { name := "b64Encodes", fn := fun _ => fun
  | [d] => { results := [.lit (.bool false)], args := [d] }
  | _ => none }
def B64EncodesWrongFalsely : Prop := b64EncodesRow.holds Try.pinned (OpenSpec.ofChange b64EncodesWrong)

/- THE SECOND FORM. 'bulk': how many values and letters a reading holds, each counted each time it is reached (what is shared counts as often as it is met; a slice's spare places count too). A statement '..UptoSaid' is the law's where the arguments, and the package variables that the reading takes, are together of bulk at most 1048576: NARROWER than '..Said'. Prove '..Said' where nothing that the law and all that it calls make is longer than what came in: it says more and counts as full. Else prove '..UptoSaid'. A law counts once. -/
mutual
def uptoBulk {H : Type} : DataW H → Nat
  | .lit (.string bytes) => bytes.length + 1
  | .lit _ => 1
  | .nil => 1
  | .ptr d => uptoBulk d + 1
  | .slice elems spare => uptoBulkAll elems + uptoBulkAll spare + 1
  | .agg parts => uptoBulkAll parts + 1
  | .iface _ d => uptoBulk d + 1
  | .map entries => uptoBulkEntries entries + 1
  | .held _ => 1
def uptoBulkAll {H : Type} : List (DataW H) → Nat
  | [] => 0
  | d :: r => uptoBulk d + uptoBulkAll r
def uptoBulkEntries {H : Type} : List (Lit × DataW H) → Nat
  | [] => 0
  | x :: r => uptoBulkEntry x + uptoBulkEntries r
def uptoBulkEntry {H : Type} : Lit × DataW H → Nat
  | (.string bytes, d) => bytes.length + uptoBulk d + 1
  | (_, d) => uptoBulk d + 1
 end
def uptoSmall : (H : Type) → List (DataW H) → Bool := fun _ ds => decide (uptoBulkAll ds ≤ 1048576)
def OpenSpec.upto (s : _root_.Go.ChangeSpec) : _root_.Go.OpenSpec := { _root_.Go.OpenSpec.ofChange s with cond := some uptoSmall }

/-- 'nunciolaw18.StreamNext', WHERE WHAT IT READS IS OF BULK AT MOST 1048576: true; the input reads as it did. -/
def streamNextUptoRow : OpenClaim := { program := "ytkaijdhnnfldkaa", sum := "e89e6d5f0bdce80ac823f8102489ec59369d78823c4301fd5f56ee196dddbb63", func := "nuncio/nunciolaw18.StreamNext", spec := "streamNext", apart := false, narrowed := true }
def StreamNextUptoSaid : Prop := streamNextUptoRow.holds Try.pinned (OpenSpec.upto streamNextSpec)

/-- 'nunciolaw18.StreamAll', WHERE WHAT IT READS IS OF BULK AT MOST 1048576: true; the input reads as it did. -/
def streamAllUptoRow : OpenClaim := { program := "ytkaijdhnnfldkaa", sum := "e89e6d5f0bdce80ac823f8102489ec59369d78823c4301fd5f56ee196dddbb63", func := "nuncio/nunciolaw18.StreamAll", spec := "streamAll", apart := false, narrowed := true }
def StreamAllUptoSaid : Prop := streamAllUptoRow.holds Try.pinned (OpenSpec.upto streamAllSpec)

/-- 'nunciolaw18.StreamRuns', WHERE WHAT IT READS IS OF BULK AT MOST 1048576: true; the input reads as it did. -/
def streamRunsUptoRow : OpenClaim := { program := "ytkaijdhnnfldkaa", sum := "e89e6d5f0bdce80ac823f8102489ec59369d78823c4301fd5f56ee196dddbb63", func := "nuncio/nunciolaw18.StreamRuns", spec := "streamRuns", apart := false, narrowed := true }
def StreamRunsUptoSaid : Prop := streamRunsUptoRow.holds Try.pinned (OpenSpec.upto streamRunsSpec)

/-- 'nunciolaw18.StreamMirrors', WHERE WHAT IT READS IS OF BULK AT MOST 1048576: true; the input reads as it did. -/
def streamMirrorsUptoRow : OpenClaim := { program := "ytkaijdhnnfldkaa", sum := "e89e6d5f0bdce80ac823f8102489ec59369d78823c4301fd5f56ee196dddbb63", func := "nuncio/nunciolaw18.StreamMirrors", spec := "streamMirrors", apart := false, narrowed := true }
def StreamMirrorsUptoSaid : Prop := streamMirrorsUptoRow.holds Try.pinned (OpenSpec.upto streamMirrorsSpec)

/-- 'nunciolaw18.StreamEnds', WHERE WHAT IT READS IS OF BULK AT MOST 1048576: true; the input reads as it did. -/
def streamEndsUptoRow : OpenClaim := { program := "ytkaijdhnnfldkaa", sum := "e89e6d5f0bdce80ac823f8102489ec59369d78823c4301fd5f56ee196dddbb63", func := "nuncio/nunciolaw18.StreamEnds", spec := "streamEnds", apart := false, narrowed := true }
def StreamEndsUptoSaid : Prop := streamEndsUptoRow.holds Try.pinned (OpenSpec.upto streamEndsSpec)

/-- 'nunciolaw03.B64Encodes', WHERE WHAT IT READS IS OF BULK AT MOST 1048576: true; the input reads as it did. -/
def b64EncodesUptoRow : OpenClaim := { program := "ytkaijdhnnfldkaa", sum := "e89e6d5f0bdce80ac823f8102489ec59369d78823c4301fd5f56ee196dddbb63", func := "nuncio/nunciolaw03.B64Encodes", spec := "b64Encodes", apart := false, narrowed := true }
def B64EncodesUptoSaid : Prop := b64EncodesUptoRow.holds Try.pinned (OpenSpec.upto b64EncodesSpec)

end Rows
end Go.Proofs.Ytkaijdhnnfldkaa
