/-
  No cell of these rows narrows 'for every input' (looked for: loops, veiled, ifaces, maps, wideKeys, modest, calm, conditions, laid).
  DERIVED. THE GIVEN ROWS OF THIS SEAT. 5 by the template 'for every input the law returns true; each argument reads behind the call as it read before'; 0 by the template 'total and deterministic' (their statements: YtfoflodgegehfaaTotals.lean).
  GIVEN WITH THE SEED: the statements are not yours to turn. If you find one false, say at which input.
  Laid BY PROGRAM, IN A SANDBOX (cutbox-rows.mjs): the forced cells as the released guide's own fill.sh prints them over the translation 9996a4e0ff1e8b38… (all of the seat's roots in one cut). By AI agents, Wed Nov 11 2026. No macro, syntax, notation, axiom, sorry.
-/
import Derived.Test.YtfoflodgegehfaaChecked
import GoSem.Claim
import GoSem.ClaimJoined
import GoSem.ClaimMapViews
import Derived.JoinedTies
import Derived.KernelRfl
namespace Go.Proofs.Ytfoflodgegehfaa
/- THE CELL 'sum', in the pinned program and in every row, IS THE sha256 OF THE DUMP (.gsa) THAT YtfoflodgegehfaaProg.lean LOADS. Nothing in Lean hashes anything: it is a label: what it is worth is what the hold of that sum in a sandbox is worth. -/
noncomputable def Try.pinned : Pinned := { name := "ytfoflodgegehfaa", sum := "9996a4e0ff1e8b388dfcc733eb1d34399bd5b71e1e872ab02504eb13ade8a023", checked := Try.checked }
namespace Rows
def none {H : Type} : Left H := { results := [], args := [] }

/-- 'nunciolaw21.RouteSplits': WHATEVER THE INPUT: true; the input reads as it did. -/
def routeSplitsSpec : ChangeSpec := { name := "routeSplits", fn := fun _ => fun
  | [d1, d2, d3] => { results := [.lit (.bool true)], args := [d1, d2, d3] }
  | _ => none }
def routeSplitsRow : OpenClaim := { program := "ytfoflodgegehfaa", sum := "9996a4e0ff1e8b388dfcc733eb1d34399bd5b71e1e872ab02504eb13ade8a023", func := "nuncio/nunciolaw21.RouteSplits", spec := "routeSplits", inPlace := ["internal/bytealg.IndexByteString", "internal/bytealg.IndexString"], unfollowed := true, recurses := true, named := ["internal/bytealg.MaxLen"], apart := false }
def RouteSplitsSaid : Prop := routeSplitsRow.holds Try.pinned (OpenSpec.ofChange routeSplitsSpec)

/-- ITS FALSE NEIGHBOUR: 'it returns false'. Refute it at one input. -/
def routeSplitsWrong : ChangeSpec := { name := "routeSplits", fn := fun _ => fun
  | [d1, d2, d3] => { results := [.lit (.bool false)], args := [d1, d2, d3] }
  | _ => none }
def RouteSplitsWrongFalsely : Prop := routeSplitsRow.holds Try.pinned (OpenSpec.ofChange routeSplitsWrong)

/-- 'nunciolaw21.RouteAsks': WHATEVER THE INPUT: true; the input reads as it did. -/
def routeAsksSpec : ChangeSpec := { name := "routeAsks", fn := fun _ => fun
  | [d1, d2] => { results := [.lit (.bool true)], args := [d1, d2] }
  | _ => none }
def routeAsksRow : OpenClaim := { program := "ytfoflodgegehfaa", sum := "9996a4e0ff1e8b388dfcc733eb1d34399bd5b71e1e872ab02504eb13ade8a023", func := "nuncio/nunciolaw21.RouteAsks", spec := "routeAsks", inPlace := ["internal/bytealg.IndexByteString", "internal/bytealg.IndexString"], unfollowed := true, recurses := true, named := ["internal/bytealg.MaxLen"], apart := false }
def RouteAsksSaid : Prop := routeAsksRow.holds Try.pinned (OpenSpec.ofChange routeAsksSpec)

/-- ITS FALSE NEIGHBOUR: 'it returns false'. Refute it at one input. -/
def routeAsksWrong : ChangeSpec := { name := "routeAsks", fn := fun _ => fun
  | [d1, d2] => { results := [.lit (.bool false)], args := [d1, d2] }
  | _ => none }
def RouteAsksWrongFalsely : Prop := routeAsksRow.holds Try.pinned (OpenSpec.ofChange routeAsksWrong)

/-- 'nunciolaw21.RouteBoth': WHATEVER THE INPUT: true; the input reads as it did. -/
def routeBothSpec : ChangeSpec := { name := "routeBoth", fn := fun _ => fun
  | [d] => { results := [.lit (.bool true)], args := [d] }
  | _ => none }
def routeBothRow : OpenClaim := { program := "ytfoflodgegehfaa", sum := "9996a4e0ff1e8b388dfcc733eb1d34399bd5b71e1e872ab02504eb13ade8a023", func := "nuncio/nunciolaw21.RouteBoth", spec := "routeBoth", inPlace := ["internal/bytealg.IndexByteString", "internal/bytealg.IndexString"], unfollowed := true, recurses := true, named := ["internal/bytealg.MaxLen"], apart := false }
def RouteBothSaid : Prop := routeBothRow.holds Try.pinned (OpenSpec.ofChange routeBothSpec)

/-- ITS FALSE NEIGHBOUR: 'it returns false'. Refute it at one input. -/
def routeBothWrong : ChangeSpec := { name := "routeBoth", fn := fun _ => fun
  | [d] => { results := [.lit (.bool false)], args := [d] }
  | _ => none }
def RouteBothWrongFalsely : Prop := routeBothRow.holds Try.pinned (OpenSpec.ofChange routeBothWrong)

/-- 'nunciolaw21.RouteOrder': WHATEVER THE INPUT: true; the input reads as it did. -/
def routeOrderSpec : ChangeSpec := { name := "routeOrder", fn := fun _ => fun
  | [d1, d2, d3] => { results := [.lit (.bool true)], args := [d1, d2, d3] }
  | _ => none }
def routeOrderRow : OpenClaim := { program := "ytfoflodgegehfaa", sum := "9996a4e0ff1e8b388dfcc733eb1d34399bd5b71e1e872ab02504eb13ade8a023", func := "nuncio/nunciolaw21.RouteOrder", spec := "routeOrder", inPlace := ["internal/bytealg.IndexByteString", "internal/bytealg.IndexString"], unfollowed := true, recurses := true, named := ["internal/bytealg.MaxLen"], apart := false }
def RouteOrderSaid : Prop := routeOrderRow.holds Try.pinned (OpenSpec.ofChange routeOrderSpec)

/-- ITS FALSE NEIGHBOUR: 'it returns false'. Refute it at one input. -/
def routeOrderWrong : ChangeSpec := { name := "routeOrder", fn := fun _ => fun
  | [d1, d2, d3] => { results := [.lit (.bool false)], args := [d1, d2, d3] }
  | _ => none }
def RouteOrderWrongFalsely : Prop := routeOrderRow.holds Try.pinned (OpenSpec.ofChange routeOrderWrong)

/-- 'nunciolaw21.RouteParams': WHATEVER THE INPUT: true; the input reads as it did. -/
def routeParamsSpec : ChangeSpec := { name := "routeParams", fn := fun _ => fun
  | [d1, d2, d3] => { results := [.lit (.bool true)], args := [d1, d2, d3] }
  | _ => none }
def routeParamsRow : OpenClaim := { program := "ytfoflodgegehfaa", sum := "9996a4e0ff1e8b388dfcc733eb1d34399bd5b71e1e872ab02504eb13ade8a023", func := "nuncio/nunciolaw21.RouteParams", spec := "routeParams", inPlace := ["internal/bytealg.IndexByteString", "internal/bytealg.IndexString"], unfollowed := true, recurses := true, named := ["internal/bytealg.MaxLen"], apart := false }
def RouteParamsSaid : Prop := routeParamsRow.holds Try.pinned (OpenSpec.ofChange routeParamsSpec)

/-- ITS FALSE NEIGHBOUR: 'it returns false'. Refute it at one input. -/
def routeParamsWrong : ChangeSpec := { name := "routeParams", fn := fun _ => fun
  | [d1, d2, d3] => { results := [.lit (.bool false)], args := [d1, d2, d3] }
  | _ => none }
def RouteParamsWrongFalsely : Prop := routeParamsRow.holds Try.pinned (OpenSpec.ofChange routeParamsWrong)

/- THE SECOND FORM. 'bulk': how many values and letters a reading holds, each counted each time it is reached (what is shared counts as often as it is met; a slice's spare places count too). A statement '..UptoSaid' is the law's where the arguments, and the package variables that the reading takes, are together of bulk at most 1048576: NARROWER than '..Said'. Prove '..Said' where nothing that the law and all that it calls make is longer than what came in: it says more and counts as full. Else prove '..UptoSaid'. A law counts once. -/
mutual
def uptoBulk {H : Type} : DataW H → Nat
  | .lit (.string bytes) => bytes.length + 1
  | .lit _ => 1
  | .nil => 1
  | .ptr d => uptoBulk d + 1
  | .slice elems spare => uptoBulkAll elems + uptoBulkAll spare + 1
  | .agg parts => uptoBulkAll parts + 1
  | .iface _ d => uptoBulk d + 1
  | .map entries => uptoBulkEntries entries + 1
  | .held _ => 1
def uptoBulkAll {H : Type} : List (DataW H) → Nat
  | [] => 0
  | d :: r => uptoBulk d + uptoBulkAll r
def uptoBulkEntries {H : Type} : List (Lit × DataW H) → Nat
  | [] => 0
  | x :: r => uptoBulkEntry x + uptoBulkEntries r
def uptoBulkEntry {H : Type} : Lit × DataW H → Nat
  | (.string bytes, d) => bytes.length + uptoBulk d + 1
  | (_, d) => uptoBulk d + 1
 end
def uptoSmall : (H : Type) → List (DataW H) → Bool := fun _ ds => decide (uptoBulkAll ds ≤ 1048576)
def OpenSpec.upto (s : _root_.Go.ChangeSpec) : _root_.Go.OpenSpec := { _root_.Go.OpenSpec.ofChange s with cond := some uptoSmall }

/-- 'nunciolaw21.RouteSplits', WHERE WHAT IT READS IS OF BULK AT MOST 1048576: true; the input reads as it did. -/
def routeSplitsUptoRow : OpenClaim := { program := "ytfoflodgegehfaa", sum := "9996a4e0ff1e8b388dfcc733eb1d34399bd5b71e1e872ab02504eb13ade8a023", func := "nuncio/nunciolaw21.RouteSplits", spec := "routeSplits", inPlace := ["internal/bytealg.IndexByteString", "internal/bytealg.IndexString"], unfollowed := true, recurses := true, named := ["internal/bytealg.MaxLen"], apart := false, narrowed := true }
def RouteSplitsUptoSaid : Prop := routeSplitsUptoRow.holds Try.pinned (OpenSpec.upto routeSplitsSpec)

/-- 'nunciolaw21.RouteAsks', WHERE WHAT IT READS IS OF BULK AT MOST 1048576: true; the input reads as it did. -/
def routeAsksUptoRow : OpenClaim := { program := "ytfoflodgegehfaa", sum := "9996a4e0ff1e8b388dfcc733eb1d34399bd5b71e1e872ab02504eb13ade8a023", func := "nuncio/nunciolaw21.RouteAsks", spec := "routeAsks", inPlace := ["internal/bytealg.IndexByteString", "internal/bytealg.IndexString"], unfollowed := true, recurses := true, named := ["internal/bytealg.MaxLen"], apart := false, narrowed := true }
def RouteAsksUptoSaid : Prop := routeAsksUptoRow.holds Try.pinned (OpenSpec.upto routeAsksSpec)

/-- 'nunciolaw21.RouteBoth', WHERE WHAT IT READS IS OF BULK AT MOST 1048576: true; the input reads as it did. -/
def routeBothUptoRow : OpenClaim := { program := "ytfoflodgegehfaa", sum := "9996a4e0ff1e8b388dfcc733eb1d34399bd5b71e1e872ab02504eb13ade8a023", func := "nuncio/nunciolaw21.RouteBoth", spec := "routeBoth", inPlace := ["internal/bytealg.IndexByteString", "internal/bytealg.IndexString"], unfollowed := true, recurses := true, named := ["internal/bytealg.MaxLen"], apart := false, narrowed := true }
def RouteBothUptoSaid : Prop := routeBothUptoRow.holds Try.pinned (OpenSpec.upto routeBothSpec)

/-- 'nunciolaw21.RouteOrder', WHERE WHAT IT READS IS OF BULK AT MOST 1048576: true; the input reads as it did. -/
def routeOrderUptoRow : OpenClaim := { program := "ytfoflodgegehfaa", sum := "9996a4e0ff1e8b388dfcc733eb1d34399bd5b71e1e872ab02504eb13ade8a023", func := "nuncio/nunciolaw21.RouteOrder", spec := "routeOrder", inPlace := ["internal/bytealg.IndexByteString", "internal/bytealg.IndexString"], unfollowed := true, recurses := true, named := ["internal/bytealg.MaxLen"], apart := false, narrowed := true }
def RouteOrderUptoSaid : Prop := routeOrderUptoRow.holds Try.pinned (OpenSpec.upto routeOrderSpec)

/-- 'nunciolaw21.RouteParams', WHERE WHAT IT READS IS OF BULK AT MOST 1048576: true; the input reads as it did. -/
def routeParamsUptoRow : OpenClaim := { program := "ytfoflodgegehfaa", sum := "9996a4e0ff1e8b388dfcc733eb1d34399bd5b71e1e872ab02504eb13ade8a023", func := "nuncio/nunciolaw21.RouteParams", spec := "routeParams", inPlace := ["internal/bytealg.IndexByteString", "internal/bytealg.IndexString"], unfollowed := true, recurses := true, named := ["internal/bytealg.MaxLen"], apart := false, narrowed := true }
def RouteParamsUptoSaid : Prop := routeParamsUptoRow.holds Try.pinned (OpenSpec.upto routeParamsSpec)

end Rows
end Go.Proofs.Ytfoflodgegehfaa
