-- Told by a program of ours out of Lean's print of the program.
import Derived.Test.YtkaijdhnnfldkaaProg
import Derived.Below
import Derived.Deep.Draws
import Derived.Deep.AppendLies
import Derived.Maps.AppendAt
import Derived.OwnWalk
import Derived.Laws.BytesArg
import Derived.Laws.MakeOwn
import Derived.Laws.OwnMore
import Derived.Deep.OwnRows
import Derived.Tactics
import Derived.Lib.ConvBytes
import Derived.Laws.Slices
import Derived.WalkKit
import Derived.KernelRfl
import Derived.RowKit3
import Derived.Deep.LoopGhost
import Derived.Deep.QuietTactic
import Derived.BigQuiet
import Derived.WideLaws
import Derived.Deep.DeepCutAuto
import Derived.Deep.CutBlock
import Derived.Deep.RegionHeld3
import Derived.Laws.Rows
import Derived.Lib.AppendStr
import Derived.ArgAppend
import Derived.Laws.IdiomCopy
import Derived.OrdersHeld
import Derived.Laws.BitsLemmas
import Derived.RowKit
import Derived.Test.YtkaijdhnnfldkaaWWords
import Derived.Test.YtkaijdhnnfldkaaWLast
import Derived.Test.YtkaijdhnnfldkaaWTab
import Derived.Test.YtkaijdhnnfldkaaWFour
import Derived.Test.YtkaijdhnnfldkaaWQPut
import Derived.Test.YtkaijdhnnfldkaaWApart
import Derived.Test.YtkaijdhnnfldkaaWArr
import Derived.Test.YtkaijdhnnfldkaaWZeros
import Derived.Test.YtkaijdhnnfldkaaWFoot
import Derived.Test.YtkaijdhnnfldkaaWKept
import Derived.Test.YtkaijdhnnfldkaaWShare
import Derived.Test.YtkaijdhnnfldkaaWN
import Derived.Test.YtkaijdhnnfldkaaWFootNe
import Derived.Test.YtkaijdhnnfldkaaWAt
import Derived.Test.YtkaijdhnnfldkaaWEqStruct
import Derived.Test.YtkaijdhnnfldkaaWRepsOne
import Derived.Test.YtkaijdhnnfldkaaWInv
import Derived.Test.YtkaijdhnnfldkaaWInvWords
import Derived.Test.YtkaijdhnnfldkaaWGuard
import Derived.Test.YtkaijdhnnfldkaaWNEv
import Derived.Test.YtkaijdhnnfldkaaWMore
import Derived.Test.YtkaijdhnnfldkaaWMine
namespace Go.Proofs.Ytkaijdhnnfldkaa.PB64Encodes
open Go.RowKit Go.Proofs.YtkaijdhnnfldkaaW.PrintWords Go.Proofs.YtkaijdhnnfldkaaW.PrintLast Go.Proofs.YtkaijdhnnfldkaaW.PrintMore
attribute [local go_sem] max2_int min2_int max_two min_two max_three min_three max_four min_four   -- for this text's walks alone
set_option linter.unusedVariables false
set_option linter.unusedSimpArgs false



def errW : Option Int → Value
  | none => .nilIface
  | some c => .iface 0 (.int .i64 c)
theorem errW_none : errW none = .nilIface := rfl
theorem errW_some (c : Int) : errW (some c) = .iface 0 (.int .i64 c) := rfl

theorem info5 : (Try.prog.info? 5).map (fun i => (i.zero, i.size, i.bytes)) = some (some (.int .u8 0), 1, 1) := by kernel_rfl
-- the values' own types

end Go.Proofs.Ytkaijdhnnfldkaa.PB64Encodes
