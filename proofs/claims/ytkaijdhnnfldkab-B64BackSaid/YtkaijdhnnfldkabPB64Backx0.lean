-- Told by a program of ours out of Lean's print of the program.
import Derived.Test.YtkaijdhnnfldkabProg
import Derived.Below
import Derived.Deep.Draws
import Derived.Deep.AppendLies
import Derived.Maps.AppendAt
import Derived.OwnWalk
import Derived.Laws.BytesArg
import Derived.Laws.MakeOwn
import Derived.Laws.OwnMore
import Derived.Deep.OwnRows
import Derived.Tactics
import Derived.Lib.ConvBytes
import Derived.Laws.Slices
import Derived.WalkKit
import Derived.KernelRfl
import Derived.RowKit3
import Derived.Deep.LoopGhost
import Derived.Deep.QuietTactic
import Derived.BigQuiet
import Derived.WideLaws
import Derived.Deep.DeepCutAuto
import Derived.Deep.CutBlock
import Derived.Deep.RegionHeld3
import Derived.Laws.Rows
import Derived.Lib.AppendStr
import Derived.ArgAppend
import Derived.Laws.IdiomCopy
import Derived.OrdersHeld
import Derived.Laws.BitsLemmas
import Derived.RowKit
import Derived.Test.YtkaijdhnnfldkabWWords
import Derived.Test.YtkaijdhnnfldkabWLast
import Derived.Test.YtkaijdhnnfldkabWTab
import Derived.Test.YtkaijdhnnfldkabWFour
import Derived.Test.YtkaijdhnnfldkabWQPut
import Derived.Test.YtkaijdhnnfldkabWApart
import Derived.Test.YtkaijdhnnfldkabWArr
import Derived.Test.YtkaijdhnnfldkabWZeros
import Derived.Test.YtkaijdhnnfldkabWFoot
import Derived.Test.YtkaijdhnnfldkabWKept
import Derived.Test.YtkaijdhnnfldkabWShare
import Derived.Test.YtkaijdhnnfldkabWN
import Derived.Test.YtkaijdhnnfldkabWFootNe
import Derived.Test.YtkaijdhnnfldkabWAt
import Derived.Test.YtkaijdhnnfldkabWEqStruct
import Derived.Test.YtkaijdhnnfldkabWRepsOne
import Derived.Test.YtkaijdhnnfldkabWInv
import Derived.Test.YtkaijdhnnfldkabWInvWords
import Derived.Test.YtkaijdhnnfldkabWGuard
import Derived.Test.YtkaijdhnnfldkabWNEv
import Derived.Test.YtkaijdhnnfldkabWMore
import Derived.Test.YtkaijdhnnfldkabWMine
namespace Go.Proofs.Ytkaijdhnnfldkab.PB64Back
open Go.RowKit Go.Proofs.YtkaijdhnnfldkabW.PrintWords Go.Proofs.YtkaijdhnnfldkabW.PrintLast Go.Proofs.YtkaijdhnnfldkabW.PrintMore
attribute [local go_sem] max2_int min2_int max_two min_two max_three min_three max_four min_four   -- for this text's walks alone
set_option linter.unusedVariables false
set_option linter.unusedSimpArgs false



def errW : Option Int → Value
  | none => .nilIface
  | some c => .iface 0 (.int .i64 c)
theorem errW_none : errW none = .nilIface := rfl
theorem errW_some (c : Int) : errW (some c) = .iface 0 (.int .i64 c) := rfl

-- the values' own types

end Go.Proofs.Ytkaijdhnnfldkab.PB64Back
