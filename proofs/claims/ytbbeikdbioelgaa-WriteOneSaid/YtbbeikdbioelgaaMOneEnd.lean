/- WriteOne's walk, with its plain law. -/
import Derived.Test.YtbbeikdbioelgaaMOne
import Derived.Test.YtbbeikdbioelgaaMOneLaw
set_option linter.unusedVariables false
namespace Go.Proofs.Ytbbeikdbioelgaa.M
open Go.RowKit
theorem one_all (W : World) (u : Value) (r : Msg) (hu : MsgAt W u r) (iu : MsgIn r) (v : Value) (s : Msg) (hv : MsgAt W v s) (iv : MsgIn s) :
    Calls Try.prog 4 #[u, v] W fun e w' => e = .returned (.bool true) ∧ Below W.heap.size W w' := one_row oneLaw W u r hu iu v s hv iv
end Go.Proofs.Ytbbeikdbioelgaa.M
