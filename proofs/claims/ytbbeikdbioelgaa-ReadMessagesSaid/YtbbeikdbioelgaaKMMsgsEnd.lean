/- ReadMessages: the walk and the contract of the reference's Read, joined. -/
import Derived.Test.YtbbeikdbioelgaaKMMsgs
import Derived.Test.YtbbeikdbioelgaaKMRefRead
set_option linter.unusedVariables false
namespace Go.Proofs.Ytbbeikdbioelgaa.M
open Go.RowKit Go.Maps
theorem refRead : RefRead := fun s w hs => read6_calls s w hs
theorem messages_all (W : World) (s : ByteArray) (hs : s.size ≤ 140737488351232) :
    Calls Try.prog 7 #[.string s] W fun e w' => e = .returned (.bool true) ∧ Below W.heap.size W w' := messages_row refRead W s hs
end Go.Proofs.Ytbbeikdbioelgaa.M
