/- All fifty steps of the five states (and those beside them) lead where the document's table says; no condition. -/
import Derived.Test.YtkaijdhnnfldkaaPStreamAllx2
namespace Go.Proofs.Ytkaijdhnnfldkaa.Pure
open Go.RowKit Go.Proofs.Ytkaijdhnnfldkaa.PStreamAll Go.Proofs.YtkaijdhnnfldkaaW.PrintWords Go.Proofs.YtkaijdhnnfldkaaW.PrintLast

theorem StreamAll : nunciolaw18_StreamAll.Pure := ⟨200, by decide +kernel⟩

end Go.Proofs.Ytkaijdhnnfldkaa.Pure
