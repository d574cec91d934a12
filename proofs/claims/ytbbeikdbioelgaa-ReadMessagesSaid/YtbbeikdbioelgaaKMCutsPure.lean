/- The plain law of ReadCuts: what was read is read of a longer text just so. -/
import Derived.Test.YtbbeikdbioelgaaKMAwake6
import Derived.Test.YtbbeikdbioelgaaKMSame
import Derived.Laws.Concat
set_option linter.unusedVariables false
set_option linter.unusedSimpArgs false
namespace Go.Proofs.Ytbbeikdbioelgaa.M
open Go.RowKit Go.Maps Go.Proofs.YtbbeikdbioelgaaW.PrintWords Go.Proofs.YtbbeikdbioelgaaW.PrintLast Go.Proofs.YtbbeikdbioelgaaW.PrintMore
section
variable {s' s : ByteArray}
end
section
variable {s : ByteArray} {c : Int}
theorem nameR_err (K : Nat) : ∀ {b : List Int} {part nx a : Int}, nameR K s b part nx a = .error c → c ≠ 0 := by
  induction K with
  | zero => intro b part nx a h; have := Except.error.inj h; omega
  | succ K ih =>
    intro b part nx a h
    unfold nameR at h
    repeat' split at h
    all_goals first | exact ih h | (have := Except.error.inj h; omega) | exact absurd h (by simp)
theorem bareR_err (K : Nat) : ∀ {b : List Int} {a : Int}, bareR K s b a = .error c → c ≠ 0 := by
  induction K with
  | zero => intro b a h; have := Except.error.inj h; omega
  | succ K ih =>
    intro b a h
    unfold bareR at h
    repeat' split at h
    all_goals first | exact ih h | (have := Except.error.inj h; omega) | exact absurd h (by simp)
end
end Go.Proofs.Ytbbeikdbioelgaa.M
