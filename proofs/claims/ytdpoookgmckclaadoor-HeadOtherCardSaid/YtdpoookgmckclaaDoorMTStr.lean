/- Small laws of texts and their signs. -/
import Derived.Test.YtdpoookgmckclaaDoorMJDraw
import Derived.WalkSmall
import Derived.Lib.Strings
import Derived.Deep.DeepMust
set_option linter.unusedVariables false
set_option linter.unusedSimpArgs false
namespace Go.Proofs.YtdpoookgmckclaaDoor.M
open Go.RowKit Go.Maps Go.Proofs.YtdpoookgmckclaaDoorW.PrintWords Go.Proofs.YtdpoookgmckclaaDoorW.PrintLast Go.Proofs.YtdpoookgmckclaaDoorW.PrintMore
attribute [local go_sem] max2_int min2_int max_two min_two max_three min_three max_four min_four
attribute [local go_sem ↓] Go.wp_at_zero Go.wp_at_succ
theorem bt_getD (s : ByteArray) (j : Nat) : (bytesOf s).getD j 0 = bt s (j : Int) := by
  have := rd_bytesOf s (j : Int)
  unfold rd at this
  simpa using this
theorem text_some {s : ByteArray} (h : s.size ≠ 0) : s.toList.isEmpty = false := by
  rw [Lib.toList_data]
  cases hl : s.data.toList with
  | nil => exact absurd (by have := Lib.size_eq s; rw [hl] at this; exact this) h
  | cons _ _ => rfl
theorem size_zero {s : ByteArray} (h : s.size = 0) : s = ⟨#[]⟩ := by
  obtain ⟨d⟩ := s
  have : d = #[] := Array.eq_empty_of_size_eq_zero h
  rw [this]
theorem bt_nat (s : ByteArray) (j : Nat) (hj : j < s.size) : ((s[j]'hj).toNat : Int) = bt s (j : Int) := bt_at s (j : Int) hj
theorem take_bytes (s : ByteArray) (j : Nat) (hj : j < s.size) : (bytesOf s).take (j + 1) = (bytesOf s).take j ++ [bt s (j : Int)] := by
  have hl : j < (bytesOf s).length := by rw [bytesOf_length]; exact hj
  have hb := bt_getD s j
  rw [List.getD_eq_getElem?_getD, List.getElem?_eq_getElem hl, Option.getD_some] at hb
  rw [List.take_succ_eq_append_getElem hl, hb]
end Go.Proofs.YtdpoookgmckclaaDoor.M
