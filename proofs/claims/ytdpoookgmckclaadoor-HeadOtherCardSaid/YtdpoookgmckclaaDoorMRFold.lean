/- Walk of nuncioref02.Fold. -/
import Derived.Test.YtdpoookgmckclaaDoorMTFold
set_option linter.unusedVariables false
set_option linter.unusedSimpArgs false
namespace Go.Proofs.YtdpoookgmckclaaDoor.M
open Go.RowKit Go.Maps Go.Proofs.YtdpoookgmckclaaDoorW.PrintWords Go.Proofs.YtdpoookgmckclaaDoorW.PrintLast Go.Proofs.YtdpoookgmckclaaDoorW.PrintMore
attribute [local go_sem] max2_int min2_int max_two min_two max_three min_three max_four min_four
attribute [local go_sem ↓] Go.wp_at_zero Go.wp_at_succ
def inI (c a b : Int) : Bool := decide (a ≤ c ∧ c ≤ b)
set_option maxHeartbeats 2000000 in
theorem in_calls (c a b : Int) (w : World) : Calls Tryd.prog 30 #[.int .u8 c, .int .u8 a, .int .u8 b] w fun e w' => e = .returned (.bool (inI c a b)) ∧ w = w' := by
  go_enter Tryd.func30, Tryd.ntmps30
  go_wp2_with fail
  all_goals
    go_ret
    refine ⟨congrArg (fun x => Ending.returned (.bool x)) ?_, rfl⟩
    simp only [inI]
    rw [Bool.eq_iff_iff]
    simp
    try omega
set_option maxHeartbeats 4000000 in
set_option maxRecDepth 100000 in
theorem refFold_calls (s : ByteArray) (w : World) (hs : s.size ≤ 1000000000000) :
    Calls Tryd.prog 39 #[.string s] w fun e w' => e = .returned (.string (foldS s)) ∧ Below w.heap.size w w' := by
  have HB := Aside0.mk (Below.refl w.heap.size w)
  have HS := Lib.hid hs
  have q3 : (s.size : Int) ≤ 1000000000000 := by omega
  clear hs
  go_enter Tryd.func39, Tryd.ntmps39
  go_wp2_with fail
  go_loopg [3, 4] s.size (fun kq v3 v4 w' => ∃ (j : Nat) (xs : List Int), v4 = .int .i64 j ∧ Aside0 (kq + j = s.size) ∧ Aside0 (xs = ((bytesOf s).take j).map foldI) ∧ Aside0 (B8 w' w.heap.size (fun _ => True) v3 xs) ∧ Aside0 (Below w.heap.size w w'))
  case atStart => exact ⟨0, [], rfl, ⟨rfl⟩, ⟨rfl⟩, ⟨Kd.R_nil _ _ _ _ _⟩, HB⟩
  case round =>
    clear HB
    obtain ⟨j, xs, rfl, HK, HX, HO, HB⟩ := hrel
    obtain ⟨A3, c3, rfl⟩ := Kd.R_slice HO.out
    cases gk with
    | zero =>
      obtain rfl : j = s.size := by have := HK.out; omega
      have hst := strOf HO.out
      have HT := Lib.hid (show strOfNums xs = foldS s by rw [HX.out, List.take_of_length_le (by rw [bytesOf_length]; omega)]; rfl)
      go_wp2_with fail
      go_ret
      exact ⟨congrArg (fun x => Ending.returned (.string x)) HT.out, HB.out⟩
    | succ k =>
      have hj : j < s.size := by have := HK.out; omega
      obtain ⟨c0, c1⟩ := bt_range s j
      have HT := Lib.hid (take_bytes s j hj)
      have hx := bt_nat s j hj
      have HL1 := Lib.hid (show (xs.length + 1) * 1 ≤ 140737488355328 by rw [HX.out, List.length_map, List.length_take]; have := HS.out; omega)
      obtain ⟨c, hc⟩ : ∃ c, bt s (j : Int) = c := ⟨_, rfl⟩
      rw [hc] at hx c0 c1
      have HC := Lib.hid hc
      have q1 : (0 : Int) ≤ (j : Int) := by omega
      have q2 : (j : Int) < (s.size : Int) := by omega
      clear hc
      go_wp2_with fail
      refine (in_calls c 65 90 _).mono ?_
      rintro e w1 ⟨rfl, hw1⟩
      subst hw1
      cases hg : inI c 65 90 with
      | false =>
        have hf : foldI c = c := by
          unfold foldI
          rw [if_neg]
          unfold inI at hg
          exact of_decide_eq_false hg
        have HX2 := Aside0.mk (show xs ++ [c] = ((bytesOf s).take (j + 1)).map foldI by rw [HT.out, List.map_append, ← HX.out, List.map_singleton, HC.out, hf])
        clear hg hf
        go_wp2_with (((with_reducible refine gate_builtin (b := .append) (xs := #[.tmp 19, .tmp 21]) rfl ?_); at_builtin; go_must (refine app8 (p := c) rfl (.tmp 19) (.tmp 21) rfl rfl rfl HO.out HB.out (fun _ _ _ => trivial) (below_size HB.out) HL1.out ?_; intro va wa hoa hba hga hata; have HO1 := Aside0.mk hoa; have HB1 := Aside0.mk hba; clear hoa hba hga hata)))
        go_roundg k
        case measure => omega
        case rel => exact ⟨j + 1, _, by go_num, ⟨by have := HK.out; omega⟩, HX2, HO1, HB1⟩
      | true =>
        have hi : 65 ≤ c ∧ c ≤ 90 := by
          unfold inI at hg
          exact of_decide_eq_true hg
        have hf : foldI c = c + 32 := if_pos hi
        have HX2 := Aside0.mk (show xs ++ [c + 32] = ((bytesOf s).take (j + 1)).map foldI by rw [HT.out, List.map_append, ← HX.out, List.map_singleton, HC.out, hf])
        obtain ⟨i1, i2⟩ := hi
        clear hg hf
        go_wp2_with (((with_reducible refine gate_builtin (b := .append) (xs := #[.tmp 19, .tmp 21]) rfl ?_); at_builtin; go_must (refine app8 (p := c + 32) rfl (.tmp 19) (.tmp 21) rfl rfl rfl HO.out HB.out (fun _ _ _ => trivial) (below_size HB.out) HL1.out ?_; intro va wa hoa hba hga hata; have HO1 := Aside0.mk hoa; have HB1 := Aside0.mk hba; clear hoa hba hga hata)))
        go_roundg k
        case measure => omega
        case rel => exact ⟨j + 1, _, by go_num, ⟨by have := HK.out; omega⟩, HX2, HO1, HB1⟩
end Go.Proofs.YtdpoookgmckclaaDoor.M
