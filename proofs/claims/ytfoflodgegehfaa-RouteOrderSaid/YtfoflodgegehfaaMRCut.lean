/- Walks of nuncioref21.cut, Split. -/
import Derived.Test.YtfoflodgegehfaaMCut
set_option linter.unusedVariables false
set_option linter.unusedSimpArgs false
namespace Go.Proofs.Ytfoflodgegehfaa.M
open Go.RowKit Go.Maps Go.Proofs.YtfoflodgegehfaaW.PrintWords Go.Proofs.YtfoflodgegehfaaW.PrintLast Go.Proofs.YtfoflodgegehfaaW.PrintMore
attribute [local go_sem] max2_int min2_int max_two min_two max_three min_three max_four min_four
attribute [local go_sem ↓] Go.wp_at_zero Go.wp_at_succ
theorem cut_found (s : ByteArray) (d : Int) (j : Nat) (hj : j < s.size) (h : ∀ c ∈ (bytesOf s).take j, c ≠ d) (e : bt s (j : Int) = d) : cutE s d = .tuple #[.string (s.extract 0 j), .string (s.extract (j + 1) s.size), .bool true] := by
  have hs : bytesOf s = (bytesOf s).take j ++ d :: (bytesOf s).drop (j + 1) := by
    rw [← e, ← drop_bytes s j hj, List.take_append_drop]
  have hl : ((bytesOf s).take j).length = j := by rw [List.length_take, bytesOf_length]; omega
  have hh : headI (bytesOf s) d = (bytesOf s).take j := by
    have := List.takeWhile_append_of_pos (p := fun x : Int => x != d) (l₁ := (bytesOf s).take j) (l₂ := d :: (bytesOf s).drop (j + 1)) (by intro c hc; simp [h c hc])
    rw [← hs] at this
    unfold headI
    rw [this]
    simp
  have hc : (bytesOf s).contains d = true := by rw [hs]; simp
  unfold cutE tailI
  rw [if_pos hc, hh, hl, ← tb_take, tb_str, ← tb_drop, tb_str]
theorem cut_nowhere (s : ByteArray) (d : Int) (h : ∀ c ∈ bytesOf s, c ≠ d) : cutE s d = .tuple #[.string s, .string ⟨#[]⟩, .bool false] := by
  unfold cutE
  rw [if_neg]
  intro hc
  have := List.contains_iff_mem.1 hc
  exact h d this rfl
set_option maxHeartbeats 4000000 in
set_option maxRecDepth 100000 in
theorem refCut_calls (s : ByteArray) (d : Int) (w : World) (hs : s.size ≤ 1000000000000) :
    Calls Try.prog 21 #[.string s, .int .u8 d] w fun e w' => e = .returned (cutE s d) ∧ Below w.heap.size w w' := by
  have HB := Aside0.mk (Below.refl w.heap.size w)
  obtain ⟨V, hV⟩ : ∃ V, cutE s d = V := ⟨_, rfl⟩
  rw [hV]
  have HV := Lib.hid hV
  have HS := Lib.hid hs
  clear hV hs
  go_enter Try.func21, Try.ntmps21
  go_wp2_with fail
  go_loopg [7] s.size (fun kq v7 w' => ∃ (j : Nat), v7 = .int .i64 j ∧ Aside0 (kq + j = s.size) ∧ Aside0 (∀ c ∈ (bytesOf s).take j, c ≠ d) ∧ Aside0 (w' = w))
  case atStart => exact ⟨0, rfl, ⟨rfl⟩, ⟨by simp⟩, ⟨rfl⟩⟩
  case round =>
    obtain ⟨j, rfl, HK, HN, HW⟩ := hrel
    obtain rfl := HW.out
    clear HW
    cases gk with
    | zero =>
      obtain rfl : j = s.size := by have := HK.out; omega
      have hn := HN.out
      rw [List.take_of_length_le (by rw [bytesOf_length]; omega)] at hn
      have HE := Lib.hid ((cut_nowhere s d hn).symm.trans HV.out)
      clear hn HN
      go_wp2_with fail
      go_ret3
      exact ⟨congrArg Ending.returned HE.out, HB.out⟩
    | succ k =>
      have hj : j < s.size := by have := HK.out; omega
      have hx := bt_nat s j hj
      obtain ⟨c, hc⟩ : ∃ c, bt s (j : Int) = c := ⟨_, rfl⟩
      rw [hc] at hx
      have q1 : (0 : Int) ≤ (j : Int) := by omega
      have q2 : (j : Int) < (s.size : Int) := by omega
      have q3 : (s.size : Int) ≤ 1000000000000 := by have := HS.out; omega
      by_cases he : c = d
      · subst he
        have HE := Lib.hid ((cut_found s c j hj HN.out hc).symm.trans HV.out)
        have q5 : (j : Int) ≤ (s.size : Int) := by omega
        have q6 : j ≤ s.size := by omega
        have q7 : (j : Int) + 1 ≤ (s.size : Int) := by omega
        have q8 : j + 1 ≤ s.size := by omega
        have q9 : (0 : Int) ≤ (j : Int) + 1 := by omega
        have hw1 : IntKind.i64.wrap ((j : Int) + 1) = (j : Int) + 1 := by rw [IntKind.wrap_i64]; omega
        clear hc
        go_wp2_with fail
        refine dr_start (fun _ => True) [] (by kernel_rfl) trivial (fun hS => ?_)
        repeat (first | (refine dr_pure (by kernel_rfl) (by rfl) (fun _ _ _ h => h) (v := ?_) (a' := ?_) ?_ ?_ ?_; rotate_left 2; (focus (intro w'; go_simp; with_reducible rfl)); (focus (simp only [Act.put, List.setIfInBounds_toArray, List.set_cons_zero, List.set_cons_succ]; rfl))) | (refine dr_take (by kernel_rfl) (by rfl) (fun _ _ _ h => h) hS (v := ?_) (a' := ?_) ?_ ?_ ?_; rotate_left 2; (focus (intro w' hS'; go_simp; with_reducible rfl)); (focus (simp only [Act.put, List.setIfInBounds_toArray, List.set_cons_zero, List.set_cons_succ]; rfl))) | (refine dr_off (by kernel_rfl) (by rfl) (fun _ _ _ h => h) (a' := ?_) ?_ ?_; rotate_left; (focus (simp only [Act.put, List.setIfInBounds_toArray, List.set_cons_zero, List.set_cons_succ]; rfl))))
        refine dr_done (by kernel_rfl) ?_
        have hv := HE.out
        go_wp2_with fail
        go_ret3
        exact ⟨congrArg Ending.returned hv, HB.out.drew⟩
      · have e1 : (c == d) = false := beq_eq_false_iff_ne.mpr he
        have HN2 := Aside0.mk (show ∀ x ∈ (bytesOf s).take (j + 1), x ≠ d by
          rw [take_bytes s j hj]
          intro x hx
          rw [List.mem_append] at hx
          rcases hx with hx | hx
          · exact HN.out x hx
          · rw [List.mem_singleton.1 hx, hc]; exact he)
        clear hc
        go_wp2_with fail
        go_roundg k
        case measure => omega
        case rel => exact ⟨j + 1, by go_num, ⟨by have := HK.out; omega⟩, HN2, ⟨rfl⟩⟩
end Go.Proofs.Ytfoflodgegehfaa.M
