/- Walks of nuncioref02: Token, Value. -/
import Derived.Test.YtdpoookgmckclaaDoorMText3
set_option linter.unusedVariables false
set_option linter.unusedSimpArgs false
namespace Go.Proofs.YtdpoookgmckclaaDoor.M
open Go.RowKit Go.Maps Go.Proofs.YtdpoookgmckclaaDoorW.PrintWords Go.Proofs.YtdpoookgmckclaaDoorW.PrintLast Go.Proofs.YtdpoookgmckclaaDoorW.PrintMore
attribute [local go_sem] max2_int min2_int max_two min_two max_three min_three max_four min_four
attribute [local go_sem ↓] Go.wp_at_zero Go.wp_at_succ
set_option maxHeartbeats 4000000 in
set_option maxRecDepth 100000 in
theorem refToken_calls (s : ByteArray) (w : World) (hs : s.size ≤ 1000000000000) :
    Calls Tryd.prog 38 #[.string s] w fun e w' => e = .returned (.bool (tokenF s)) ∧ w = w' := by
  obtain ⟨R, hR⟩ : ∃ R, (bytesOf s).all signI = R := ⟨_, rfl⟩
  have hT : tokenF s = (!decide (s.size = 0) && R) := by unfold tokenF; rw [hR]
  rw [hT]
  have HR := Aside0.mk (show ((bytesOf s).drop 0).all signI = R from hR)
  have q3 : (s.size : Int) ≤ 1000000000000 := by omega
  clear hR hT hs
  go_enter Tryd.func38, Tryd.ntmps38
  go_wp2_with fail
  go_loopg [3] s.size (fun kq v3 w' => ∃ j : Nat, v3 = .int .i64 j ∧ Aside0 (kq + j = s.size) ∧ Aside0 (((bytesOf s).drop j).all signI = R) ∧ Aside0 (w' = w))
  case atStart => exact ⟨0, rfl, ⟨rfl⟩, HR, ⟨rfl⟩⟩
  case round =>
    clear HR
    obtain ⟨j, rfl, HK, HR, HW⟩ := hrel
    obtain rfl := HW.out
    cases gk with
    | zero =>
      obtain rfl : j = s.size := by have := HK.out; omega
      obtain rfl : R = true := by rw [← HR.out, List.drop_of_length_le (by rw [bytesOf_length]; omega)]; rfl
      have HE := Lib.hid (show decide (0 < s.size) = (!decide (s.size = 0) && true) by
        rcases Nat.eq_zero_or_pos s.size with h | h
        · simp [h]
        · simp [h, Nat.ne_of_gt h])
      clear HW HR
      go_wp2_with fail
      all_goals
        go_ret
        exact ⟨congrArg (fun x => Ending.returned (.bool x)) HE.out, rfl⟩
    | succ k =>
      have hj : j < s.size := by have := HK.out; omega
      have hx := bt_nat s j hj
      obtain ⟨c0, c1⟩ := bt_range s j
      have hr := HR.out
      rw [drop_bytes s j hj, List.all_cons] at hr
      obtain ⟨c, hc⟩ : ∃ c, bt s (j : Int) = c := ⟨_, rfl⟩
      rw [hc] at hx c0 c1 hr
      have q1 : (0 : Int) ≤ (j : Int) := by omega
      have q2 : (j : Int) < (s.size : Int) := by omega
      have HRr := Lib.hid hr
      clear hc hr
      go_wp2_with fail
      refine (refSign_calls c c0 c1 _).mono ?_
      rintro e w1 ⟨rfl, hw1⟩
      subst hw1
      cases hg : signI c with
      | false =>
        obtain rfl : R = false := by rw [← HRr.out, hg]; rfl
        clear hg
        go_wp2_with fail
        go_ret
        exact ⟨by simp, rfl⟩
      | true =>
        have HR2 := Aside0.mk (show ((bytesOf s).drop (j + 1)).all signI = R by rw [← HRr.out, hg]; rfl)
        clear hg
        go_wp2_with fail
        go_roundg k
        case measure => omega
        case rel => exact ⟨j + 1, by go_num, ⟨by have := HK.out; omega⟩, HR2, ⟨rfl⟩⟩
/-- What the document says of a value. -/
def valueF (s : ByteArray) : Bool := (bytesOf s).all shownI && (decide (s.size = 0) || (!blankI (bt s 0) && !blankI (bt s ((s.size - 1 : Nat) : Int))))
set_option maxHeartbeats 4000000 in
set_option maxRecDepth 100000 in
theorem refValue_calls (s : ByteArray) (w : World) (hs : s.size ≤ 1000000000000) :
    Calls Tryd.prog 40 #[.string s] w fun e w' => e = .returned (.bool (valueF s)) ∧ w = w' := by
  obtain ⟨R, hR⟩ : ∃ R, (bytesOf s).all shownI = R := ⟨_, rfl⟩
  have hT : valueF s = (R && (decide (s.size = 0) || (!blankI (bt s 0) && !blankI (bt s ((s.size - 1 : Nat) : Int))))) := by unfold valueF; rw [hR]
  obtain ⟨V, hV⟩ : ∃ V, valueF s = V := ⟨_, rfl⟩
  rw [hV]
  rw [hV] at hT
  have HT := Lib.hid hT
  have HR := Aside0.mk (show ((bytesOf s).drop 0).all shownI = R from hR)
  have q3 : (s.size : Int) ≤ 1000000000000 := by omega
  clear hR hT hs hV
  go_enter Tryd.func40, Tryd.ntmps40
  go_wp2_with fail
  go_loopg [3] s.size (fun kq v3 w' => ∃ j : Nat, v3 = .int .i64 j ∧ Aside0 (kq + j = s.size) ∧ Aside0 (((bytesOf s).drop j).all shownI = R) ∧ Aside0 (w' = w))
  case atStart => exact ⟨0, rfl, ⟨rfl⟩, HR, ⟨rfl⟩⟩
  case round =>
    clear HR
    obtain ⟨j, rfl, HK, HR, HW⟩ := hrel
    obtain rfl := HW.out
    cases gk with
    | zero =>
      obtain rfl : j = s.size := by have := HK.out; omega
      obtain rfl : R = true := by rw [← HR.out, List.drop_of_length_le (by rw [bytesOf_length]; omega)]; rfl
      clear HW HR
      by_cases hz : s.size = 0
      · obtain rfl : V = true := by rw [HT.out]; simp [hz]
        have d1 : ((s.size : Int) == 0) = true := by rw [beq_iff_eq]; omega
        have d2 : (s.size == 0) = true := beq_iff_eq.mpr hz
        clear hz
        go_wp2_with fail
        go_ret
        exact ⟨rfl, rfl⟩
      · have d1 : ((s.size : Int) == 0) = false := by rw [beq_eq_false_iff_ne]; omega
        have d2 : (s.size == 0) = false := beq_eq_false_iff_ne.mpr hz
        have hV : V = (!blankI (bt s 0) && !blankI (bt s ((s.size - 1 : Nat) : Int))) := by rw [HT.out]; simp [hz]
        have hx0 := bt_nat s 0 (by omega)
        have hx1 := bt_nat s (s.size - 1) (by omega)
        obtain ⟨a, ha⟩ : ∃ a, bt s ((0 : Nat) : Int) = a := ⟨_, rfl⟩
        obtain ⟨b, hb⟩ : ∃ b, bt s ((s.size - 1 : Nat) : Int) = b := ⟨_, rfl⟩
        rw [show ((0 : Nat) : Int) = 0 from rfl] at ha
        rw [ha, hb] at hV
        rw [show ((0 : Nat) : Int) = 0 from rfl, ha] at hx0
        rw [hb] at hx1
        have hc : (((s.size - 1 : Nat)) : Int) = (s.size : Int) - 1 := by omega
        have HV := Lib.hid hV
        have q4 : (0 : Int) ≤ (s.size : Int) - 1 := by omega
        have q5 : 0 < s.size := by omega
        clear hV ha hb HT
        go_wp2_with fail
        refine (blank_calls a _).mono ?_
        rintro e w1 ⟨rfl, hw1⟩
        subst hw1
        cases hg : blankI a with
        | true =>
          obtain rfl : V = false := by rw [HV.out, hg]; rfl
          clear hg
          go_wp2_with fail
          go_ret
          exact ⟨rfl, rfl⟩
        | false =>
          have HE := Lib.hid (show (!blankI b) = V by rw [HV.out, hg]; rfl)
          clear hg
          go_wp2_with fail
          refine (blank_calls b _).mono ?_
          rintro e w1 ⟨rfl, hw1⟩
          subst hw1
          go_wp2_with fail
          go_ret
          exact ⟨congrArg (fun x => Ending.returned (.bool x)) HE.out, rfl⟩
    | succ k =>
      have hj : j < s.size := by have := HK.out; omega
      have hx := bt_nat s j hj
      obtain ⟨c0, c1⟩ := bt_range s j
      have hr := HR.out
      rw [drop_bytes s j hj, List.all_cons] at hr
      obtain ⟨c, hc⟩ : ∃ c, bt s (j : Int) = c := ⟨_, rfl⟩
      rw [hc] at hx c0 c1 hr
      have q1 : (0 : Int) ≤ (j : Int) := by omega
      have q2 : (j : Int) < (s.size : Int) := by omega
      have HRr := Lib.hid hr
      clear hc hr
      cases hg : shownI c with
      | false =>
        obtain rfl : R = false := by rw [← HRr.out, hg]; rfl
        obtain rfl : V = false := by rw [HT.out]; rfl
        have hn : ¬ (c = 9 ∨ (32 ≤ c ∧ c ≤ 126) ∨ 128 ≤ c) := of_decide_eq_false hg
        have d1 : (c != 9) = true := by rw [bne_iff_ne]; omega
        have d2 : inI c 32 126 = false := decide_eq_false (by omega)
        have d3 : decide (c < 128) = true := decide_eq_true (by omega)
        have D2 := Lib.hid d2
        clear hg hn d2
        go_wp2_with fail
        refine (in_no D2.out _).mono ?_
        rintro e w1 ⟨rfl, hw1⟩
        subst hw1
        go_wp2_with fail
        go_ret
        exact ⟨rfl, rfl⟩
      | true =>
        have HR2 := Aside0.mk (show ((bytesOf s).drop (j + 1)).all shownI = R by rw [← HRr.out, hg]; rfl)
        have hy : c = 9 ∨ (32 ≤ c ∧ c ≤ 126) ∨ 128 ≤ c := of_decide_eq_true hg
        clear hg
        by_cases h9 : c = 9
        · have d1 : (c != 9) = false := by rw [bne_eq_false_iff_eq]; exact h9
          clear h9 hy
          go_wp2_with fail
          go_roundg k
          case measure => omega
          case rel => exact ⟨j + 1, by go_num, ⟨by have := HK.out; omega⟩, HR2, ⟨rfl⟩⟩
        · have d1 : (c != 9) = true := by rw [bne_iff_ne]; exact h9
          by_cases hi : 32 ≤ c ∧ c ≤ 126
          · have D2 := Lib.hid (show inI c 32 126 = true from decide_eq_true hi)
            clear h9 hy hi
            go_wp2_with fail
            refine (in_yes D2.out _).mono ?_
            rintro e w1 ⟨rfl, hw1⟩
            subst hw1
            go_wp2_with fail
            go_roundg k
            case measure => omega
            case rel => exact ⟨j + 1, by go_num, ⟨by have := HK.out; omega⟩, HR2, ⟨rfl⟩⟩
          · have D2 := Lib.hid (show inI c 32 126 = false from decide_eq_false hi)
            have d3 : decide (c < 128) = false := decide_eq_false (by omega)
            clear h9 hy hi
            go_wp2_with fail
            refine (in_no D2.out _).mono ?_
            rintro e w1 ⟨rfl, hw1⟩
            subst hw1
            go_wp2_with fail
            go_roundg k
            case measure => omega
            case rel => exact ⟨j + 1, by go_num, ⟨by have := HK.out; omega⟩, HR2, ⟨rfl⟩⟩
end Go.Proofs.YtdpoookgmckclaaDoor.M
