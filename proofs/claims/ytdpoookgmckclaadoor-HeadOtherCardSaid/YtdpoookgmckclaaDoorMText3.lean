/- Walks of nuncioref02: Fold, sign, Token, Value. -/
import Derived.Test.YtdpoookgmckclaaDoorMText2
set_option linter.unusedVariables false
set_option linter.unusedSimpArgs false
namespace Go.Proofs.YtdpoookgmckclaaDoor.M
open Go.RowKit Go.Maps Go.Proofs.YtdpoookgmckclaaDoorW.PrintWords Go.Proofs.YtdpoookgmckclaaDoorW.PrintLast Go.Proofs.YtdpoookgmckclaaDoorW.PrintMore
attribute [local go_sem] max2_int min2_int max_two min_two max_three min_three max_four min_four
attribute [local go_sem ↓] Go.wp_at_zero Go.wp_at_succ
theorem in_no {c a b : Int} (h : inI c a b = false) (w : World) : Calls Tryd.prog 30 #[.int .u8 c, .int .u8 a, .int .u8 b] w fun e w' => e = .returned (.bool false) ∧ w = w' := (in_calls c a b w).mono fun e w' h1 => ⟨by rw [h1.1, h], h1.2⟩
theorem in_yes {c a b : Int} (h : inI c a b = true) (w : World) : Calls Tryd.prog 30 #[.int .u8 c, .int .u8 a, .int .u8 b] w fun e w' => e = .returned (.bool true) ∧ w = w' := (in_calls c a b w).mono fun e w' h1 => ⟨by rw [h1.1, h], h1.2⟩
theorem signB_at (j : Nat) (hj : j < 15) : bt signB (j : Int) = signL.getD j 0 := by
  have : ∀ j : Fin 15, bt signB (j.val : Int) = signL.getD j.val 0 := by decide +kernel
  exact this ⟨j, hj⟩
set_option maxHeartbeats 4000000 in
set_option maxRecDepth 100000 in
theorem refSign_calls (c : Int) (h0 : 0 ≤ c) (h1 : c < 256) (w : World) :
    Calls Tryd.prog 54 #[.int .u8 c] w fun e w' => e = .returned (.bool (signI c)) ∧ w = w' := by
  obtain ⟨R, hR⟩ : ∃ R, signI c = R := ⟨_, rfl⟩
  rw [hR]
  have HR := Aside0.mk (show (signL.drop 0).contains c = true ∨ (signL.drop 0).contains c = signL.contains c from .inr rfl)
  have HRR := Lib.hid hR
  clear hR
  go_enter Tryd.func54, Tryd.ntmps54
  go_wp2_with fail
  go_loopg [3] 15 (fun kq v3 w' => ∃ j : Nat, v3 = .int .i64 j ∧ Aside0 (kq + j = 15) ∧ Aside0 ((signL.drop j).contains c = signL.contains c) ∧ Aside0 (w' = w))
  case atStart => exact ⟨0, rfl, ⟨rfl⟩, ⟨rfl⟩, ⟨rfl⟩⟩
  case round =>
    obtain ⟨j, rfl, HK, HL, HW⟩ := hrel
    obtain rfl := HW.out
    cases gk with
    | zero =>
      obtain rfl : j = 15 := by have := HK.out; omega
      have hs : signI c = decide ((97 ≤ c ∧ c ≤ 122) ∨ (65 ≤ c ∧ c ≤ 90) ∨ (48 ≤ c ∧ c ≤ 57)) := by
        have : signL.contains c = false := by rw [← HL.out]; rfl
        unfold signI
        rw [this, Bool.or_false]
      rw [HRR.out] at hs
      have HS := Lib.hid hs
      clear hs HR HL
      go_wp2_with fail
      refine (in_calls c 48 57 _).mono ?_
      rintro e w1 ⟨rfl, hw1⟩
      subst hw1
      cases hg1 : inI c 48 57 with
      | true =>
        obtain rfl : R = true := by rw [HS.out]; unfold inI at hg1; have := of_decide_eq_true hg1; exact decide_eq_true (by omega)
        clear hg1
        go_wp2_with fail
        go_ret
        exact ⟨rfl, rfl⟩
      | false =>
        have H1 := Lib.hid hg1
        clear hg1
        go_wp2_with fail
        refine (in_calls c 65 90 _).mono ?_
        rintro e w1 ⟨rfl, hw1⟩
        subst hw1
        cases hg1 : inI c 65 90 with
        | true =>
          obtain rfl : R = true := by rw [HS.out]; unfold inI at hg1; have := of_decide_eq_true hg1; exact decide_eq_true (by omega)
          clear hg1
          go_wp2_with fail
          go_ret
          exact ⟨rfl, rfl⟩
        | false =>
          have H2 := Lib.hid hg1
          clear hg1
          go_wp2_with fail
          refine (in_calls c 97 122 _).mono ?_
          rintro e w1 ⟨rfl, hw1⟩
          subst hw1
          have HE := Lib.hid (show inI c 97 122 = R by
            have h1 := H1.out
            have h2 := H2.out
            unfold inI at h1 h2 ⊢
            have := of_decide_eq_false h1
            have := of_decide_eq_false h2
            rw [HS.out]
            exact decide_eq_decide.mpr ⟨fun _ => by omega, fun _ => by omega⟩)
          go_wp2_with fail
          go_ret
          exact ⟨congrArg (fun x => Ending.returned (.bool x)) HE.out, rfl⟩
    | succ k =>
      have hj : j < 15 := by have := HK.out; omega
      have hx := bt_nat signB j hj
      rw [signB_at j hj] at hx
      unfold signB at hx
      have hl := HL.out
      rw [List.drop_eq_getElem_cons (show j < signL.length from hj), List.contains_cons] at hl
      have hd : signL.getD j 0 = signL[j]'hj := by rw [List.getD_eq_getElem?_getD, List.getElem?_eq_getElem (show j < signL.length from hj)]; rfl
      obtain ⟨d, hd'⟩ : ∃ d, signL[j]'hj = d := ⟨_, rfl⟩
      rw [hd, hd'] at hx
      replace hl : (c == d || (signL.drop (j + 1)).contains c) = signL.contains c := by rw [← hd']; exact hl
      have q1 : (0 : Int) ≤ (j : Int) := by omega
      have q2 : (j : Int) < 15 := by omega
      have q4 : (j : Int) < (15 : Nat) := by omega
      clear hd hd' HL
      by_cases he : d = c
      · subst he
        obtain rfl : R = true := by
          have : signL.contains d = true := by rw [← hl]; simp
          rw [← HRR.out]
          unfold signI
          rw [this, Bool.or_true]
        clear hl
        go_wp2_with fail
        go_ret
        exact ⟨rfl, rfl⟩
      · have HL2 := Aside0.mk (show (signL.drop (j + 1)).contains c = signL.contains c by rw [← hl, beq_eq_false_iff_ne.mpr (Ne.symm he), Bool.false_or])
        have d1 : (d == c) = false := beq_eq_false_iff_ne.mpr he
        clear hl he
        go_wp2_with fail
        go_roundg k
        case measure => omega
        case rel => exact ⟨j + 1, by go_num, ⟨by have := HK.out; omega⟩, HL2, ⟨rfl⟩⟩
end Go.Proofs.YtdpoookgmckclaaDoor.M
