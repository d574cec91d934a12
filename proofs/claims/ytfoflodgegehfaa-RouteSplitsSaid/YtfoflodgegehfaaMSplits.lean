/- The law RouteSplits, whole. -/
import Derived.Test.YtfoflodgegehfaaMAwake21
set_option linter.unusedVariables false
set_option linter.unusedSimpArgs false
namespace Go.Proofs.Ytfoflodgegehfaa.M
open Go.RowKit Go.Maps Go.Proofs.YtfoflodgegehfaaW.PrintWords Go.Proofs.YtfoflodgegehfaaW.PrintLast Go.Proofs.YtfoflodgegehfaaW.PrintMore
attribute [local go_sem] max2_int min2_int max_two min_two max_three min_three max_four min_four
attribute [local go_sem ↓] Go.wp_at_zero Go.wp_at_succ
set_option maxHeartbeats 8000000 in
set_option maxRecDepth 100000 in
theorem splits_all (W : World) (raw : ByteArray) (h1 : raw.size ≤ 140737488351232) (name : ByteArray) (h2 : name.size ≤ 140737488351232) (message : ByteArray) (h3 : message.size ≤ 140737488351232) :
    Calls Try.prog 3 #[.string raw, .string name, .string message] W fun e w' => e = .returned (.bool true) ∧ Below W.heap.size W w' := by
  have HB := Aside0.mk (Below.refl W.heap.size W)
  by_cases c1 : 5000 < raw.size
  · have d1 : decide (5000 < raw.size) = true := decide_eq_true c1
    have d1' : decide ((5000 : Int) < (raw.size : Int)) = true := decide_eq_true (by omega)
    clear c1 h1 h2 h3
    go_enter Try.func3, Try.ntmps3
    go_wp2_with fail
    refine (awake21_calls _).mono ?_
    rintro e w1 ⟨rfl, hb⟩
    have HB1 := Aside0.mk (HB.out.trans (hb.mono HB.out.size))
    clear hb HB
    go_wp2_with fail
    go_ret
    exact ⟨rfl, HB1.out⟩
  have d1 : decide (5000 < raw.size) = false := decide_eq_false c1
  have d1' : decide ((5000 : Int) < (raw.size : Int)) = false := decide_eq_false (by omega)
  by_cases c2 : 5000 < name.size
  · have d2 : decide (5000 < name.size) = true := decide_eq_true c2
    have d2' : decide ((5000 : Int) < (name.size : Int)) = true := decide_eq_true (by omega)
    clear c1 c2 h1 h2 h3
    go_enter Try.func3, Try.ntmps3
    go_wp2_with fail
    refine (awake21_calls _).mono ?_
    rintro e w1 ⟨rfl, hb⟩
    have HB1 := Aside0.mk (HB.out.trans (hb.mono HB.out.size))
    clear hb HB
    go_wp2_with fail
    go_ret
    exact ⟨rfl, HB1.out⟩
  have d2 : decide (5000 < name.size) = false := decide_eq_false c2
  have d2' : decide ((5000 : Int) < (name.size : Int)) = false := decide_eq_false (by omega)
  by_cases c3 : 5000 < message.size
  · have d3 : decide (5000 < message.size) = true := decide_eq_true c3
    have d3' : decide ((5000 : Int) < (message.size : Int)) = true := decide_eq_true (by omega)
    clear c1 c2 c3 h1 h2 h3
    go_enter Try.func3, Try.ntmps3
    go_wp2_with fail
    refine (awake21_calls _).mono ?_
    rintro e w1 ⟨rfl, hb⟩
    have HB1 := Aside0.mk (HB.out.trans (hb.mono HB.out.size))
    clear hb HB
    go_wp2_with fail
    go_ret
    exact ⟨rfl, HB1.out⟩
  have d3 : decide (5000 < message.size) = false := decide_eq_false c3
  have d3' : decide ((5000 : Int) < (message.size : Int)) = false := decide_eq_false (by omega)
  have r1 := fun w => split_route_calls raw w (by omega)
  have r2 := fun w => split_ref_calls raw w (by omega)
  have r3 := fun w => param_calls (cutB raw 63) name w (by have := cutB_size raw 63; omega)
  have r4 := fun w => param_ref_calls (cutB raw 63) name w (by have := cutB_size raw 63; omega)
  have r5 := fun w => param_calls raw name w (by omega)
  have r6 := fun w => param_ref_calls raw name w (by omega)
  have r7 := fun w => target_calls message w (by omega)
  have r8 := fun w => refTarget_calls message w (by omega)
  generalize cutA raw 63 = a at *
  generalize cutB raw 63 = q at *
  generalize paramF q name = p1 at *
  generalize paramF raw name = p2 at *
  generalize targetF message = t at *
  obtain ⟨v1, b1⟩ := p1
  obtain ⟨v2, b2⟩ := p2
  have R1 := Aside0.mk r1
  have R2 := Aside0.mk r2
  have R3 := Aside0.mk r3
  have R4 := Aside0.mk r4
  have R5 := Aside0.mk r5
  have R6 := Aside0.mk r6
  have R7 := Aside0.mk r7
  have R8 := Aside0.mk r8
  have e1 := text_eq a
  have e2 := text_eq q
  have e3 := text_eq v1
  have e4 := text_eq v2
  have e5 := text_eq t
  clear r1 r2 r3 r4 r5 r6 r7 r8 c1 c2 c3 h1 h2 h3
  go_enter Try.func3, Try.ntmps3
  go_wp2_with fail
  refine (awake21_calls _).mono ?_
  rintro e w1 ⟨rfl, hb⟩
  have HB1 := Aside0.mk (HB.out.trans (hb.mono HB.out.size))
  clear hb HB
  go_wp2_with fail
  refine (R1.out _).mono ?_
  rintro e w2 ⟨rfl, hb⟩
  have HB2 := Aside0.mk (HB1.out.trans (hb.mono HB1.out.size))
  clear hb HB1
  go_wp2_with fail
  refine (R2.out _).mono ?_
  rintro e w3 ⟨rfl, hb⟩
  have HB3 := Aside0.mk (HB2.out.trans (hb.mono HB2.out.size))
  clear hb HB2
  go_wp2_with fail
  refine (R3.out _).mono ?_
  rintro e w4 ⟨rfl, hb⟩
  have HB4 := Aside0.mk (HB3.out.trans (hb.mono HB3.out.size))
  clear hb HB3
  go_wp2_with fail
  refine (R4.out _).mono ?_
  rintro e w5 ⟨rfl, hb⟩
  have HB5 := Aside0.mk (HB4.out.trans (hb.mono HB4.out.size))
  clear hb HB4
  go_wp2_with fail
  refine (R5.out _).mono ?_
  rintro e w6 ⟨rfl, hb⟩
  have HB6 := Aside0.mk (HB5.out.trans (hb.mono HB5.out.size))
  clear hb HB5
  go_wp2_with fail
  refine (R6.out _).mono ?_
  rintro e w7 ⟨rfl, hb⟩
  have HB7 := Aside0.mk (HB6.out.trans (hb.mono HB6.out.size))
  clear hb HB6
  go_wp2_with fail
  refine (R7.out _).mono ?_
  rintro e w8 ⟨rfl, hb⟩
  have HB8 := Aside0.mk (HB7.out.trans (hb.mono HB7.out.size))
  clear hb HB7
  go_wp2_with fail
  refine (R8.out _).mono ?_
  rintro e w9 ⟨rfl, hb⟩
  have HB9 := Aside0.mk (HB8.out.trans (hb.mono HB8.out.size))
  clear hb HB8
  go_wp2_with fail
  go_ret
  exact ⟨rfl, HB9.out⟩
end Go.Proofs.Ytfoflodgegehfaa.M
