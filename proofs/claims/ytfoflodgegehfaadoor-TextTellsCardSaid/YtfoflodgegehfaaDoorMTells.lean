/- The law TextTells. -/
import Derived.Test.YtfoflodgegehfaaDoorMFolds
set_option linter.unusedVariables false
set_option linter.unusedSimpArgs false
namespace Go.Proofs.YtfoflodgegehfaaDoor.M
open Go.RowKit Go.Maps Go.Proofs.YtfoflodgegehfaaDoorW.PrintWords Go.Proofs.YtfoflodgegehfaaDoorW.PrintLast Go.Proofs.YtfoflodgegehfaaDoorW.PrintMore
attribute [local go_sem] max2_int min2_int max_two min_two max_three min_three max_four min_four
attribute [local go_sem ↓] Go.wp_at_zero Go.wp_at_succ
set_option maxHeartbeats 4000000 in
set_option maxRecDepth 100000 in
theorem tells_calls (s : ByteArray) (w : World) :
    Calls Tryd.prog 4 #[.string s] w fun e w' => e = .returned (.bool true) ∧ Below w.heap.size w w' := by
  have HB := Aside0.mk (Below.refl w.heap.size w)
  go_enter Tryd.func4, Tryd.ntmps4
  go_wp2_with fail
  refine (awake2_calls _).mono ?_
  rintro e w1 ⟨rfl, hb⟩
  have HB1 := Aside0.mk (HB.out.trans (hb.mono HB.out.size))
  clear hb HB
  by_cases h1 : 20000 < s.size
  · have d1 : decide ((20000 : Int) < (s.size : Int)) = true := decide_eq_true (by omega)
    have d3 : decide (20000 < s.size) = true := decide_eq_true h1
    go_wp2_with fail
    go_ret
    exact ⟨rfl, HB1.out⟩
  have d1 : decide ((20000 : Int) < (s.size : Int)) = false := decide_eq_false (by omega)
  have d3 : decide (20000 < s.size) = false := decide_eq_false h1
  have HS := Lib.hid (show s.size ≤ 1000000000000 by omega)
  obtain ⟨t, hT⟩ : ∃ t, tokenF s = t := ⟨_, rfl⟩
  obtain ⟨v, hV⟩ : ∃ v, valueF s = v := ⟨_, rfl⟩
  have HT := Lib.hid hT
  have HV := Lib.hid hV
  have F1 := text_eq (mediaF s)
  clear h1 hT hV
  go_wp2_with fail
  refine (token_calls s _ HS.out).mono ?_
  rw [HT.out]
  rintro e w2 ⟨rfl, hx⟩
  have HB2 := Aside0.mk (HB1.out.trans (hx.mono HB1.out.size))
  clear hx HB1
  go_wp2_with fail
  refine (refToken_calls s _ HS.out).mono ?_
  rw [HT.out]
  rintro e wx ⟨rfl, rfl⟩
  go_wp2_with fail
  refine (value_calls s _ HS.out).mono ?_
  rw [HV.out]
  rintro e w3 ⟨rfl, hx⟩
  have HB3 := Aside0.mk (HB2.out.trans (hx.mono HB2.out.size))
  clear hx HB2
  go_wp2_with fail
  refine (refValue_calls s _ HS.out).mono ?_
  rw [HV.out]
  rintro e wx ⟨rfl, rfl⟩
  go_wp2_with fail
  refine (media_calls s _ HS.out).mono ?_
  rintro e w4 ⟨rfl, hb⟩
  have HB4 := Aside0.mk (HB3.out.trans (hb.mono HB3.out.size))
  clear hb HB3
  go_wp2_with fail
  refine (refMedia_calls s _ HS.out).mono ?_
  rintro e w5 ⟨rfl, hb⟩
  have HB5 := Aside0.mk (HB4.out.trans (hb.mono HB4.out.size))
  clear hb HB4
  go_wp2_with fail
  go_ret
  exact ⟨rfl, HB5.out⟩
theorem tells_all (W : World) (s : ByteArray) (hs : s.size ≤ 140737488351232) :
    Calls Tryd.prog 4 #[.string s] W fun e w' => e = .returned (.bool true) ∧ Below W.heap.size W w' := tells_calls s W
end Go.Proofs.YtfoflodgegehfaaDoor.M
