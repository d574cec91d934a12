/- Walks of text.Number at a small number, and of nunciolaw02.awake. -/
import Derived.Test.YtfoflodgegehfaaDoorMText10
set_option linter.unusedVariables false
set_option linter.unusedSimpArgs false
namespace Go.Proofs.YtfoflodgegehfaaDoor.M
open Go.RowKit Go.Maps Go.Proofs.YtfoflodgegehfaaDoorW.PrintWords Go.Proofs.YtfoflodgegehfaaDoorW.PrintLast Go.Proofs.YtfoflodgegehfaaDoorW.PrintMore
attribute [local go_sem] max2_int min2_int max_two min_two max_three min_three max_four min_four
attribute [local go_sem ↓] Go.wp_at_zero Go.wp_at_succ
theorem tw_digits : (⟨(Lib.decDigits 12).toArray⟩ : ByteArray) = ⟨#[49, 50]⟩ := by decide +kernel
theorem twelve_calls (w : World) : Calls Tryd.prog 20 #[.int .i64 12] w fun e w' => e = .returned (.string ⟨#[49, 50]⟩) ∧ Below w.heap.size w w' := by
  have HB := Aside0.mk (Below.refl w.heap.size w)
  go_enter Tryd.func20, Tryd.ntmps20
  go_wp2_with fail
  refine (Tryd.strconv_Itoa_small 12 (by decide) _).mono ?_
  rw [tw_digits]
  rintro e w1 ⟨rfl, rfl⟩
  go_wp2_with fail
  go_ret
  exact ⟨rfl, HB.out⟩
theorem awk (v : Value) {f : Nat} {xs : Array Value} {w : World} {u : Value} (h : u = v) (H : Calls Tryd.prog f xs w fun e w' => e = .returned u ∧ Below w.heap.size w w') : Calls Tryd.prog f xs w fun e w' => e = .returned v ∧ Below w.heap.size w w' := h ▸ H
theorem aw1 (w : World) : Calls Tryd.prog 18 #[.string ⟨#[49, 50, 48]⟩, .int .i64 120] w fun e w' => e = .returned (.tuple #[.int .i64 120, .bool true]) ∧ Below w.heap.size w w' := awk _ (congrArg (fun x : Int × Bool => Value.tuple #[.int .i64 x.1, .bool x.2]) (show decF ⟨#[49, 50, 48]⟩ 120 = (120, true) by decide +kernel)) (decimal_calls _ 120 w (by decide))
theorem aw2 (w : World) : Calls Tryd.prog 9 #[.string ⟨#[87, 119, 87, 46, 69, 120]⟩] w fun e w' => e = .returned (.string ⟨#[119, 119, 119, 46, 101, 120]⟩) ∧ Below w.heap.size w w' := awk _ (congrArg Value.string (show foldS ⟨#[87, 119, 87, 46, 69, 120]⟩ = ⟨#[119, 119, 119, 46, 101, 120]⟩ by decide +kernel)) (fold_calls _ w (by decide))
theorem aw3 (w : World) : Calls Tryd.prog 11 #[.string ⟨#[65]⟩, .string ⟨#[97]⟩] w fun e w' => e = .returned (.bool true) ∧ Below w.heap.size w w' := awk _ (congrArg Value.bool (by decide +kernel)) (same_calls ⟨#[65]⟩ ⟨#[97]⟩ w (by decide) (by decide))
theorem aw4 (w : World) : Calls Tryd.prog 11 #[.string ⟨#[65]⟩, .string ⟨#[98]⟩] w fun e w' => e = .returned (.bool false) ∧ Below w.heap.size w w' := awk _ (congrArg Value.bool (by decide +kernel)) (same_calls ⟨#[65]⟩ ⟨#[98]⟩ w (by decide) (by decide))
theorem aw5 (w : World) : Calls Tryd.prog 12 #[.string ⟨#[97, 45, 98]⟩] w fun e w' => e = .returned (.bool true) ∧ Below w.heap.size w w' := awk _ (congrArg Value.bool (by decide +kernel)) (token_calls ⟨#[97, 45, 98]⟩ w (by decide))
theorem aw6 (w : World) : Calls Tryd.prog 12 #[.string ⟨#[97, 32, 98]⟩] w fun e w' => e = .returned (.bool false) ∧ Below w.heap.size w w' := awk _ (congrArg Value.bool (by decide +kernel)) (token_calls ⟨#[97, 32, 98]⟩ w (by decide))
theorem aw7 (w : World) : Calls Tryd.prog 14 #[.string ⟨#[97, 32, 98]⟩] w fun e w' => e = .returned (.bool true) ∧ Below w.heap.size w w' := awk _ (congrArg Value.bool (by decide +kernel)) (value_calls ⟨#[97, 32, 98]⟩ w (by decide))
theorem aw8 (w : World) : Calls Tryd.prog 16 #[.string ⟨#[32, 84, 101, 120, 116, 47, 80, 108, 97, 105, 110, 32, 59, 32, 97, 61, 98]⟩] w fun e w' => e = .returned (.string ⟨#[116, 101, 120, 116, 47, 112, 108, 97, 105, 110]⟩) ∧ Below w.heap.size w w' := awk _ (congrArg Value.string (by decide +kernel)) (media_calls ⟨#[32, 84, 101, 120, 116, 47, 80, 108, 97, 105, 110, 32, 59, 32, 97, 61, 98]⟩ w (by decide))
set_option maxHeartbeats 4000000 in
set_option maxRecDepth 100000 in
theorem awake2_calls (w : World) :
    Calls Tryd.prog 8 #[] w fun e w' => e = .returned (.bool true) ∧ Below w.heap.size w w' := by
  have HB := Aside0.mk (Below.refl w.heap.size w)
  go_enter Tryd.func8, Tryd.ntmps8
  go_wp2_with fail
  refine (aw1 _).mono ?_
  rintro e w1 ⟨rfl, hb⟩
  have HB1 := Aside0.mk (HB.out.trans (hb.mono HB.out.size))
  clear hb HB
  go_wp2_with fail
  refine (aw2 _).mono ?_
  rintro e w2 ⟨rfl, hb⟩
  have HB2 := Aside0.mk (HB1.out.trans (hb.mono HB1.out.size))
  clear hb HB1
  go_wp2_with fail
  refine (aw3 _).mono ?_
  rintro e w3 ⟨rfl, hb⟩
  have HB3 := Aside0.mk (HB2.out.trans (hb.mono HB2.out.size))
  clear hb HB2
  go_wp2_with fail
  refine (aw4 _).mono ?_
  rintro e w4 ⟨rfl, hb⟩
  have HB4 := Aside0.mk (HB3.out.trans (hb.mono HB3.out.size))
  clear hb HB3
  go_wp2_with fail
  refine (aw5 _).mono ?_
  rintro e w5 ⟨rfl, hb⟩
  have HB5 := Aside0.mk (HB4.out.trans (hb.mono HB4.out.size))
  clear hb HB4
  go_wp2_with fail
  refine (aw6 _).mono ?_
  rintro e w6 ⟨rfl, hb⟩
  have HB6 := Aside0.mk (HB5.out.trans (hb.mono HB5.out.size))
  clear hb HB5
  go_wp2_with fail
  refine (aw7 _).mono ?_
  rintro e w7 ⟨rfl, hb⟩
  have HB7 := Aside0.mk (HB6.out.trans (hb.mono HB6.out.size))
  clear hb HB6
  go_wp2_with fail
  refine (twelve_calls _).mono ?_
  rintro e w8 ⟨rfl, hb⟩
  have HB8 := Aside0.mk (HB7.out.trans (hb.mono HB7.out.size))
  clear hb HB7
  go_wp2_with fail
  refine (aw8 _).mono ?_
  rintro e w9 ⟨rfl, hb⟩
  have HB9 := Aside0.mk (HB8.out.trans (hb.mono HB8.out.size))
  clear hb HB8
  go_wp2_with fail
  go_ret
  exact ⟨rfl, HB9.out⟩
end Go.Proofs.YtfoflodgegehfaaDoor.M
