/- Walk of nunciolaw06.ReadNames. -/
import Derived.Test.YtbbeikdbioelgaaMAwake6
import Derived.Test.YtbbeikdbioelgaaMRefName
set_option linter.unusedVariables false
set_option linter.unusedSimpArgs false
namespace Go.Proofs.Ytbbeikdbioelgaa.M
open Go.RowKit Go.Maps Go.Proofs.YtbbeikdbioelgaaW.PrintWords Go.Proofs.YtbbeikdbioelgaaW.PrintLast Go.Proofs.YtbbeikdbioelgaaW.PrintMore
attribute [local go_sem] max2_int min2_int max_two min_two max_three min_three max_four min_four
set_option maxHeartbeats 4000000 in
set_option maxRecDepth 100000 in
theorem names_calls (s : ByteArray) (at' : Int) (w : World) (wf : -9223372036854775808 ≤ at') (wf1 : at' ≤ 9223372036854775807) :
    Calls Try.prog 6 #[.string s, .int .i64 at'] w fun e w' => e = .returned (.bool true) ∧ Below w.heap.size w w' := by
  have HA := Lib.hid (And.intro wf wf1)
  clear wf wf1
  by_cases h1 : 70000 < s.size
  · have d1 : decide ((70000 : Int) < (s.size : Int)) = true := decide_eq_true (by omega)
    have d2 : decide (70000 < s.size) = true := decide_eq_true h1
    clear h1
    go_enter Try.func6, Try.ntmps6
    go_wp2_with fail
    refine (awake6_calls _).mono ?_
    rintro e w1 ⟨rfl, hb⟩
    have HB := Aside0.mk hb
    clear hb
    go_wp2_with fail
    go_ret
    exact ⟨rfl, HB.out⟩
  have d1 : decide ((70000 : Int) < (s.size : Int)) = false := decide_eq_false (by omega)
  have d2 : decide (70000 < s.size) = false := decide_eq_false h1
  have HS := Lib.hid (show s.size ≤ 70000 by omega)
  clear h1
  cases hr : nameAt s at' with
  | error c =>
    have HR := Lib.hid hr
    clear hr
    by_cases k1 : c = 0
    · subst k1
      have e1 : ((0 : Int) != 0) = false := rfl
      have e2 : ((0 : Int) == 0) = true := rfl
      go_enter Try.func6, Try.ntmps6
      go_wp2_with fail
      refine (awake6_calls _).mono ?_
      rintro e w1 ⟨rfl, hb⟩
      have HB := Aside0.mk hb
      clear hb
      go_wp2_with fail
      refine (Name_calls s at' _ (by have := HS.out; omega) HA.out.1 HA.out.2).mono ?_
      rw [HR.out, nameT]
      rintro e w2 ⟨rfl, hb⟩
      have HB2 := Aside0.mk (below_step HB.out hb)
      clear hb
      go_wp2_with fail
      refine (refName_calls s at' _ (by have := HS.out; omega) HA.out.1 HA.out.2).mono ?_
      rw [HR.out, nameT]
      rintro e w3 ⟨rfl, hb⟩
      have HB3 := Aside0.mk (below_step HB2.out hb)
      clear hb
      go_wp2_with fail
      go_ret
      exact ⟨rfl, HB3.out⟩
    · have e1 : (c != 0) = true := by rw [bne_iff_ne]; exact k1
      have e2 : (c == c) = true := by simp
      have e3 : ((0 : Int) == 0) = true := rfl
      clear k1
      go_enter Try.func6, Try.ntmps6
      go_wp2_with fail
      refine (awake6_calls _).mono ?_
      rintro e w1 ⟨rfl, hb⟩
      have HB := Aside0.mk hb
      clear hb
      go_wp2_with fail
      refine (Name_calls s at' _ (by have := HS.out; omega) HA.out.1 HA.out.2).mono ?_
      rw [HR.out, nameT]
      rintro e w2 ⟨rfl, hb⟩
      have HB2 := Aside0.mk (below_step HB.out hb)
      clear hb
      go_wp2_with fail
      refine (refName_calls s at' _ (by have := HS.out; omega) HA.out.1 HA.out.2).mono ?_
      rw [HR.out, nameT]
      rintro e w3 ⟨rfl, hb⟩
      have HB3 := Aside0.mk (below_step HB2.out hb)
      clear hb
      go_wp2_with fail
      go_ret
      exact ⟨rfl, HB3.out⟩
  | ok x =>
    obtain ⟨b, nx⟩ := x
    have HR := Lib.hid hr
    clear hr
    have e1 : ((0 : Int) != 0) = false := rfl
    have e2 : ((0 : Int) == 0) = true := rfl
    have e3 : (nx == nx) = true := by simp
    have e4 : ((strOfNums b).toList == (strOfNums b).toList) = true := by simp
    obtain ⟨o, ho⟩ : ∃ o, strOfNums b = o := ⟨_, rfl⟩
    rw [ho] at e4
    go_enter Try.func6, Try.ntmps6
    go_wp2_with fail
    refine (awake6_calls _).mono ?_
    rintro e w1 ⟨rfl, hb⟩
    have HB := Aside0.mk hb
    clear hb
    go_wp2_with fail
    refine (Name_calls s at' _ (by have := HS.out; omega) HA.out.1 HA.out.2).mono ?_
    rw [HR.out, nameT, ho]
    rintro e w2 ⟨rfl, hb⟩
    have HB2 := Aside0.mk (below_step HB.out hb)
    clear hb
    go_wp2_with fail
    refine (refName_calls s at' _ (by have := HS.out; omega) HA.out.1 HA.out.2).mono ?_
    rw [HR.out, nameT, ho]
    rintro e w3 ⟨rfl, hb⟩
    have HB3 := Aside0.mk (below_step HB2.out hb)
    clear hb
    go_wp2_with fail
    go_ret
    exact ⟨rfl, HB3.out⟩
/-- The same, as the row asks for it. -/
theorem names_all (W : World) (s : ByteArray) (hs : s.size ≤ 140737488351232) (a : Int) (ha : (Lit.int .i64 a).wf = true) :
    Calls Try.prog 6 #[.string s, .int .i64 a] W fun e w' => e = .returned (.bool true) ∧ Below W.heap.size W w' := by
  have h : -9223372036854775808 ≤ a ∧ a ≤ 9223372036854775807 := by
    simp [Lit.wf, IntKind.min, IntKind.max, IntKind.bits, IntKind.signed] at ha
    omega
  exact names_calls s a W h.1 h.2
end Go.Proofs.Ytbbeikdbioelgaa.M
