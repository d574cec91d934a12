/- Walks of nuncioref20: rest, Request. -/
import Derived.Test.YtdpoookgmckclaaDoorMHRefC
set_option linter.unusedVariables false
set_option linter.unusedSimpArgs false
namespace Go.Proofs.YtdpoookgmckclaaDoor.M
open Go.RowKit Go.Maps Go.Proofs.YtdpoookgmckclaaDoorW.PrintWords Go.Proofs.YtdpoookgmckclaaDoorW.PrintLast Go.Proofs.YtdpoookgmckclaaDoorW.PrintMore
attribute [local go_sem] max2_int min2_int max_two min_two max_three min_three max_four min_four
attribute [local go_sem ↓] Go.wp_at_zero Go.wp_at_succ
set_option maxHeartbeats 8000000 in
set_option maxRecDepth 100000 in
theorem refRest_calls (A : Option Addr) (cp : Nat) (xs : List Fl) (w : World) (hr : kF.C w A xs.length xs) (hcp : xs.length ≤ cp) (hF : FewF xs) {c : List Fld} {m : ByteArray} {n : Int} (hh : headF (xs.map Fl.f) = some (c, m, n)) :
    Calls Tryd.prog 20 #[.slice A xs.length cp] w fun e w' => e = .returned (.tuple #[.string m, .int .i64 n]) ∧ Below w.heap.size w w' := by
  have HRd := Aside0.mk hr
  have HCp := Lib.hid hcp
  have HB := Aside0.mk (Below.refl w.heap.size w)
  have hl := hF.len
  have hI := head_ref hh
  have h1 := hI.media
  have h2 := hI.len0
  have h3 := hI.len1
  have hv1 := valN_fl hF.v clN
  have hv2 := valN_fl hF.v ctN
  obtain ⟨C, hC⟩ : ∃ C, cntN (xs.map Fl.f) clN = C := ⟨_, rfl⟩
  obtain ⟨V, hV⟩ : ∃ V, valN (xs.map Fl.f) clN = V := ⟨_, rfl⟩
  obtain ⟨C2, hC2⟩ : ∃ C, cntN (xs.map Fl.f) ctN = C := ⟨_, rfl⟩
  obtain ⟨V2, hV2⟩ : ∃ V, valN (xs.map Fl.f) ctN = V := ⟨_, rfl⟩
  rw [hC] at h2 h3
  rw [hV] at h3 hv1
  rw [hV2] at h1 hv2
  have HCn := Lib.hid hC
  have HVn := Lib.hid hV
  have HC2 := Lib.hid hC2
  have HV2 := Lib.hid hV2
  have HM := Lib.hid h1
  have HS1 := Lib.hid hv1
  have HS2 := Lib.hid hv2
  have H2 := Aside0.mk h2
  have H3 := Aside0.mk h3
  clear h1 h2 h3 hC hV hC2 hV2 hI hh hF hr hcp hv1 hv2
  go_enter Tryd.func20, Tryd.ntmps20
  go_wp2_with fail
  refine (count_calls A cp xs ctN _ (Kd.C_below HRd.out HB.out) HCp.out (by omega)).mono ?_
  rw [HC2.out, HV2.out]
  rintro e w2 ⟨rfl, hb⟩
  have HB2 := Aside0.mk (below_step HB.out hb)
  clear hb HB
  go_wp2_with fail
  refine (count_calls A cp xs clN _ (Kd.C_below HRd.out HB2.out) HCp.out (by omega)).mono ?_
  rw [HCn.out, HVn.out]
  rintro e w3 ⟨rfl, hb⟩
  have HB3 := Aside0.mk (below_step HB2.out hb)
  clear hb HB2
  by_cases h0 : C = 0
  · have d1 : ((C : Int) == 0) = true := by rw [beq_iff_eq]; omega
    have d2 : (C == 0) = true := beq_iff_eq.mpr h0
    have HT := Lib.hid (H2.out h0)
    clear h0
    go_wp2_with fail
    refine (refMedia_calls V2 _ (by have := HS2.out; omega)).mono ?_
    rw [HM.out]
    rintro e w4 ⟨rfl, hb⟩
    have HB4 := Aside0.mk (below_step HB3.out hb)
    clear hb HB3
    go_wp2_with fail
    go_ret2
    exact ⟨by rw [HT.out]; rfl, HB4.out⟩
  · have d1 : ((C : Int) == 0) = false := by rw [beq_eq_false_iff_ne]; omega
    have d2 : (C == 0) = false := beq_eq_false_iff_ne.mpr h0
    have HT := Lib.hid (H3.out h0)
    clear h0
    go_wp2_with fail
    refine (refDecimal_calls V 999999999 _ (by have := HS1.out; omega)).mono ?_
    rw [HT.out]
    rintro e w4 ⟨rfl, hb⟩
    have HB4 := Aside0.mk (below_step HB3.out hb)
    clear hb HB3
    unfold decE
    go_wp2_with fail
    refine (refMedia_calls V2 _ (by have := HS2.out; omega)).mono ?_
    rw [HM.out]
    rintro e w5 ⟨rfl, hb⟩
    have HB5 := Aside0.mk (below_step HB4.out hb)
    clear hb HB4
    go_wp2_with fail
    go_ret2
    exact ⟨rfl, HB5.out⟩
set_option maxHeartbeats 16000000 in
set_option maxRecDepth 100000 in
theorem refRequest_calls (A : Option Addr) (cp : Nat) (xs : List Fl) (w : World) (hr : kF.C w A xs.length xs) (hcp : xs.length ≤ cp) (hF : FewF xs) :
    Calls Tryd.prog 10 #[.slice A xs.length cp] w fun e w' => e = .returned (reqE (requestF (xs.map Fl.f))) ∧ Below w.heap.size w w' := by
  have hal := below_alloc (Below.refl w.heap.size w) (.cells #[.string ⟨#[]⟩, .string ⟨#[]⟩, .string ⟨#[]⟩, .string ⟨#[]⟩, .bool false, .int .i64 0] 26 (0, 0))
  have HRd := Aside0.mk hr
  have HCp := Lib.hid hcp
  have HF := Aside0.mk hF
  have hl := hF.len
  have HX1 := Aside0.mk (SAt.new w #[.string ⟨#[]⟩, .string ⟨#[]⟩, .string ⟨#[]⟩, .string ⟨#[]⟩, .bool false, .int .i64 0] 26)
  have HB1 := Aside0.mk hal
  obtain ⟨R, hR⟩ : ∃ R, requestF (xs.map Fl.f) = R := ⟨_, rfl⟩
  rw [hR]
  unfold requestF at hR
  clear hr hF hal hcp
  go_enter Tryd.func10, Tryd.ntmps10
  go_wp2_with fail
  generalize w.alloc (.cells #[.string ⟨#[]⟩, .string ⟨#[]⟩, .string ⟨#[]⟩, .string ⟨#[]⟩, .bool false, .int .i64 0] 26 (0, 0)) = w1 at *
  obtain ⟨q, hq⟩ : ∃ q, w.heap.size = q := ⟨_, rfl⟩
  have hX := HX1.out
  rw [hq] at hX
  have HX1 := Aside0.mk hX
  have HQ := Lib.hid hq
  rw [hq]
  clear hq hX
  refine (refRight_calls A cp xs _ (Kd.C_below HRd.out HB1.out) HCp.out HF.out).mono ?_
  rw [refRight_head]
  rintro e w2 ⟨rfl, hb⟩
  have HX2 := Aside0.mk (HX1.out.below hb)
  have HB2 := Aside0.mk (below_step HB1.out hb)
  clear hb HX1 HB1
  cases hx : headF (xs.map Fl.f) with
  | none =>
    rw [hx] at hR
    have HE := Lib.hid (show R = none from hR.symm)
    clear hx hR
    rw [Option.isSome_none]
    have x0 := HX2.out.is 0 rfl
    have x1 := HX2.out.is 1 rfl
    have x2 := HX2.out.is 2 rfl
    have x3 := HX2.out.is 3 rfl
    have x4 := HX2.out.is 4 rfl
    have x5 := HX2.out.is 5 rfl
    have y0 := HX2.out.frozen 0
    have y1 := HX2.out.frozen 1
    have y2 := HX2.out.frozen 2
    have y3 := HX2.out.frozen 3
    have y4 := HX2.out.frozen 4
    have y5 := HX2.out.frozen 5
    go_wp2_with fail
    rw [HE.out]
    obtain ⟨w9, hw9, hl, hb9⟩ := six_laid HX2.out HB2.out (by rw [HQ.out]; exact Nat.le_refl _) (.string ⟨#[]⟩) (.string ⟨#[]⟩) (.string ⟨#[]⟩) (.string ⟨#[]⟩) (.bool false) (.int .i64 0)
    rw [← hw9]
    have l0 := hl.is 0 rfl
    have l1 := hl.is 1 rfl
    have l2 := hl.is 2 rfl
    have l3 := hl.is 3 rfl
    have l4 := hl.is 4 rfl
    have l5 := hl.is 5 rfl
    exact bodyPost_ret (v := reqE none) (by simp [results, Tryd.results10, go_sem, l0, l1, l2, l3, l4, l5, reqE]) rfl ⟨rfl, hb9⟩
  | some y =>
    obtain ⟨c, m, n⟩ := y
    rw [hx] at hR
    simp only [] at hR
    rw [Option.isSome_some]
    have hI := head_ref hx
    have HH := Aside0.mk hx
    have k1 : countS meN = true := by decide +kernel
    have k2 : countS scN = true := by decide +kernel
    have k3 : countS paN = true := by decide +kernel
    have k4 : countS auN = true := by decide +kernel
    obtain ⟨p1, hp1⟩ : ∃ p, b2n (hasN c meN) = p := ⟨_, rfl⟩
    obtain ⟨p2, hp2⟩ : ∃ p, b2n (hasN c scN) = p := ⟨_, rfl⟩
    obtain ⟨p3, hp3⟩ : ∃ p, b2n (hasN c paN) = p := ⟨_, rfl⟩
    obtain ⟨p4, hp4⟩ : ∃ p, b2n (hasN c auN) = p := ⟨_, rfl⟩
    obtain ⟨v1, hv1⟩ : ∃ v, valN c meN = v := ⟨_, rfl⟩
    obtain ⟨v2, hv2⟩ : ∃ v, valN c scN = v := ⟨_, rfl⟩
    obtain ⟨v3, hv3⟩ : ∃ v, valN c paN = v := ⟨_, rfl⟩
    obtain ⟨v4, hv4⟩ : ∃ v, valN c auN = v := ⟨_, rfl⟩
    unfold reqOk at hR
    rw [hp1, hp2, hp3, hp4, hv1, hv2, hv3] at hR
    have r1 : p1 ≤ 1 := by rw [← hp1]; exact b2n_le _
    have r2 : p2 ≤ 1 := by rw [← hp2]; exact b2n_le _
    have r3 : p3 ≤ 1 := by rw [← hp3]; exact b2n_le _
    have r4 : p4 ≤ 1 := by rw [← hp4]; exact b2n_le _
    have HP1 := Lib.hid ((hI.cnt _ k1).trans hp1)
    have HP2 := Lib.hid ((hI.cnt _ k2).trans hp2)
    have HP3 := Lib.hid ((hI.cnt _ k3).trans hp3)
    have HP4 := Lib.hid ((hI.cnt _ k4).trans hp4)
    have HV1 := Lib.hid ((hI.val _ k1).trans hv1)
    have HV2 := Lib.hid ((hI.val _ k2).trans hv2)
    have HV3 := Lib.hid ((hI.val _ k3).trans hv3)
    have HV4 := Lib.hid ((hI.val _ k4).trans hv4)
    obtain ⟨np, hnp⟩ : ∃ p, nps c = p := ⟨_, rfl⟩
    have HNp := Lib.hid (hI.nps.trans hnp)
    rw [hnp] at hR
    have HR := Lib.hid hR
    have hw : IntKind.i64.wrap (3 + (p4 : Int)) = 3 + (p4 : Int) := by rw [IntKind.wrap_i64]; omega
    clear hI hx k1 k2 k3 k4 hp1 hp2 hp3 hp4 hv1 hv2 hv3 hv4 hnp hR
    go_wp2_with fail
    refine (count_calls A cp xs meN _ (Kd.C_below HRd.out HB2.out) HCp.out (by omega)).mono ?_
    rw [HP1.out, HV1.out]
    rintro e w3 ⟨rfl, hb⟩
    have HX3 := Aside0.mk (HX2.out.below hb)
    have HB3 := Aside0.mk (below_step HB2.out hb)
    clear hb HX2 HB2
    go_wp2_with fail
    refine (count_calls A cp xs scN _ (Kd.C_below HRd.out HB3.out) HCp.out (by omega)).mono ?_
    rw [HP2.out, HV2.out]
    rintro e w4 ⟨rfl, hb⟩
    have HX4 := Aside0.mk (HX3.out.below hb)
    have HB4 := Aside0.mk (below_step HB3.out hb)
    clear hb HX3 HB3
    go_wp2_with fail
    refine (count_calls A cp xs paN _ (Kd.C_below HRd.out HB4.out) HCp.out (by omega)).mono ?_
    rw [HP3.out, HV3.out]
    rintro e w5 ⟨rfl, hb⟩
    have HX5 := Aside0.mk (HX4.out.below hb)
    have HB5 := Aside0.mk (below_step HB4.out hb)
    clear hb HX4 HB4
    go_wp2_with fail
    refine (count_calls A cp xs auN _ (Kd.C_below HRd.out HB5.out) HCp.out (by omega)).mono ?_
    rw [HP4.out, HV4.out]
    rintro e w6 ⟨rfl, hb⟩
    have HX6 := Aside0.mk (HX5.out.below hb)
    have HB6 := Aside0.mk (below_step HB5.out hb)
    clear hb HX5 HB5
    by_cases c1 : p1 = 1
    case neg =>
      have d1 : ((p1 : Int) != 1) = true := by rw [bne_iff_ne]; omega
      have HE := Lib.hid (show R = none by rw [← HR.out, decide_eq_false (by omega : ¬ p1 + p2 + p3 = 3)]; rfl)
      clear c1
      have x0 := HX6.out.is 0 rfl
      have x1 := HX6.out.is 1 rfl
      have x2 := HX6.out.is 2 rfl
      have x3 := HX6.out.is 3 rfl
      have x4 := HX6.out.is 4 rfl
      have x5 := HX6.out.is 5 rfl
      have y0 := HX6.out.frozen 0
      have y1 := HX6.out.frozen 1
      have y2 := HX6.out.frozen 2
      have y3 := HX6.out.frozen 3
      have y4 := HX6.out.frozen 4
      have y5 := HX6.out.frozen 5
      go_wp2_with fail
      rw [HE.out]
      obtain ⟨w9, hw9, hl, hb9⟩ := six_laid HX6.out HB6.out (by rw [HQ.out]; exact Nat.le_refl _) (.string ⟨#[]⟩) (.string ⟨#[]⟩) (.string ⟨#[]⟩) (.string ⟨#[]⟩) (.bool false) (.int .i64 0)
      rw [← hw9]
      have l0 := hl.is 0 rfl
      have l1 := hl.is 1 rfl
      have l2 := hl.is 2 rfl
      have l3 := hl.is 3 rfl
      have l4 := hl.is 4 rfl
      have l5 := hl.is 5 rfl
      exact bodyPost_ret (v := reqE none) (by simp [results, Tryd.results10, go_sem, l0, l1, l2, l3, l4, l5, reqE]) rfl ⟨rfl, hb9⟩
    have d1 : ((p1 : Int) != 1) = false := by rw [bne_eq_false_iff_eq]; omega
    by_cases c2 : p2 = 1
    case neg =>
      have d2 : ((p2 : Int) != 1) = true := by rw [bne_iff_ne]; omega
      have HE := Lib.hid (show R = none by rw [← HR.out, decide_eq_false (by omega : ¬ p1 + p2 + p3 = 3)]; rfl)
      clear c1 c2
      have x0 := HX6.out.is 0 rfl
      have x1 := HX6.out.is 1 rfl
      have x2 := HX6.out.is 2 rfl
      have x3 := HX6.out.is 3 rfl
      have x4 := HX6.out.is 4 rfl
      have x5 := HX6.out.is 5 rfl
      have y0 := HX6.out.frozen 0
      have y1 := HX6.out.frozen 1
      have y2 := HX6.out.frozen 2
      have y3 := HX6.out.frozen 3
      have y4 := HX6.out.frozen 4
      have y5 := HX6.out.frozen 5
      go_wp2_with fail
      rw [HE.out]
      obtain ⟨w9, hw9, hl, hb9⟩ := six_laid HX6.out HB6.out (by rw [HQ.out]; exact Nat.le_refl _) (.string ⟨#[]⟩) (.string ⟨#[]⟩) (.string ⟨#[]⟩) (.string ⟨#[]⟩) (.bool false) (.int .i64 0)
      rw [← hw9]
      have l0 := hl.is 0 rfl
      have l1 := hl.is 1 rfl
      have l2 := hl.is 2 rfl
      have l3 := hl.is 3 rfl
      have l4 := hl.is 4 rfl
      have l5 := hl.is 5 rfl
      exact bodyPost_ret (v := reqE none) (by simp [results, Tryd.results10, go_sem, l0, l1, l2, l3, l4, l5, reqE]) rfl ⟨rfl, hb9⟩
    have d2 : ((p2 : Int) != 1) = false := by rw [bne_eq_false_iff_eq]; omega
    by_cases c3 : p3 = 1
    case neg =>
      have d3 : ((p3 : Int) != 1) = true := by rw [bne_iff_ne]; omega
      have HE := Lib.hid (show R = none by rw [← HR.out, decide_eq_false (by omega : ¬ p1 + p2 + p3 = 3)]; rfl)
      clear c1 c2 c3
      have x0 := HX6.out.is 0 rfl
      have x1 := HX6.out.is 1 rfl
      have x2 := HX6.out.is 2 rfl
      have x3 := HX6.out.is 3 rfl
      have x4 := HX6.out.is 4 rfl
      have x5 := HX6.out.is 5 rfl
      have y0 := HX6.out.frozen 0
      have y1 := HX6.out.frozen 1
      have y2 := HX6.out.frozen 2
      have y3 := HX6.out.frozen 3
      have y4 := HX6.out.frozen 4
      have y5 := HX6.out.frozen 5
      go_wp2_with fail
      rw [HE.out]
      obtain ⟨w9, hw9, hl, hb9⟩ := six_laid HX6.out HB6.out (by rw [HQ.out]; exact Nat.le_refl _) (.string ⟨#[]⟩) (.string ⟨#[]⟩) (.string ⟨#[]⟩) (.string ⟨#[]⟩) (.bool false) (.int .i64 0)
      rw [← hw9]
      have l0 := hl.is 0 rfl
      have l1 := hl.is 1 rfl
      have l2 := hl.is 2 rfl
      have l3 := hl.is 3 rfl
      have l4 := hl.is 4 rfl
      have l5 := hl.is 5 rfl
      exact bodyPost_ret (v := reqE none) (by simp [results, Tryd.results10, go_sem, l0, l1, l2, l3, l4, l5, reqE]) rfl ⟨rfl, hb9⟩
    have d3 : ((p3 : Int) != 1) = false := by rw [bne_eq_false_iff_eq]; omega
    have HR2 := Lib.hid (show (if (decide (np = 3 + p4) && (!decide (v1 = ⟨#[]⟩) && (!decide (v3 = ⟨#[]⟩) && !decide (v2 = ⟨#[]⟩)))) = true then some (v1, v3, m, n) else none) = R by rw [← HR.out, decide_eq_true (by omega : p1 + p2 + p3 = 3)]; rfl)
    clear HR c1 c2 c3
    go_wp2_with fail
    refine (pseudos_calls A cp xs _ (Kd.C_below HRd.out HB6.out) HCp.out HF.out).mono ?_
    rw [HNp.out]
    rintro e w7 ⟨rfl, hb⟩
    have HX7 := Aside0.mk (HX6.out.below hb)
    have HB7 := Aside0.mk (below_step HB6.out hb)
    clear hb HX6 HB6
    by_cases c4 : np = 3 + p4
    case neg =>
      have d4 : ((np : Int) != 3 + (p4 : Int)) = true := by rw [bne_iff_ne]; omega
      have HE := Lib.hid (show R = none by rw [← HR2.out, decide_eq_false c4]; rfl)
      clear c4
      have x0 := HX7.out.is 0 rfl
      have x1 := HX7.out.is 1 rfl
      have x2 := HX7.out.is 2 rfl
      have x3 := HX7.out.is 3 rfl
      have x4 := HX7.out.is 4 rfl
      have x5 := HX7.out.is 5 rfl
      have y0 := HX7.out.frozen 0
      have y1 := HX7.out.frozen 1
      have y2 := HX7.out.frozen 2
      have y3 := HX7.out.frozen 3
      have y4 := HX7.out.frozen 4
      have y5 := HX7.out.frozen 5
      go_wp2_with fail
      rw [HE.out]
      obtain ⟨w9, hw9, hl, hb9⟩ := six_laid HX7.out HB7.out (by rw [HQ.out]; exact Nat.le_refl _) (.string ⟨#[]⟩) (.string ⟨#[]⟩) (.string ⟨#[]⟩) (.string ⟨#[]⟩) (.bool false) (.int .i64 0)
      rw [← hw9]
      have l0 := hl.is 0 rfl
      have l1 := hl.is 1 rfl
      have l2 := hl.is 2 rfl
      have l3 := hl.is 3 rfl
      have l4 := hl.is 4 rfl
      have l5 := hl.is 5 rfl
      exact bodyPost_ret (v := reqE none) (by simp [results, Tryd.results10, go_sem, l0, l1, l2, l3, l4, l5, reqE]) rfl ⟨rfl, hb9⟩
    have d4 : ((np : Int) != 3 + (p4 : Int)) = false := by rw [bne_eq_false_iff_eq]; omega
    have HR3 := Lib.hid (show (if (!decide (v1 = ⟨#[]⟩) && (!decide (v3 = ⟨#[]⟩) && !decide (v2 = ⟨#[]⟩))) = true then some (v1, v3, m, n) else none) = R by rw [← HR2.out, decide_eq_true c4]; rfl)
    clear HR2 c4
    by_cases g1 : v1 = ⟨#[]⟩
    · obtain ⟨y1, y2, y3⟩ := const_yes g1 (L := []) rfl
      have HE := Lib.hid (show R = none by rw [← HR3.out, decide_eq_true g1]; rfl)
      clear g1 HR3
      have x0 := HX7.out.is 0 rfl
      have x1 := HX7.out.is 1 rfl
      have x2 := HX7.out.is 2 rfl
      have x3 := HX7.out.is 3 rfl
      have x4 := HX7.out.is 4 rfl
      have x5 := HX7.out.is 5 rfl
      have y0 := HX7.out.frozen 0
      have y1 := HX7.out.frozen 1
      have y2 := HX7.out.frozen 2
      have y3 := HX7.out.frozen 3
      have y4 := HX7.out.frozen 4
      have y5 := HX7.out.frozen 5
      go_wp2_with fail
      rw [HE.out]
      obtain ⟨w9, hw9, hl, hb9⟩ := six_laid HX7.out HB7.out (by rw [HQ.out]; exact Nat.le_refl _) (.string ⟨#[]⟩) (.string ⟨#[]⟩) (.string ⟨#[]⟩) (.string ⟨#[]⟩) (.bool false) (.int .i64 0)
      rw [← hw9]
      have l0 := hl.is 0 rfl
      have l1 := hl.is 1 rfl
      have l2 := hl.is 2 rfl
      have l3 := hl.is 3 rfl
      have l4 := hl.is 4 rfl
      have l5 := hl.is 5 rfl
      exact bodyPost_ret (v := reqE none) (by simp [results, Tryd.results10, go_sem, l0, l1, l2, l3, l4, l5, reqE]) rfl ⟨rfl, hb9⟩
    obtain ⟨s1, s2, s3⟩ := const_no g1 (L := []) rfl
    by_cases g2 : v2 = ⟨#[]⟩
    · obtain ⟨y1, y2, y3⟩ := const_yes g2 (L := []) rfl
      have HE := Lib.hid (show R = none by rw [← HR3.out, decide_eq_true g2]; simp)
      clear g1 g2 HR3
      have x0 := HX7.out.is 0 rfl
      have x1 := HX7.out.is 1 rfl
      have x2 := HX7.out.is 2 rfl
      have x3 := HX7.out.is 3 rfl
      have x4 := HX7.out.is 4 rfl
      have x5 := HX7.out.is 5 rfl
      have y0 := HX7.out.frozen 0
      have y1 := HX7.out.frozen 1
      have y2 := HX7.out.frozen 2
      have y3 := HX7.out.frozen 3
      have y4 := HX7.out.frozen 4
      have y5 := HX7.out.frozen 5
      go_wp2_with fail
      rw [HE.out]
      obtain ⟨w9, hw9, hl, hb9⟩ := six_laid HX7.out HB7.out (by rw [HQ.out]; exact Nat.le_refl _) (.string ⟨#[]⟩) (.string ⟨#[]⟩) (.string ⟨#[]⟩) (.string ⟨#[]⟩) (.bool false) (.int .i64 0)
      rw [← hw9]
      have l0 := hl.is 0 rfl
      have l1 := hl.is 1 rfl
      have l2 := hl.is 2 rfl
      have l3 := hl.is 3 rfl
      have l4 := hl.is 4 rfl
      have l5 := hl.is 5 rfl
      exact bodyPost_ret (v := reqE none) (by simp [results, Tryd.results10, go_sem, l0, l1, l2, l3, l4, l5, reqE]) rfl ⟨rfl, hb9⟩
    obtain ⟨s4, s5, s6⟩ := const_no g2 (L := []) rfl
    by_cases g3 : v3 = ⟨#[]⟩
    · obtain ⟨y1, y2, y3⟩ := const_yes g3 (L := []) rfl
      have HE := Lib.hid (show R = none by rw [← HR3.out, decide_eq_true g3]; simp)
      clear g1 g2 g3 HR3
      have x0 := HX7.out.is 0 rfl
      have x1 := HX7.out.is 1 rfl
      have x2 := HX7.out.is 2 rfl
      have x3 := HX7.out.is 3 rfl
      have x4 := HX7.out.is 4 rfl
      have x5 := HX7.out.is 5 rfl
      have y0 := HX7.out.frozen 0
      have y1 := HX7.out.frozen 1
      have y2 := HX7.out.frozen 2
      have y3 := HX7.out.frozen 3
      have y4 := HX7.out.frozen 4
      have y5 := HX7.out.frozen 5
      go_wp2_with fail
      rw [HE.out]
      obtain ⟨w9, hw9, hl, hb9⟩ := six_laid HX7.out HB7.out (by rw [HQ.out]; exact Nat.le_refl _) (.string ⟨#[]⟩) (.string ⟨#[]⟩) (.string ⟨#[]⟩) (.string ⟨#[]⟩) (.bool false) (.int .i64 0)
      rw [← hw9]
      have l0 := hl.is 0 rfl
      have l1 := hl.is 1 rfl
      have l2 := hl.is 2 rfl
      have l3 := hl.is 3 rfl
      have l4 := hl.is 4 rfl
      have l5 := hl.is 5 rfl
      exact bodyPost_ret (v := reqE none) (by simp [results, Tryd.results10, go_sem, l0, l1, l2, l3, l4, l5, reqE]) rfl ⟨rfl, hb9⟩
    obtain ⟨s7, s8, s9⟩ := const_no g3 (L := []) rfl
    have HE := Lib.hid (show R = some (v1, v3, m, n) by rw [← HR3.out, decide_eq_false g1, decide_eq_false g2, decide_eq_false g3]; rfl)
    clear g1 g2 g3 HR3
    go_wp2_with fail
    refine (refRest_calls A cp xs _ (Kd.C_below HRd.out HB7.out) HCp.out HF.out HH.out).mono ?_
    rintro e w8 ⟨rfl, hb⟩
    have HX8 := Aside0.mk (HX7.out.below hb)
    have HB8 := Aside0.mk (below_step HB7.out hb)
    clear hb HX7 HB7
    have x0 := HX8.out.is 0 rfl
    have x1 := HX8.out.is 1 rfl
    have x2 := HX8.out.is 2 rfl
    have x3 := HX8.out.is 3 rfl
    have x4 := HX8.out.is 4 rfl
    have x5 := HX8.out.is 5 rfl
    have y0 := HX8.out.frozen 0
    have y1 := HX8.out.frozen 1
    have y2 := HX8.out.frozen 2
    have y3 := HX8.out.frozen 3
    have y4 := HX8.out.frozen 4
    have y5 := HX8.out.frozen 5
    go_wp2_with fail
    rw [HE.out]
    obtain ⟨w9, hw9, hl, hb9⟩ := six_laid HX8.out HB8.out (by rw [HQ.out]; exact Nat.le_refl _) (.string v1) (.string v3) (.string ⟨#[]⟩) (.string m) (.bool false) (.int .i64 n)
    rw [← hw9]
    have l0 := hl.is 0 rfl
    have l1 := hl.is 1 rfl
    have l2 := hl.is 2 rfl
    have l3 := hl.is 3 rfl
    have l4 := hl.is 4 rfl
    have l5 := hl.is 5 rfl
    exact bodyPost_ret (v := reqE (some (v1, v3, m, n))) (by simp [results, Tryd.results10, go_sem, l0, l1, l2, l3, l4, l5, reqE]) rfl ⟨rfl, hb9⟩
end Go.Proofs.YtdpoookgmckclaaDoor.M
