/- Walks of nuncioref20: Response, Trailers. -/
import Derived.Test.YtdpoookgmckclaaDoorMHRefD
set_option linter.unusedVariables false
set_option linter.unusedSimpArgs false
namespace Go.Proofs.YtdpoookgmckclaaDoor.M
open Go.RowKit Go.Maps Go.Proofs.YtdpoookgmckclaaDoorW.PrintWords Go.Proofs.YtdpoookgmckclaaDoorW.PrintLast Go.Proofs.YtdpoookgmckclaaDoorW.PrintMore
attribute [local go_sem] max2_int min2_int max_two min_two max_three min_three max_four min_four
attribute [local go_sem ↓] Go.wp_at_zero Go.wp_at_succ
set_option maxHeartbeats 8000000 in
set_option maxRecDepth 100000 in
theorem refTrailers_calls (A : Option Addr) (cp : Nat) (xs : List Fl) (w : World) (hr : kF.C w A xs.length xs) (hcp : xs.length ≤ cp) (hF : FewF xs) :
    Calls Tryd.prog 14 #[.slice A xs.length cp] w fun e w' => e = .returned (.int .i64 (trailE (trailersF (xs.map Fl.f)))) ∧ Below w.heap.size w w' := by
  have HRd := Aside0.mk hr
  have HCp := Lib.hid hcp
  have HF := Aside0.mk hF
  have HB := Aside0.mk (Below.refl w.heap.size w)
  have hl := hF.len
  obtain ⟨R, hR⟩ : ∃ R, trailersF (xs.map Fl.f) = R := ⟨_, rfl⟩
  rw [hR]
  unfold trailersF at hR
  clear hr hF hcp
  go_enter Tryd.func14, Tryd.ntmps14
  go_wp2_with fail
  refine (refRight_calls A cp xs _ (Kd.C_below HRd.out HB.out) HCp.out HF.out).mono ?_
  rw [refRight_head]
  rintro e w2 ⟨rfl, hb⟩
  have HB2 := Aside0.mk (below_step HB.out hb)
  clear hb HB
  cases hx : headF (xs.map Fl.f) with
  | none =>
    rw [hx] at hR
    have HE := Lib.hid (show trailE R = 100 by rw [← hR]; rfl)
    clear hx hR
    rw [Option.isSome_none]
    go_wp2_with fail
    go_ret
    exact ⟨by rw [HE.out]; rfl, HB2.out⟩
  | some y =>
    obtain ⟨c, m, n⟩ := y
    rw [hx] at hR
    simp only [] at hR
    rw [Option.isSome_some]
    have hI := head_ref hx
    obtain ⟨np, hnp⟩ : ∃ p, nps c = p := ⟨_, rfl⟩
    have HNp := Lib.hid (hI.nps.trans hnp)
    rw [hnp] at hR
    have HR := Lib.hid hR
    clear hI hx hnp hR
    go_wp2_with fail
    refine (pseudos_calls A cp xs _ (Kd.C_below HRd.out HB2.out) HCp.out HF.out).mono ?_
    rw [HNp.out]
    rintro e w3 ⟨rfl, hb⟩
    have HB3 := Aside0.mk (below_step HB2.out hb)
    clear hb HB2
    by_cases h0 : np = 0
    · have d1 : decide ((0 : Int) < (np : Int)) = false := decide_eq_false (by omega)
      have d2 : decide (0 < np) = false := decide_eq_false (by omega)
      have d3 : ¬ 0 < np := by omega
      have HE := Lib.hid (show trailE R = 0 by rw [← HR.out, decide_eq_true h0]; rfl)
      clear h0
      go_wp2_with fail
      go_ret
      exact ⟨by rw [HE.out]; rfl, HB3.out⟩
    · have d1 : decide ((0 : Int) < (np : Int)) = true := decide_eq_true (by omega)
      have d2 : decide (0 < np) = true := decide_eq_true (by omega)
      have d3 : 0 < np := by omega
      have HE := Lib.hid (show trailE R = 100 by rw [← HR.out, decide_eq_false h0]; rfl)
      clear h0
      go_wp2_with fail
      go_ret
      exact ⟨by rw [HE.out]; rfl, HB3.out⟩
/-- What the document's Response answers. -/
def resE4 : Option (Int × ByteArray × Int) → Value
  | none => .tuple #[.int .i64 0, .string ⟨#[]⟩, .int .i64 0, .int .i64 100]
  | some (k, m, n) => .tuple #[.int .i64 k, .string m, .int .i64 n, .int .i64 0]
set_option maxHeartbeats 16000000 in
set_option maxRecDepth 100000 in
theorem refResponse_calls (A : Option Addr) (cp : Nat) (xs : List Fl) (w : World) (hr : kF.C w A xs.length xs) (hcp : xs.length ≤ cp) (hF : FewF xs) :
    Calls Tryd.prog 12 #[.slice A xs.length cp] w fun e w' => e = .returned (resE4 (responseF (xs.map Fl.f))) ∧ Below w.heap.size w w' := by
  have HRd := Aside0.mk hr
  have HCp := Lib.hid hcp
  have HF := Aside0.mk hF
  have hl := hF.len
  have HB1 := Aside0.mk (Below.refl w.heap.size w)
  obtain ⟨R, hR⟩ : ∃ R, responseF (xs.map Fl.f) = R := ⟨_, rfl⟩
  rw [hR]
  unfold responseF at hR
  have hvs := valN_fl hF.v stN
  obtain ⟨C, hC⟩ : ∃ C, cntN (xs.map Fl.f) stN = C := ⟨_, rfl⟩
  obtain ⟨V, hV⟩ : ∃ V, valN (xs.map Fl.f) stN = V := ⟨_, rfl⟩
  rw [hV] at hvs
  have HCn := Lib.hid hC
  have HVn := Lib.hid hV
  have HVs := Lib.hid hvs
  clear hr hF hcp hC hV hvs
  go_enter Tryd.func12, Tryd.ntmps12
  go_wp2_with fail
  refine (count_calls A cp xs stN _ (Kd.C_below HRd.out HB1.out) HCp.out (by omega)).mono ?_
  rw [HCn.out, HVn.out]
  rintro e w2 ⟨rfl, hb⟩
  have HB2 := Aside0.mk (below_step HB1.out hb)
  clear hb HB1
  go_wp2_with fail
  refine (refRight_calls A cp xs _ (Kd.C_below HRd.out HB2.out) HCp.out HF.out).mono ?_
  rw [refRight_head]
  rintro e w3 ⟨rfl, hb⟩
  have HB3 := Aside0.mk (below_step HB2.out hb)
  clear hb HB2
  cases hx : headF (xs.map Fl.f) with
  | none =>
    rw [hx] at hR
    have HE := Lib.hid (show R = none from hR.symm)
    clear hx hR
    rw [Option.isSome_none]
    go_wp2_with fail
    rw [HE.out]
    exact bodyPost_ret (v := resE4 none) (by simp [results, Tryd.results12, go_sem, resE4]) rfl ⟨rfl, HB3.out⟩
  | some y =>
    obtain ⟨c, m, n⟩ := y
    rw [hx] at hR
    simp only [] at hR
    rw [Option.isSome_some]
    have hI := head_ref hx
    have HH := Aside0.mk hx
    have k1 : countS stN = true := by decide +kernel
    have hc := hI.cnt _ k1
    have hv := hI.val _ k1
    rw [HCn.out] at hc
    rw [HVn.out] at hv
    obtain ⟨b, hb⟩ : ∃ b, hasN c stN = b := ⟨_, rfl⟩
    rw [hb] at hc hR
    rw [← hv] at hR
    obtain ⟨np, hnp⟩ : ∃ p, nps c = p := ⟨_, rfl⟩
    have HNp := Lib.hid (hI.nps.trans hnp)
    rw [hnp] at hR
    have h3 := @three_digits V
    obtain ⟨⟨k, ok⟩, hq⟩ : ∃ x, decF V 599 = x := ⟨_, rfl⟩
    rw [hq] at hR h3
    have HD := Lib.hid hq
    have HR := Lib.hid hR
    have H3 := Lib.hid h3
    have HCb := Lib.hid hc
    clear hI hx k1 hnp hR hc hv hb h3 hq
    cases b with
    | false =>
      have hC0 : C = 0 := HCb.out
      have d1 : ((C : Int) != 1) = true := by rw [bne_iff_ne]; omega
      have HE := Lib.hid (show R = none by rw [← HR.out, if_neg (fun h => absurd h.2 (by decide))])
      clear hC0
      go_wp2_with fail
      rw [HE.out]
      exact bodyPost_ret (v := resE4 none) (by simp [results, Tryd.results12, go_sem, resE4]) rfl ⟨rfl, HB3.out⟩
    | true =>
    have hC0 : C = 1 := HCb.out
    have d1 : ((C : Int) != 1) = false := by rw [bne_eq_false_iff_eq]; omega
    clear hC0
    go_wp2_with fail
    refine (pseudos_calls A cp xs _ (Kd.C_below HRd.out HB3.out) HCp.out HF.out).mono ?_
    rw [HNp.out]
    rintro e w4 ⟨rfl, hb⟩
    have HB4 := Aside0.mk (below_step HB3.out hb)
    clear hb HB3
    by_cases c4 : np = 1
    case neg =>
      have d4 : ((np : Int) != 1) = true := by rw [bne_iff_ne]; omega
      have HE := Lib.hid (show R = none by rw [← HR.out, if_neg (fun h => c4 h.1)])
      clear c4
      go_wp2_with fail
      rw [HE.out]
      exact bodyPost_ret (v := resE4 none) (by simp [results, Tryd.results12, go_sem, resE4]) rfl ⟨rfl, HB4.out⟩
    have d4 : ((np : Int) != 1) = false := by rw [bne_eq_false_iff_eq]; omega
    have HR2 := Lib.hid (show (if ok = true ∧ 100 ≤ k then some (k, m, n) else none) = R by rw [← HR.out]; exact (if_pos ⟨c4, by first | rfl | trivial⟩).symm)
    clear c4 HR
    by_cases c5 : V.size = 3
    case neg =>
      have d5 : ((V.size : Int) != 3) = true := by rw [bne_iff_ne]; omega
      have HE := Lib.hid (show R = none by rw [← HR2.out, if_neg (fun h => c5 (H3.out h.1 h.2))])
      clear c5
      go_wp2_with fail
      rw [HE.out]
      exact bodyPost_ret (v := resE4 none) (by simp [results, Tryd.results12, go_sem, resE4]) rfl ⟨rfl, HB4.out⟩
    have d5 : ((V.size : Int) != 3) = false := by rw [bne_eq_false_iff_eq]; omega
    clear c5
    go_wp2_with fail
    refine (refDecimal_calls V 599 _ (by have := HVs.out; omega)).mono ?_
    rw [HD.out]
    rintro e w5 ⟨rfl, hb⟩
    have HB5 := Aside0.mk (below_step HB4.out hb)
    clear hb HB4
    unfold decE
    cases ok with
    | false =>
      have HE := Lib.hid (show R = none by rw [← HR2.out, if_neg (fun h => absurd h.1 (by decide))])
      go_wp2_with fail
      rw [HE.out]
      exact bodyPost_ret (v := resE4 none) (by simp [results, Tryd.results12, go_sem, resE4]) rfl ⟨rfl, HB5.out⟩
    | true =>
    by_cases c6 : 100 ≤ k
    case neg =>
      have d6 : decide (k < 100) = true := decide_eq_true (by omega)
      have HE := Lib.hid (show R = none by rw [← HR2.out, if_neg (fun h => c6 h.2)])
      clear c6
      go_wp2_with fail
      rw [HE.out]
      exact bodyPost_ret (v := resE4 none) (by simp [results, Tryd.results12, go_sem, resE4]) rfl ⟨rfl, HB5.out⟩
    have d6 : decide (k < 100) = false := decide_eq_false (by omega)
    have HE := Lib.hid (show R = some (k, m, n) by rw [← HR2.out, if_pos ⟨rfl, c6⟩])
    clear c6
    go_wp2_with fail
    refine (refRest_calls A cp xs _ (Kd.C_below HRd.out HB5.out) HCp.out HF.out HH.out).mono ?_
    rintro e w6 ⟨rfl, hb⟩
    have HB6 := Aside0.mk (below_step HB5.out hb)
    clear hb HB5
    go_wp2_with fail
    rw [HE.out]
    exact bodyPost_ret (v := resE4 (some (k, m, n))) (by simp [results, Tryd.results12, go_sem, resE4]) rfl ⟨rfl, HB6.out⟩
end Go.Proofs.YtdpoookgmckclaaDoor.M
