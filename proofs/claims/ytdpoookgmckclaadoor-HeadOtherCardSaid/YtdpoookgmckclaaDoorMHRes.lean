/- Walk of package head: Response. -/
import Derived.Test.YtdpoookgmckclaaDoorMHReq
set_option linter.unusedVariables false
set_option linter.unusedSimpArgs false
namespace Go.Proofs.YtdpoookgmckclaaDoor.M
open Go.RowKit Go.Maps Go.Proofs.YtdpoookgmckclaaDoorW.PrintWords Go.Proofs.YtdpoookgmckclaaDoorW.PrintLast Go.Proofs.YtdpoookgmckclaaDoorW.PrintMore
attribute [local go_sem] max2_int min2_int max_two min_two max_three min_three max_four min_four
attribute [local go_sem ↓] Go.wp_at_zero Go.wp_at_succ
/-- What Response answers. -/
def resE : Option (Int × ByteArray × Int) → Value
  | none => .tuple #[.agg #[.int .i64 0, .string ⟨#[]⟩, .int .i64 0], .int .i64 100]
  | some (k, m, n) => .tuple #[.agg #[.int .i64 k, .string m, .int .i64 n], .int .i64 0]
theorem three_laid {w0 w : World} {q T B : Nat} {a0 a1 a2 : Value} (h : SAt w q #[a0, a1, a2] T) (hb : Below B w0 w) (hq : B ≤ q) (b0 b1 b2 : Value) :
    ∃ w9, w9 = ((w.setCell ⟨q, 0, none⟩ b0).setCell ⟨q, 1, none⟩ b1).setCell ⟨q, 2, none⟩ b2 ∧ SAt w9 q #[b0, b1, b2] T ∧ Below B w0 w9 :=
  ⟨_, rfl, ((h.set 0 b0).set 1 b1).set 2 b2, ((hb.setCell hq b0).setCell hq b1).setCell hq b2⟩
set_option maxHeartbeats 8000000 in
set_option maxRecDepth 100000 in
theorem response_calls (A : Option Addr) (cp : Nat) (xs : List Fl) (w : World) (hr : kF.C w A xs.length xs) (hcp : xs.length ≤ cp) (hF : FewF xs) :
    Calls Tryd.prog 11 #[.slice A xs.length cp] w fun e w' => e = .returned (resE (responseF (xs.map Fl.f))) ∧ Below w.heap.size w w' := by
  have hal := below_alloc (Below.refl w.heap.size w) (.cells #[.int .i64 0, .string ⟨#[]⟩, .int .i64 0] 33 (0, 0))
  have HH := Aside0.mk (head_calls A cp xs (w.alloc (.cells #[.int .i64 0, .string ⟨#[]⟩, .int .i64 0] 33 (0, 0))) (Kd.C_below hr hal) hcp hF)
  have HX := Aside0.mk (SAt.new w #[.int .i64 0, .string ⟨#[]⟩, .int .i64 0] 33)
  have HB := Aside0.mk hal
  have HFv := Aside0.mk hF.v
  obtain ⟨R, hR⟩ : ∃ R, responseF (xs.map Fl.f) = R := ⟨_, rfl⟩
  rw [hR]
  unfold responseF at hR
  clear hr hF hal
  go_enter Tryd.func11, Tryd.ntmps11
  go_wp2_with fail
  generalize w.alloc (.cells #[.int .i64 0, .string ⟨#[]⟩, .int .i64 0] 33 (0, 0)) = w1 at *
  obtain ⟨q, hq⟩ : ∃ q, w.heap.size = q := ⟨_, rfl⟩
  have hX := HX.out
  rw [hq] at hX
  have HX := Aside0.mk hX
  have HQ := Lib.hid hq
  rw [hq]
  clear hq hX
  refine (HH.out).mono ?_
  intro e w2 hh
  have HX2 := Aside0.mk (HX.out.below hh.below)
  have HB2 := Aside0.mk (below_step HB.out hh.below)
  clear HX HB HH
  cases hx : headF (xs.map Fl.f) with
  | none =>
    rw [hx] at hR
    obtain rfl := hh.bad hx
    subst hR
    clear hh hx
    have x0 := HX2.out.is 0 rfl
    have x1 := HX2.out.is 1 rfl
    have x2 := HX2.out.is 2 rfl
    have y0 := HX2.out.frozen 0
    have y1 := HX2.out.frozen 1
    have y2 := HX2.out.frozen 2
    go_wp2_with fail
    obtain ⟨w9, hw9, hl, hb9⟩ := three_laid HX2.out HB2.out (by rw [HQ.out]; exact Nat.le_refl _) (.int .i64 0) (.string ⟨#[]⟩) (.int .i64 0)
    rw [← hw9]
    have l0 := hl.is 0 rfl
    have l1 := hl.is 1 rfl
    have l2 := hl.is 2 rfl
    exact bodyPost_ret (v := resE none) (by simp [results, Tryd.results11, go_sem, l0, l1, l2, resE]) rfl ⟨rfl, hb9⟩
  | some y =>
    obtain ⟨c, m, n⟩ := y
    rw [hx] at hR
    simp only [] at hR
    obtain ⟨g, mt, mv, N, rfl, hT⟩ := hh.good c m n hx
    have HT := Aside0.mk hT
    have hvs : (valN c stN).size ≤ 100000 := by
      have hg : headGo (xs.map Fl.f) 0 [] = some c := by
        unfold headF at hx
        cases hgo : headGo (xs.map Fl.f) 0 [] with
        | none => rw [hgo] at hx; exact absurd hx (by simp)
        | some c' =>
          rw [hgo] at hx
          simp only [] at hx
          have hc' : c = c' := by
            unfold endH at hx
            split at hx
            · split at hx
              · exact (Prod.mk.inj (Option.some.inj hx)).1.symm
              · exact absurd hx (by simp)
            · exact (Prod.mk.inj (Option.some.inj hx)).1.symm
          rw [hc']
      exact go_vals HFv.out hg stN
    obtain ⟨b, hb⟩ : ∃ b, hasN c stN = b := ⟨_, rfl⟩
    obtain ⟨v, hv⟩ : ∃ v, valN c stN = v := ⟨_, rfl⟩
    rw [hb, hv] at hR
    rw [hv] at hvs
    have HVs := Lib.hid hvs
    have HV := Lib.hid hv
    have HBb := Lib.hid hb
    have hl1 : (Instr.lookup 50 (.map (some mt)) (.string ⟨#[58, 115, 116, 97, 116, 117, 115]⟩) false).run Tryd.prog w2 = .ok (.int .i64 (b2n b : Nat)) w2 := by rw [← hb]; exact HT.out.lookT ⟨#[58, 115, 116, 97, 116, 117, 115]⟩ (by decide)
    have t0 := HT.out.box.is 0 rfl
    have t1 := HT.out.box.is 1 rfl
    have t2 := HT.out.box.is 2 rfl
    clear hh hx hT hb hv hvs
    by_cases c1 : nps c = 1
    case neg =>
      have d1 : (((nps c : Nat) : Int) != 1) = true := by rw [bne_iff_ne]; omega
      have d2 : (nps c != 1) = true := by rw [bne_iff_ne]; exact c1
      have HE := Lib.hid (show R = none by rw [← hR, if_neg (fun e => c1 e.1)])
      clear c1 hR
      have x0 := HX2.out.is 0 rfl
      have x1 := HX2.out.is 1 rfl
      have x2 := HX2.out.is 2 rfl
      have y0 := HX2.out.frozen 0
      have y1 := HX2.out.frozen 1
      have y2 := HX2.out.frozen 2
      go_wp2_with fail
      rw [HE.out]
      obtain ⟨w9, hw9, hl, hb9⟩ := three_laid HX2.out HB2.out (by rw [HQ.out]; exact Nat.le_refl _) (.int .i64 0) (.string ⟨#[]⟩) (.int .i64 0)
      rw [← hw9]
      have l0 := hl.is 0 rfl
      have l1 := hl.is 1 rfl
      have l2 := hl.is 2 rfl
      exact bodyPost_ret (v := resE none) (by simp [results, Tryd.results11, go_sem, l0, l1, l2, resE]) rfl ⟨rfl, hb9⟩
    have d1 : (((nps c : Nat) : Int) != 1) = false := by rw [bne_eq_false_iff_eq]; omega
    have d2 : (nps c != 1) = false := by rw [bne_eq_false_iff_eq]; exact c1
    cases b with
    | false =>
      have hl1 : (Instr.lookup 50 (.map (some mt)) (.string ⟨#[58, 115, 116, 97, 116, 117, 115]⟩) false).run Tryd.prog w2 = .ok (.int .i64 0) w2 := hl1
      have HE := Lib.hid (show R = none by rw [← hR, if_neg (fun e => absurd e.2 (by decide))])
      clear c1 hR
      have x0 := HX2.out.is 0 rfl
      have x1 := HX2.out.is 1 rfl
      have x2 := HX2.out.is 2 rfl
      have y0 := HX2.out.frozen 0
      have y1 := HX2.out.frozen 1
      have y2 := HX2.out.frozen 2
      go_wp2_with fail
      rw [HE.out]
      obtain ⟨w9, hw9, hl, hb9⟩ := three_laid HX2.out HB2.out (by rw [HQ.out]; exact Nat.le_refl _) (.int .i64 0) (.string ⟨#[]⟩) (.int .i64 0)
      rw [← hw9]
      have l0 := hl.is 0 rfl
      have l1 := hl.is 1 rfl
      have l2 := hl.is 2 rfl
      exact bodyPost_ret (v := resE none) (by simp [results, Tryd.results11, go_sem, l0, l1, l2, resE]) rfl ⟨rfl, hb9⟩
    | true =>
    have hl1 : (Instr.lookup 50 (.map (some mt)) (.string ⟨#[58, 115, 116, 97, 116, 117, 115]⟩) false).run Tryd.prog w2 = .ok (.int .i64 1) w2 := hl1
    have hlv : (Instr.lookup 51 (.map (some mv)) (.string ⟨#[58, 115, 116, 97, 116, 117, 115]⟩) false).run Tryd.prog w2 = .ok (.string v) w2 := by rw [← HV.out]; exact HT.out.lookV ⟨#[58, 115, 116, 97, 116, 117, 115]⟩ (by decide)
    rw [if_pos ⟨c1, rfl⟩] at hR
    obtain ⟨⟨k, ok⟩, hq⟩ : ∃ x, decF v 599 = x := ⟨_, rfl⟩
    rw [hq] at hR
    simp only [] at hR
    have HDc := Lib.hid hq
    have HR := Lib.hid hR
    clear c1 hR hq
    go_wp2_with fail
    refine (decimal_calls v 599 _ (by have := HVs.out; omega)).mono ?_
    rw [HDc.out]
    rintro e w3 ⟨rfl, hb⟩
    have HT3 := Aside0.mk (HT.out.step hb)
    have HX3 := Aside0.mk (HX2.out.below hb)
    have HB3 := Aside0.mk (below_step HB2.out hb)
    clear hb t0 t1 t2 hl1 hlv HT HX2 HB2
    unfold decE
    have x0 := HX3.out.is 0 rfl
    have x1 := HX3.out.is 1 rfl
    have x2 := HX3.out.is 2 rfl
    have y0 := HX3.out.frozen 0
    have y1 := HX3.out.frozen 1
    have y2 := HX3.out.frozen 2
    cases ok with
    | false =>
      have HE := Lib.hid (show R = none by rw [← HR.out, if_neg (fun e => absurd e.1 (by decide))])
      go_wp2_with fail
      rw [HE.out]
      obtain ⟨w9, hw9, hl, hb9⟩ := three_laid HX3.out HB3.out (by rw [HQ.out]; exact Nat.le_refl _) (.int .i64 0) (.string ⟨#[]⟩) (.int .i64 0)
      rw [← hw9]
      have l0 := hl.is 0 rfl
      have l1 := hl.is 1 rfl
      have l2 := hl.is 2 rfl
      exact bodyPost_ret (v := resE none) (by simp [results, Tryd.results11, go_sem, l0, l1, l2, resE]) rfl ⟨rfl, hb9⟩
    | true =>
    by_cases c2 : 100 ≤ k
    case neg =>
      have d3 : decide (k < 100) = true := decide_eq_true (by omega)
      have HE := Lib.hid (show R = none by rw [← HR.out, if_neg (fun e => c2 e.2)])
      clear c2
      go_wp2_with fail
      rw [HE.out]
      obtain ⟨w9, hw9, hl, hb9⟩ := three_laid HX3.out HB3.out (by rw [HQ.out]; exact Nat.le_refl _) (.int .i64 0) (.string ⟨#[]⟩) (.int .i64 0)
      rw [← hw9]
      have l0 := hl.is 0 rfl
      have l1 := hl.is 1 rfl
      have l2 := hl.is 2 rfl
      exact bodyPost_ret (v := resE none) (by simp [results, Tryd.results11, go_sem, l0, l1, l2, resE]) rfl ⟨rfl, hb9⟩
    have d3 : decide (k < 100) = false := decide_eq_false (by omega)
    have HE := Lib.hid (show R = some (k, m, n) by rw [← HR.out, if_pos ⟨rfl, c2⟩])
    clear c2 x0 x1 x2 y0 y1 y2
    go_wp2_with fail
    have HT4 := Aside0.mk HT3.out.drew
    have HX4 := Aside0.mk HX3.out.drew
    have HB4 := Aside0.mk HB3.out.drew
    have t3 := HT4.out.box.is 3 rfl
    have t4 := HT4.out.box.is 4 rfl
    refine dr_start (fun w' => w'.cell? ⟨g, 3, none⟩ = some (.string m) ∧ w'.cell? ⟨g, 4, none⟩ = some (.int .i64 n)) [10] (by kernel_rfl) ⟨t3, t4⟩ (fun hS => ?_)
    repeat (first | (refine dr_pure (by kernel_rfl) (by rfl) (fun _ _ _ h => h) (v := ?_) (a' := ?_) ?_ ?_ ?_; rotate_left 2; (focus (intro w'; go_simp; with_reducible rfl)); (focus (simp only [Act.put, List.setIfInBounds_toArray, List.set_cons_zero, List.set_cons_succ]; rfl))) | (refine dr_take (by kernel_rfl) (by rfl) (fun _ _ _ h => h) hS (v := ?_) (a' := ?_) ?_ ?_ ?_; rotate_left 2; (focus (intro w' hS'; go_simp; with_reducible rfl)); (focus (simp only [Act.put, List.setIfInBounds_toArray, List.set_cons_zero, List.set_cons_succ]; rfl))) | (refine dr_off (by kernel_rfl) (by rfl) (fun _ _ _ h => h) (a' := ?_) ?_ ?_; rotate_left; (focus (simp only [Act.put, List.setIfInBounds_toArray, List.set_cons_zero, List.set_cons_succ]; rfl))))
    clear t3 t4 hS
    generalize w3.drew = w4 at *
    obtain ⟨w8, hw8, hl, hb8⟩ := three_laid HX4.out HB4.out (by rw [HQ.out]; exact Nat.le_refl _) (.int .i64 k) (.string m) (.int .i64 n)
    have x0 := HX4.out.is 0 rfl
    have x1 := HX4.out.is 1 rfl
    have x2 := HX4.out.is 2 rfl
    have y0 := HX4.out.frozen 0
    have y1 := HX4.out.frozen 1
    have y2 := HX4.out.frozen 2
    refine dr_store w8 (by kernel_rfl) (by kernel_rfl) (by rfl) rfl ⟨by rw [hw8]; go_simp; done⟩ ?_
    repeat (first | (refine dr_pure (by kernel_rfl) (by rfl) (fun _ _ _ h => h) (v := ?_) (a' := ?_) ?_ ?_ ?_; rotate_left 2; (focus (intro w'; go_simp; with_reducible rfl)); (focus (simp only [Act.put, List.setIfInBounds_toArray, List.set_cons_zero, List.set_cons_succ]; rfl))) | (refine dr_take (by kernel_rfl) (by rfl) (fun _ _ _ h => h) hS (v := ?_) (a' := ?_) ?_ ?_ ?_; rotate_left 2; (focus (intro w' hS'; go_simp; with_reducible rfl)); (focus (simp only [Act.put, List.setIfInBounds_toArray, List.set_cons_zero, List.set_cons_succ]; rfl))) | (refine dr_off (by kernel_rfl) (by rfl) (fun _ _ _ h => h) (a' := ?_) ?_ ?_; rotate_left; (focus (simp only [Act.put, List.setIfInBounds_toArray, List.set_cons_zero, List.set_cons_succ]; rfl))))
    refine dr_done (by kernel_rfl) ?_
    clear x0 x1 x2 y0 y1 y2
    have l0 := hl.is 0 rfl
    have l1 := hl.is 1 rfl
    have l2 := hl.is 2 rfl
    go_wp2_with fail
    rw [HE.out]
    exact bodyPost_ret (v := resE (some (k, m, n))) (by simp [results, Tryd.results11, go_sem, l0, l1, l2, resE]) rfl ⟨rfl, hb8⟩
end Go.Proofs.YtdpoookgmckclaaDoor.M
