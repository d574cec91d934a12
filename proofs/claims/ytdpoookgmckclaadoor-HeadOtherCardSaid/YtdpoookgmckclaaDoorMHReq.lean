/- Walks of package head: Trailers, Request. -/
import Derived.Test.YtdpoookgmckclaaDoorMHHead
set_option linter.unusedVariables false
set_option linter.unusedSimpArgs false
namespace Go.Proofs.YtdpoookgmckclaaDoor.M
open Go.RowKit Go.Maps Go.Proofs.YtdpoookgmckclaaDoorW.PrintWords Go.Proofs.YtdpoookgmckclaaDoorW.PrintLast Go.Proofs.YtdpoookgmckclaaDoorW.PrintMore
attribute [local go_sem] max2_int min2_int max_two min_two max_three min_three max_four min_four
attribute [local go_sem ↓] Go.wp_at_zero Go.wp_at_succ
/-- What Trailers answers. -/
def trailE (b : Bool) : Int := if b = true then 0 else 100
theorem six_laid {w0 w : World} {q T B : Nat} {a0 a1 a2 a3 a4 a5 : Value} (h : SAt w q #[a0, a1, a2, a3, a4, a5] T) (hb : Below B w0 w) (hq : B ≤ q) (b0 b1 b2 b3 b4 b5 : Value) :
    ∃ w9, w9 = (((((w.setCell ⟨q, 0, none⟩ b0).setCell ⟨q, 1, none⟩ b1).setCell ⟨q, 2, none⟩ b2).setCell ⟨q, 3, none⟩ b3).setCell ⟨q, 4, none⟩ b4).setCell ⟨q, 5, none⟩ b5 ∧ SAt w9 q #[b0, b1, b2, b3, b4, b5] T ∧ Below B w0 w9 :=
  ⟨_, rfl, (((((h.set 0 b0).set 1 b1).set 2 b2).set 3 b3).set 4 b4).set 5 b5, (((((hb.setCell hq b0).setCell hq b1).setCell hq b2).setCell hq b3).setCell hq b4).setCell hq b5⟩
set_option maxHeartbeats 4000000 in
set_option maxRecDepth 100000 in
theorem trailers_calls (A : Option Addr) (cp : Nat) (xs : List Fl) (w : World) (hr : kF.C w A xs.length xs) (hcp : xs.length ≤ cp) (hF : FewF xs) :
    Calls Tryd.prog 13 #[.slice A xs.length cp] w fun e w' => e = .returned (.int .i64 (trailE (trailersF (xs.map Fl.f)))) ∧ Below w.heap.size w w' := by
  have HH := Aside0.mk (head_calls A cp xs w hr hcp hF)
  obtain ⟨R, hR⟩ : ∃ R, trailersF (xs.map Fl.f) = R := ⟨_, rfl⟩
  rw [hR]
  obtain ⟨T, hT⟩ : ∃ T, trailE R = T := ⟨_, rfl⟩
  rw [hT]
  have HTr := Lib.hid hT
  unfold trailersF at hR
  clear hT
  clear hr hF
  go_enter Tryd.func13, Tryd.ntmps13
  go_wp2_with fail
  refine (HH.out).mono ?_
  intro e w2 hh
  cases hx : headF (xs.map Fl.f) with
  | none =>
    rw [hx] at hR
    obtain rfl := hh.bad hx
    have HB := Aside0.mk hh.below
    have HTv := Lib.hid (show T = 100 by rw [← HTr.out, ← hR]; rfl)
    clear hh hx hR
    go_wp2_with fail
    go_ret
    exact ⟨by rw [HTv.out]; rfl, HB.out⟩
  | some y =>
    obtain ⟨c, m, n⟩ := y
    rw [hx] at hR
    simp only [] at hR
    obtain ⟨g, mt, mv, N, rfl, hT⟩ := hh.good c m n hx
    have HT := Aside0.mk hT
    have t2 := hT.box.is 2 rfl
    have HR := Lib.hid hR
    clear hh hx hT hR
    by_cases hp : nps c = 0
    · have d1 : decide ((0 : Int) < ((nps c : Nat) : Int)) = false := decide_eq_false (by omega)
      have d2 : decide (0 < nps c) = false := decide_eq_false (by omega)
      have HRt := Lib.hid (show T = 0 by rw [← HTr.out, ← HR.out, decide_eq_true hp]; rfl)
      clear hp
      go_wp2_with fail
      go_ret
      exact ⟨by rw [HRt.out]; rfl, HT.out.below⟩
    · have d1 : decide ((0 : Int) < ((nps c : Nat) : Int)) = true := decide_eq_true (by omega)
      have d2 : decide (0 < nps c) = true := decide_eq_true (by omega)
      have HRt := Lib.hid (show T = 100 by rw [← HTr.out, ← HR.out, decide_eq_false hp]; rfl)
      clear hp
      go_wp2_with fail
      go_ret
      exact ⟨by rw [HRt.out]; rfl, HT.out.below⟩
/-- What Request answers. -/
def reqE : Option (ByteArray × ByteArray × ByteArray × Int) → Value
  | none => .tuple #[.agg #[.string ⟨#[]⟩, .string ⟨#[]⟩, .string ⟨#[]⟩, .string ⟨#[]⟩, .bool false, .int .i64 0], .int .i64 100]
  | some (m, p, t, n) => .tuple #[.agg #[.string m, .string p, .string ⟨#[]⟩, .string t, .bool false, .int .i64 n], .int .i64 0]
theorem undrew' {B : Nat} {w w1 : World} (h : Below B w.drew w1) : Below B w w1 := ⟨h.os, h.tape, h.output, h.size, h.block⟩
theorem b2n_le (b : Bool) : b2n b ≤ 1 := by unfold b2n; split <;> omega
set_option maxHeartbeats 8000000 in
set_option maxRecDepth 100000 in
theorem request_calls (A : Option Addr) (cp : Nat) (xs : List Fl) (w : World) (hr : kF.C w A xs.length xs) (hcp : xs.length ≤ cp) (hF : FewF xs) :
    Calls Tryd.prog 9 #[.slice A xs.length cp] w fun e w' => e = .returned (reqE (requestF (xs.map Fl.f))) ∧ Below w.heap.size w w' := by
  have hal := below_alloc (Below.refl w.heap.size w) (.cells #[.string ⟨#[]⟩, .string ⟨#[]⟩, .string ⟨#[]⟩, .string ⟨#[]⟩, .bool false, .int .i64 0] 26 (0, 0))
  have HH := Aside0.mk (head_calls A cp xs (w.alloc (.cells #[.string ⟨#[]⟩, .string ⟨#[]⟩, .string ⟨#[]⟩, .string ⟨#[]⟩, .bool false, .int .i64 0] 26 (0, 0))) (Kd.C_below hr hal) hcp hF)
  have HX := Aside0.mk (SAt.new w #[.string ⟨#[]⟩, .string ⟨#[]⟩, .string ⟨#[]⟩, .string ⟨#[]⟩, .bool false, .int .i64 0] 26)
  have HB := Aside0.mk hal
  obtain ⟨R, hR⟩ : ∃ R, requestF (xs.map Fl.f) = R := ⟨_, rfl⟩
  rw [hR]
  unfold requestF at hR
  clear hr hF hal
  go_enter Tryd.func9, Tryd.ntmps9
  go_wp2_with fail
  generalize w.alloc (.cells #[.string ⟨#[]⟩, .string ⟨#[]⟩, .string ⟨#[]⟩, .string ⟨#[]⟩, .bool false, .int .i64 0] 26 (0, 0)) = w1 at *
  obtain ⟨q, hq⟩ : ∃ q, w.heap.size = q := ⟨_, rfl⟩
  have hX := HX.out
  rw [hq] at hX
  have HX := Aside0.mk hX
  have HQ := Lib.hid hq
  rw [hq]
  clear hq hX
  refine (HH.out).mono ?_
  intro e w2 hh
  have HX2 := Aside0.mk (HX.out.below hh.below)
  have HB2 := Aside0.mk (below_step HB.out hh.below)
  clear HX HB HH
  cases hx : headF (xs.map Fl.f) with
  | none =>
    rw [hx] at hR
    obtain rfl := hh.bad hx
    subst hR
    clear hh hx
    go_wp2_with fail
    refine dr_start (fun w' => True) [] (by kernel_rfl) trivial (fun hS => ?_)
    repeat (first | (refine dr_pure (by kernel_rfl) (by rfl) (fun _ _ _ h => h) (v := ?_) (a' := ?_) ?_ ?_ ?_; rotate_left 2; (focus (intro w'; go_simp; with_reducible rfl)); (focus (simp only [Act.put, List.setIfInBounds_toArray, List.set_cons_zero, List.set_cons_succ]; rfl))) | (refine dr_take (by kernel_rfl) (by rfl) (fun _ _ _ h => h) hS (v := ?_) (a' := ?_) ?_ ?_ ?_; rotate_left 2; (focus (intro w' hS'; go_simp; with_reducible rfl)); (focus (simp only [Act.put, List.setIfInBounds_toArray, List.set_cons_zero, List.set_cons_succ]; rfl))) | (refine dr_off (by kernel_rfl) (by rfl) (fun _ _ _ h => h) (a' := ?_) ?_ ?_; rotate_left; (focus (simp only [Act.put, List.setIfInBounds_toArray, List.set_cons_zero, List.set_cons_succ]; rfl))))
    refine dr_done (by kernel_rfl) ?_
    have HX3 := Aside0.mk HX2.out.drew
    have HB3 := Aside0.mk HB2.out.drew
    clear HX2 HB2 hS
    generalize w2.drew = w3 at *
    have x0 := HX3.out.is 0 rfl
    have x1 := HX3.out.is 1 rfl
    have x2 := HX3.out.is 2 rfl
    have x3 := HX3.out.is 3 rfl
    have x4 := HX3.out.is 4 rfl
    have x5 := HX3.out.is 5 rfl
    have y0 := HX3.out.frozen 0
    have y1 := HX3.out.frozen 1
    have y2 := HX3.out.frozen 2
    have y3 := HX3.out.frozen 3
    have y4 := HX3.out.frozen 4
    have y5 := HX3.out.frozen 5
    go_wp2_with fail
    obtain ⟨w9, hw9, hl, hb9⟩ := six_laid HX3.out HB3.out (by rw [HQ.out]; exact Nat.le_refl _) (.string ⟨#[]⟩) (.string ⟨#[]⟩) (.string ⟨#[]⟩) (.string ⟨#[]⟩) (.bool false) (.int .i64 0)
    rw [← hw9]
    have l0 := hl.is 0 rfl
    have l1 := hl.is 1 rfl
    have l2 := hl.is 2 rfl
    have l3 := hl.is 3 rfl
    have l4 := hl.is 4 rfl
    have l5 := hl.is 5 rfl
    exact bodyPost_ret (v := reqE none) (by simp [results, Tryd.results9, go_sem, l0, l1, l2, l3, l4, l5, reqE]) rfl ⟨rfl, hb9⟩
  | some y =>
    obtain ⟨c, m, n⟩ := y
    rw [hx] at hR
    simp only [] at hR
    obtain ⟨g, mt, mv, N, rfl, hT⟩ := hh.good c m n hx
    have HT := Aside0.mk hT.drew
    have HX3 := Aside0.mk HX2.out.drew
    have HB3 := Aside0.mk HB2.out.drew
    obtain ⟨p1, hp1⟩ : ∃ p, b2n (hasN c meN) = p := ⟨_, rfl⟩
    obtain ⟨p2, hp2⟩ : ∃ p, b2n (hasN c scN) = p := ⟨_, rfl⟩
    obtain ⟨p3, hp3⟩ : ∃ p, b2n (hasN c paN) = p := ⟨_, rfl⟩
    obtain ⟨p4, hp4⟩ : ∃ p, b2n (hasN c auN) = p := ⟨_, rfl⟩
    obtain ⟨v1, hv1⟩ : ∃ v, valN c meN = v := ⟨_, rfl⟩
    obtain ⟨v2, hv2⟩ : ∃ v, valN c paN = v := ⟨_, rfl⟩
    obtain ⟨v3, hv3⟩ : ∃ v, valN c scN = v := ⟨_, rfl⟩
    unfold reqOk at hR
    rw [hp1, hp2, hp3, hp4, hv1, hv2, hv3] at hR
    have r1 : p1 ≤ 1 := by rw [← hp1]; exact b2n_le _
    have r2 : p2 ≤ 1 := by rw [← hp2]; exact b2n_le _
    have r3 : p3 ≤ 1 := by rw [← hp3]; exact b2n_le _
    have r4 : p4 ≤ 1 := by rw [← hp4]; exact b2n_le _
    have hl1 : (Instr.lookup 50 (.map (some mt)) (.string ⟨#[58, 109, 101, 116, 104, 111, 100]⟩) false).run Tryd.prog w2.drew = .ok (.int .i64 p1) w2.drew := by rw [← hp1]; exact HT.out.lookT ⟨#[58, 109, 101, 116, 104, 111, 100]⟩ (by decide)
    have hl2 : (Instr.lookup 50 (.map (some mt)) (.string ⟨#[58, 115, 99, 104, 101, 109, 101]⟩) false).run Tryd.prog w2.drew = .ok (.int .i64 p2) w2.drew := by rw [← hp2]; exact HT.out.lookT ⟨#[58, 115, 99, 104, 101, 109, 101]⟩ (by decide)
    have hl3 : (Instr.lookup 50 (.map (some mt)) (.string ⟨#[58, 112, 97, 116, 104]⟩) false).run Tryd.prog w2.drew = .ok (.int .i64 p3) w2.drew := by rw [← hp3]; exact HT.out.lookT ⟨#[58, 112, 97, 116, 104]⟩ (by decide)
    have hl4 : (Instr.lookup 50 (.map (some mt)) (.string ⟨#[58, 97, 117, 116, 104, 111, 114, 105, 116, 121]⟩) false).run Tryd.prog w2.drew = .ok (.int .i64 p4) w2.drew := by rw [← hp4]; exact HT.out.lookT ⟨#[58, 97, 117, 116, 104, 111, 114, 105, 116, 121]⟩ (by decide)
    have HV1 := Lib.hid hv1
    have HV2 := Lib.hid hv2
    have HV3 := Lib.hid hv3
    have HR := Lib.hid hR
    have HPs := Lib.hid (And.intro r1 (And.intro r2 (And.intro r3 r4)))
    have hw1 : IntKind.i64.wrap ((p1 : Int) + (p2 : Int)) = (p1 : Int) + (p2 : Int) := by rw [IntKind.wrap_i64]; omega
    have hw2 : IntKind.i64.wrap ((p1 : Int) + (p2 : Int) + (p3 : Int)) = (p1 : Int) + (p2 : Int) + (p3 : Int) := by rw [IntKind.wrap_i64]; omega
    have hw3 : IntKind.i64.wrap (3 + (p4 : Int)) = 3 + (p4 : Int) := by rw [IntKind.wrap_i64]; omega
    have t0 := HT.out.box.is 0 rfl
    have t2 := HT.out.box.is 2 rfl
    clear hh hx hT hR hp1 hp2 hp3 hp4 hv1 hv2 hv3 HX2 HB2 r1 r2 r3 r4
    by_cases c1 : p1 + p2 + p3 = 3
    case neg =>
      have d1 : ((p1 : Int) + (p2 : Int) + (p3 : Int) != 3) = true := by rw [bne_iff_ne]; omega
      have HE := Lib.hid (show R = none by rw [← HR.out, decide_eq_false c1]; rfl)
      clear c1
      go_wp2_with fail
      refine dr_start (fun w' => w'.cell? ⟨g, 0, none⟩ = some (.map (some mt)) ∧ w'.cell? ⟨g, 2, none⟩ = some (.int .i64 (nps c : Nat)) ∧ (Instr.lookup 50 (.map (some mt)) (.string ⟨#[58, 109, 101, 116, 104, 111, 100]⟩) false).run Tryd.prog w' = .ok (.int .i64 p1) w' ∧ (Instr.lookup 50 (.map (some mt)) (.string ⟨#[58, 115, 99, 104, 101, 109, 101]⟩) false).run Tryd.prog w' = .ok (.int .i64 p2) w' ∧
        (Instr.lookup 50 (.map (some mt)) (.string ⟨#[58, 112, 97, 116, 104]⟩) false).run Tryd.prog w' = .ok (.int .i64 p3) w' ∧ (Instr.lookup 50 (.map (some mt)) (.string ⟨#[58, 97, 117, 116, 104, 111, 114, 105, 116, 121]⟩) false).run Tryd.prog w' = .ok (.int .i64 p4) w') [] (by kernel_rfl) ⟨t0, t2, hl1, hl2, hl3, hl4⟩ (fun hS => ?_)
      repeat (first | (refine dr_pure (by kernel_rfl) (by rfl) (fun _ _ _ h => h) (v := ?_) (a' := ?_) ?_ ?_ ?_; rotate_left 2; (focus (intro w'; go_simp; with_reducible rfl)); (focus (simp only [Act.put, List.setIfInBounds_toArray, List.set_cons_zero, List.set_cons_succ]; rfl))) | (refine dr_take (by kernel_rfl) (by rfl) (fun _ _ _ h => h) hS (v := ?_) (a' := ?_) ?_ ?_ ?_; rotate_left 2; (focus (intro w' hS'; go_simp; with_reducible rfl)); (focus (simp only [Act.put, List.setIfInBounds_toArray, List.set_cons_zero, List.set_cons_succ]; rfl))) | (refine dr_off (by kernel_rfl) (by rfl) (fun _ _ _ h => h) (a' := ?_) ?_ ?_; rotate_left; (focus (simp only [Act.put, List.setIfInBounds_toArray, List.set_cons_zero, List.set_cons_succ]; rfl))))
      refine dr_done (by kernel_rfl) ?_
      have HT3 := HT
      clear hS t0 t2 hl1 hl2 hl3 hl4 hw1 hw2 hw3 HT
      generalize w2.drew = w3 at *
      have x0 := HX3.out.is 0 rfl
      have x1 := HX3.out.is 1 rfl
      have x2 := HX3.out.is 2 rfl
      have x3 := HX3.out.is 3 rfl
      have x4 := HX3.out.is 4 rfl
      have x5 := HX3.out.is 5 rfl
      have y0 := HX3.out.frozen 0
      have y1 := HX3.out.frozen 1
      have y2 := HX3.out.frozen 2
      have y3 := HX3.out.frozen 3
      have y4 := HX3.out.frozen 4
      have y5 := HX3.out.frozen 5
      go_wp2_with fail
      rw [HE.out]
      obtain ⟨w9, hw9, hl, hb9⟩ := six_laid HX3.out HB3.out (by rw [HQ.out]; exact Nat.le_refl _) (.string ⟨#[]⟩) (.string ⟨#[]⟩) (.string ⟨#[]⟩) (.string ⟨#[]⟩) (.bool false) (.int .i64 0)
      rw [← hw9]
      have l0 := hl.is 0 rfl
      have l1 := hl.is 1 rfl
      have l2 := hl.is 2 rfl
      have l3 := hl.is 3 rfl
      have l4 := hl.is 4 rfl
      have l5 := hl.is 5 rfl
      exact bodyPost_ret (v := reqE none) (by simp [results, Tryd.results9, go_sem, l0, l1, l2, l3, l4, l5, reqE]) rfl ⟨rfl, hb9⟩
    have d1 : ((p1 : Int) + (p2 : Int) + (p3 : Int) != 3) = false := by rw [bne_eq_false_iff_eq]; omega
    by_cases c2 : nps c = 3 + p4
    case neg =>
      have d2 : (((nps c : Nat) : Int) != 3 + (p4 : Int)) = true := by rw [bne_iff_ne]; omega
      have HE := Lib.hid (show R = none by rw [← HR.out, decide_eq_false c2, decide_eq_true c1]; rfl)
      clear c1 c2
      go_wp2_with fail
      refine dr_start (fun w' => w'.cell? ⟨g, 0, none⟩ = some (.map (some mt)) ∧ w'.cell? ⟨g, 2, none⟩ = some (.int .i64 (nps c : Nat)) ∧ (Instr.lookup 50 (.map (some mt)) (.string ⟨#[58, 109, 101, 116, 104, 111, 100]⟩) false).run Tryd.prog w' = .ok (.int .i64 p1) w' ∧ (Instr.lookup 50 (.map (some mt)) (.string ⟨#[58, 115, 99, 104, 101, 109, 101]⟩) false).run Tryd.prog w' = .ok (.int .i64 p2) w' ∧
        (Instr.lookup 50 (.map (some mt)) (.string ⟨#[58, 112, 97, 116, 104]⟩) false).run Tryd.prog w' = .ok (.int .i64 p3) w' ∧ (Instr.lookup 50 (.map (some mt)) (.string ⟨#[58, 97, 117, 116, 104, 111, 114, 105, 116, 121]⟩) false).run Tryd.prog w' = .ok (.int .i64 p4) w') [] (by kernel_rfl) ⟨t0, t2, hl1, hl2, hl3, hl4⟩ (fun hS => ?_)
      repeat (first | (refine dr_pure (by kernel_rfl) (by rfl) (fun _ _ _ h => h) (v := ?_) (a' := ?_) ?_ ?_ ?_; rotate_left 2; (focus (intro w'; go_simp; with_reducible rfl)); (focus (simp only [Act.put, List.setIfInBounds_toArray, List.set_cons_zero, List.set_cons_succ]; rfl))) | (refine dr_take (by kernel_rfl) (by rfl) (fun _ _ _ h => h) hS (v := ?_) (a' := ?_) ?_ ?_ ?_; rotate_left 2; (focus (intro w' hS'; go_simp; with_reducible rfl)); (focus (simp only [Act.put, List.setIfInBounds_toArray, List.set_cons_zero, List.set_cons_succ]; rfl))) | (refine dr_off (by kernel_rfl) (by rfl) (fun _ _ _ h => h) (a' := ?_) ?_ ?_; rotate_left; (focus (simp only [Act.put, List.setIfInBounds_toArray, List.set_cons_zero, List.set_cons_succ]; rfl))))
      refine dr_done (by kernel_rfl) ?_
      have HT3 := HT
      clear hS t0 t2 hl1 hl2 hl3 hl4 hw1 hw2 hw3 HT
      generalize w2.drew = w3 at *
      have x0 := HX3.out.is 0 rfl
      have x1 := HX3.out.is 1 rfl
      have x2 := HX3.out.is 2 rfl
      have x3 := HX3.out.is 3 rfl
      have x4 := HX3.out.is 4 rfl
      have x5 := HX3.out.is 5 rfl
      have y0 := HX3.out.frozen 0
      have y1 := HX3.out.frozen 1
      have y2 := HX3.out.frozen 2
      have y3 := HX3.out.frozen 3
      have y4 := HX3.out.frozen 4
      have y5 := HX3.out.frozen 5
      go_wp2_with fail
      rw [HE.out]
      obtain ⟨w9, hw9, hl, hb9⟩ := six_laid HX3.out HB3.out (by rw [HQ.out]; exact Nat.le_refl _) (.string ⟨#[]⟩) (.string ⟨#[]⟩) (.string ⟨#[]⟩) (.string ⟨#[]⟩) (.bool false) (.int .i64 0)
      rw [← hw9]
      have l0 := hl.is 0 rfl
      have l1 := hl.is 1 rfl
      have l2 := hl.is 2 rfl
      have l3 := hl.is 3 rfl
      have l4 := hl.is 4 rfl
      have l5 := hl.is 5 rfl
      exact bodyPost_ret (v := reqE none) (by simp [results, Tryd.results9, go_sem, l0, l1, l2, l3, l4, l5, reqE]) rfl ⟨rfl, hb9⟩
    have d2 : (((nps c : Nat) : Int) != 3 + (p4 : Int)) = false := by rw [bne_eq_false_iff_eq]; omega
    have HRq := Lib.hid (show (if (!decide (v1 = ⟨#[]⟩) && (!decide (v2 = ⟨#[]⟩) && !decide (v3 = ⟨#[]⟩))) = true then some (v1, v2, m, n) else none) = R by rw [← HR.out, decide_eq_true c1, decide_eq_true c2]; rfl)
    clear c1 c2
    go_wp2_with fail
    refine dr_start (fun w' => w'.cell? ⟨g, 0, none⟩ = some (.map (some mt)) ∧ w'.cell? ⟨g, 2, none⟩ = some (.int .i64 (nps c : Nat)) ∧ (Instr.lookup 50 (.map (some mt)) (.string ⟨#[58, 109, 101, 116, 104, 111, 100]⟩) false).run Tryd.prog w' = .ok (.int .i64 p1) w' ∧ (Instr.lookup 50 (.map (some mt)) (.string ⟨#[58, 115, 99, 104, 101, 109, 101]⟩) false).run Tryd.prog w' = .ok (.int .i64 p2) w' ∧
      (Instr.lookup 50 (.map (some mt)) (.string ⟨#[58, 112, 97, 116, 104]⟩) false).run Tryd.prog w' = .ok (.int .i64 p3) w' ∧ (Instr.lookup 50 (.map (some mt)) (.string ⟨#[58, 97, 117, 116, 104, 111, 114, 105, 116, 121]⟩) false).run Tryd.prog w' = .ok (.int .i64 p4) w') [] (by kernel_rfl) ⟨t0, t2, hl1, hl2, hl3, hl4⟩ (fun hS => ?_)
    repeat (first | (refine dr_pure (by kernel_rfl) (by rfl) (fun _ _ _ h => h) (v := ?_) (a' := ?_) ?_ ?_ ?_; rotate_left 2; (focus (intro w'; go_simp; with_reducible rfl)); (focus (simp only [Act.put, List.setIfInBounds_toArray, List.set_cons_zero, List.set_cons_succ]; rfl))) | (refine dr_take (by kernel_rfl) (by rfl) (fun _ _ _ h => h) hS (v := ?_) (a' := ?_) ?_ ?_ ?_; rotate_left 2; (focus (intro w' hS'; go_simp; with_reducible rfl)); (focus (simp only [Act.put, List.setIfInBounds_toArray, List.set_cons_zero, List.set_cons_succ]; rfl))) | (refine dr_off (by kernel_rfl) (by rfl) (fun _ _ _ h => h) (a' := ?_) ?_ ?_; rotate_left; (focus (simp only [Act.put, List.setIfInBounds_toArray, List.set_cons_zero, List.set_cons_succ]; rfl))))
    refine dr_done (by kernel_rfl) ?_
    have HT3 := HT
    clear hS t0 t2 hl1 hl2 hl3 hl4 hw1 hw2 hw3 HT
    generalize w2.drew = w3 at *
    have HTd := Aside0.mk HT3.out.drew
    have t1 := HTd.out.box.is 1 rfl
    have t3 := HTd.out.box.is 3 rfl
    have t4 := HTd.out.box.is 4 rfl
    have hlv1 : (Instr.lookup 51 (.map (some mv)) (.string ⟨#[58, 109, 101, 116, 104, 111, 100]⟩) false).run Tryd.prog w3.drew = .ok (.string v1) w3.drew := by rw [← HV1.out]; exact HTd.out.lookV ⟨#[58, 109, 101, 116, 104, 111, 100]⟩ (by decide)
    have hlv2 : (Instr.lookup 51 (.map (some mv)) (.string ⟨#[58, 112, 97, 116, 104]⟩) false).run Tryd.prog w3.drew = .ok (.string v2) w3.drew := by rw [← HV2.out]; exact HTd.out.lookV ⟨#[58, 112, 97, 116, 104]⟩ (by decide)
    have hal := below_alloc (Below.refl w3.drew.heap.size w3.drew) (.cells #[.string ⟨#[]⟩, .string ⟨#[]⟩, .string ⟨#[]⟩, .string ⟨#[]⟩, .bool false, .int .i64 0] 26 (0, 0))
    have HT4 := Aside0.mk (HT3.out.step (w1 := w3.drew.alloc (.cells #[.string ⟨#[]⟩, .string ⟨#[]⟩, .string ⟨#[]⟩, .string ⟨#[]⟩, .bool false, .int .i64 0] 26 (0, 0))) (undrew' hal))
    go_wp2_with fail
    refine dr_start (fun w' => w'.cell? ⟨g, 1, none⟩ = some (.map (some mv)) ∧ w'.cell? ⟨g, 3, none⟩ = some (.string m) ∧ w'.cell? ⟨g, 4, none⟩ = some (.int .i64 n) ∧ (Instr.lookup 51 (.map (some mv)) (.string ⟨#[58, 109, 101, 116, 104, 111, 100]⟩) false).run Tryd.prog w' = .ok (.string v1) w' ∧ (Instr.lookup 51 (.map (some mv)) (.string ⟨#[58, 112, 97, 116, 104]⟩) false).run Tryd.prog w' = .ok (.string v2) w') [20] (by kernel_rfl) ⟨t1, t3, t4, hlv1, hlv2⟩ (fun hS => ?_)
    repeat (first | (refine dr_pure (by kernel_rfl) (by rfl) (fun _ _ _ h => h) (v := ?_) (a' := ?_) ?_ ?_ ?_; rotate_left 2; (focus (intro w'; go_simp; with_reducible rfl)); (focus (simp only [Act.put, List.setIfInBounds_toArray, List.set_cons_zero, List.set_cons_succ]; rfl))) | (refine dr_take (by kernel_rfl) (by rfl) (fun _ _ _ h => h) hS (v := ?_) (a' := ?_) ?_ ?_ ?_; rotate_left 2; (focus (intro w' hS'; go_simp; with_reducible rfl)); (focus (simp only [Act.put, List.setIfInBounds_toArray, List.set_cons_zero, List.set_cons_succ]; rfl))) | (refine dr_off (by kernel_rfl) (by rfl) (fun _ _ _ h => h) (a' := ?_) ?_ ?_; rotate_left; (focus (simp only [Act.put, List.setIfInBounds_toArray, List.set_cons_zero, List.set_cons_succ]; rfl))))
    refine dr_val (.pointer (some ⟨w3.drew.heap.size, 0, none⟩)) (w3.drew.alloc (.cells #[.string ⟨#[]⟩, .string ⟨#[]⟩, .string ⟨#[]⟩, .string ⟨#[]⟩, .bool false, .int .i64 0] 26 (0, 0))) (by kernel_rfl) (by kernel_rfl) (by rfl) (by go_simp; done) ⟨HT4.out.box.is 1 rfl, HT4.out.box.is 3 rfl, HT4.out.box.is 4 rfl, by rw [← HV1.out]; exact HT4.out.lookV ⟨#[58, 109, 101, 116, 104, 111, 100]⟩ (by decide), by rw [← HV2.out]; exact HT4.out.lookV ⟨#[58, 112, 97, 116, 104]⟩ (by decide)⟩ (by simp only [Act.put, List.setIfInBounds_toArray, List.set_cons_zero, List.set_cons_succ]; rfl) (fun hS => ?_)
    have HY4 := Aside0.mk (SAt.new w3.drew #[.string ⟨#[]⟩, .string ⟨#[]⟩, .string ⟨#[]⟩, .string ⟨#[]⟩, .bool false, .int .i64 0] 26)
    have HA4 := Aside0.mk (show Below w3.heap.size w3 (w3.drew.alloc (.cells #[.string ⟨#[]⟩, .string ⟨#[]⟩, .string ⟨#[]⟩, .string ⟨#[]⟩, .bool false, .int .i64 0] 26 (0, 0))) from undrew' hal)
    clear hS t1 t3 t4 hlv1 hlv2 hal HTd
    generalize w3.drew.alloc (.cells #[.string ⟨#[]⟩, .string ⟨#[]⟩, .string ⟨#[]⟩, .string ⟨#[]⟩, .bool false, .int .i64 0] 26 (0, 0)) = w4 at *
    obtain ⟨r, hr⟩ : ∃ r, w3.drew.heap.size = r := ⟨_, rfl⟩
    have hY := HY4.out
    rw [hr] at hY
    have HY4 := Aside0.mk hY
    have HRr := Lib.hid (show w3.heap.size = r from hr)
    simp only [hr]
    obtain ⟨w9, hw9, hl, hb9⟩ := six_laid HY4.out HA4.out (by rw [HRr.out]; exact Nat.le_refl _) (.string v1) (.string v2) (.string ⟨#[]⟩) (.string m) (.bool false) (.int .i64 n)
    clear hr hY HX
    have x0 := HY4.out.is 0 rfl
    have x1 := HY4.out.is 1 rfl
    have x2 := HY4.out.is 2 rfl
    have x3 := HY4.out.is 3 rfl
    have x4 := HY4.out.is 4 rfl
    have x5 := HY4.out.is 5 rfl
    have y0 := HY4.out.frozen 0
    have y1 := HY4.out.frozen 1
    have y2 := HY4.out.frozen 2
    have y3 := HY4.out.frozen 3
    have y4 := HY4.out.frozen 4
    have y5 := HY4.out.frozen 5
    refine dr_store w9 (by kernel_rfl) (by kernel_rfl) (by rfl) rfl ⟨by rw [hw9]; go_simp; done⟩ ?_
    refine dr_done (by kernel_rfl) ?_
    have HY5 := Aside0.mk hl
    have HT5 := Aside0.mk (HT3.out.step hb9)
    have HX5 := Aside0.mk (HX3.out.below hb9)
    have HB5 := Aside0.mk (HB3.out.trans (hb9.mono HB3.out.size))
    clear x0 x1 x2 x3 x4 x5 y0 y1 y2 y3 y4 y5 hw9 hl hb9 HY4 HA4 HT4 HX3 HB3 HT3
    have t1 := HT5.out.box.is 1 rfl
    have hlv : (Instr.lookup 51 (.map (some mv)) (.string ⟨#[58, 115, 99, 104, 101, 109, 101]⟩) false).run Tryd.prog w9 = .ok (.string v3) w9 := by rw [← HV3.out]; exact HT5.out.lookV ⟨#[58, 115, 99, 104, 101, 109, 101]⟩ (by decide)
    have z0 := HY5.out.is 0 rfl
    have z1 := HY5.out.is 1 rfl
    have z2 := HY5.out.is 2 rfl
    have z3 := HY5.out.is 3 rfl
    have z4 := HY5.out.is 4 rfl
    have z5 := HY5.out.is 5 rfl
    have x0 := HX5.out.is 0 rfl
    have x1 := HX5.out.is 1 rfl
    have x2 := HX5.out.is 2 rfl
    have x3 := HX5.out.is 3 rfl
    have x4 := HX5.out.is 4 rfl
    have x5 := HX5.out.is 5 rfl
    have y0 := HX5.out.frozen 0
    have y1 := HX5.out.frozen 1
    have y2 := HX5.out.frozen 2
    have y3 := HX5.out.frozen 3
    have y4 := HX5.out.frozen 4
    have y5 := HX5.out.frozen 5
    by_cases k1 : v1 = ⟨#[]⟩
    · obtain ⟨d3, d4, d5⟩ := const_yes k1 (L := []) rfl
      have HE := Lib.hid (show R = none by rw [← HRq.out, decide_eq_true k1]; rfl)
      clear k1 HRq HR
      go_wp2_with fail
      rw [HE.out]
      obtain ⟨w9, hw9, hl, hb9⟩ := six_laid HX5.out HB5.out (by rw [HQ.out]; exact Nat.le_refl _) (.string ⟨#[]⟩) (.string ⟨#[]⟩) (.string ⟨#[]⟩) (.string ⟨#[]⟩) (.bool false) (.int .i64 0)
      rw [← hw9]
      have l0 := hl.is 0 rfl
      have l1 := hl.is 1 rfl
      have l2 := hl.is 2 rfl
      have l3 := hl.is 3 rfl
      have l4 := hl.is 4 rfl
      have l5 := hl.is 5 rfl
      exact bodyPost_ret (v := reqE none) (by simp [results, Tryd.results9, go_sem, l0, l1, l2, l3, l4, l5, reqE]) rfl ⟨rfl, hb9⟩
    obtain ⟨d3, d4, d5⟩ := const_no k1 (L := []) rfl
    by_cases k2 : v2 = ⟨#[]⟩
    · obtain ⟨d6, d7, d8⟩ := const_yes k2 (L := []) rfl
      have HE := Lib.hid (show R = none by rw [← HRq.out, decide_eq_true k2]; simp)
      clear k1 k2 HRq HR
      go_wp2_with fail
      rw [HE.out]
      obtain ⟨w9, hw9, hl, hb9⟩ := six_laid HX5.out HB5.out (by rw [HQ.out]; exact Nat.le_refl _) (.string ⟨#[]⟩) (.string ⟨#[]⟩) (.string ⟨#[]⟩) (.string ⟨#[]⟩) (.bool false) (.int .i64 0)
      rw [← hw9]
      have l0 := hl.is 0 rfl
      have l1 := hl.is 1 rfl
      have l2 := hl.is 2 rfl
      have l3 := hl.is 3 rfl
      have l4 := hl.is 4 rfl
      have l5 := hl.is 5 rfl
      exact bodyPost_ret (v := reqE none) (by simp [results, Tryd.results9, go_sem, l0, l1, l2, l3, l4, l5, reqE]) rfl ⟨rfl, hb9⟩
    obtain ⟨d6, d7, d8⟩ := const_no k2 (L := []) rfl
    by_cases k3 : v3 = ⟨#[]⟩
    · obtain ⟨d9, d10, d11⟩ := const_yes k3 (L := []) rfl
      have HE := Lib.hid (show R = none by rw [← HRq.out, decide_eq_true k3]; simp)
      clear k1 k2 k3 HRq HR
      go_wp2_with fail
      rw [HE.out]
      obtain ⟨w9, hw9, hl, hb9⟩ := six_laid HX5.out HB5.out (by rw [HQ.out]; exact Nat.le_refl _) (.string ⟨#[]⟩) (.string ⟨#[]⟩) (.string ⟨#[]⟩) (.string ⟨#[]⟩) (.bool false) (.int .i64 0)
      rw [← hw9]
      have l0 := hl.is 0 rfl
      have l1 := hl.is 1 rfl
      have l2 := hl.is 2 rfl
      have l3 := hl.is 3 rfl
      have l4 := hl.is 4 rfl
      have l5 := hl.is 5 rfl
      exact bodyPost_ret (v := reqE none) (by simp [results, Tryd.results9, go_sem, l0, l1, l2, l3, l4, l5, reqE]) rfl ⟨rfl, hb9⟩
    obtain ⟨d9, d10, d11⟩ := const_no k3 (L := []) rfl
    have HE := Lib.hid (show R = some (v1, v2, m, n) by rw [← HRq.out, decide_eq_false k1, decide_eq_false k2, decide_eq_false k3]; rfl)
    clear k1 k2 k3 HRq HR
    go_wp2_with fail
    rw [HE.out]
    obtain ⟨w8, hw8, hl, hb8⟩ := six_laid HX5.out HB5.out (by rw [HQ.out]; exact Nat.le_refl _) (.string v1) (.string v2) (.string ⟨#[]⟩) (.string m) (.bool false) (.int .i64 n)
    rw [← hw8]
    have l0 := hl.is 0 rfl
    have l1 := hl.is 1 rfl
    have l2 := hl.is 2 rfl
    have l3 := hl.is 3 rfl
    have l4 := hl.is 4 rfl
    have l5 := hl.is 5 rfl
    exact bodyPost_ret (v := reqE (some (v1, v2, m, n))) (by simp [results, Tryd.results9, go_sem, l0, l1, l2, l3, l4, l5, reqE]) rfl ⟨rfl, hb8⟩
end Go.Proofs.YtdpoookgmckclaaDoor.M
