/- The law TextJoins. -/
import Derived.Test.YtfoflodgegehfaaDoorMFolds
set_option linter.unusedVariables false
set_option linter.unusedSimpArgs false
namespace Go.Proofs.YtfoflodgegehfaaDoor.M
open Go.RowKit Go.Maps Go.Proofs.YtfoflodgegehfaaDoorW.PrintWords Go.Proofs.YtfoflodgegehfaaDoorW.PrintLast Go.Proofs.YtfoflodgegehfaaDoorW.PrintMore
attribute [local go_sem] max2_int min2_int max_two min_two max_three min_three max_four min_four
attribute [local go_sem ↓] Go.wp_at_zero Go.wp_at_succ
theorem token_app (s t : ByteArray) : tokenF (s ++ t) = (tokenF s && tokenF t || tokenF s && decide (t.size = 0) || decide (s.size = 0) && tokenF t) := by
  unfold tokenF
  rw [tb_app, List.all_append, ByteArray.size_append]
  by_cases h1 : s.size = 0
  · obtain rfl := size_zero h1
    by_cases h2 : t.size = 0
    · obtain rfl := size_zero h2
      decide
    · have e : (bytesOf ⟨#[]⟩).all signI = true := by decide
      have z : (ByteArray.size ⟨#[]⟩) = 0 := rfl
      simp [e, z, h2]
  · by_cases h2 : t.size = 0
    · obtain rfl := size_zero h2
      have e : (bytesOf ⟨#[]⟩).all signI = true := by decide
      have z : (ByteArray.size ⟨#[]⟩) = 0 := rfl
      simp [e, z, h1]
    · simp [h1, h2]
theorem val_wrap (p s q : ByteArray) (hs : (bytesOf s).all shownI = true) (hp : (bytesOf p).all shownI = true) (hq : (bytesOf q).all shownI = true) (p1 : p.size ≠ 0) (q1 : q.size ≠ 0)
    (p0 : blankI ((bytesOf p).getD 0 0) = false) (q0 : blankI ((bytesOf q).getD (q.size - 1) 0) = false) : valueF (p ++ s ++ q) = true := by
  have hl : (p ++ s ++ q).size = p.size + s.size + q.size := by rw [ByteArray.size_append, ByteArray.size_append]
  have e0 : bt (p ++ s ++ q) 0 = (bytesOf p).getD 0 0 := by
    rw [show (0 : Int) = ((0 : Nat) : Int) from rfl, ← bt_getD, tb_app, tb_app, List.append_assoc, List.getD_eq_getElem?_getD, List.getElem?_append_left (by rw [bytesOf_length]; omega), List.getD_eq_getElem?_getD]
    rfl
  have e1 : bt (p ++ s ++ q) (((p ++ s ++ q).size - 1 : Nat) : Int) = (bytesOf q).getD (q.size - 1) 0 := by
    rw [← bt_getD, tb_app, tb_app, List.getD_eq_getElem?_getD, List.getElem?_append_right (by rw [List.length_append, bytesOf_length, bytesOf_length, hl]; omega), List.getD_eq_getElem?_getD, List.length_append, bytesOf_length, bytesOf_length, hl]
    congr 2
    omega
  unfold valueF
  rw [e0, e1, p0, q0, tb_app, tb_app, List.all_append, List.all_append, hs, hp, hq]
  simp
theorem val_x (s : ByteArray) (h : valueF s = true) : valueF (⟨#[120]⟩ ++ s ++ ⟨#[121]⟩) = true := by
  have hs : (bytesOf s).all shownI = true := by unfold valueF at h; simp only [Bool.and_eq_true] at h; exact h.1
  exact val_wrap _ s _ hs (by decide) (by decide) (by decide) (by decide) (by decide) (by decide)
theorem val_xx (s : ByteArray) (h : valueF s = true) : valueF (⟨#[120, 32]⟩ ++ s ++ ⟨#[32, 121]⟩) = true := by
  have hs : (bytesOf s).all shownI = true := by unfold valueF at h; simp only [Bool.and_eq_true] at h; exact h.1
  exact val_wrap _ s _ hs (by decide) (by decide) (by decide) (by decide) (by decide) (by decide)
set_option maxHeartbeats 8000000 in
set_option maxRecDepth 100000 in
theorem joins_calls (s t : ByteArray) (w : World) :
    Calls Tryd.prog 5 #[.string s, .string t] w fun e w' => e = .returned (.bool true) ∧ Below w.heap.size w w' := by
  have HB := Aside0.mk (Below.refl w.heap.size w)
  go_enter Tryd.func5, Tryd.ntmps5
  go_wp2_with fail
  refine (awake2_calls _).mono ?_
  rintro e w1 ⟨rfl, hb⟩
  have HB1 := Aside0.mk (HB.out.trans (hb.mono HB.out.size))
  clear hb HB
  by_cases h1 : 20000 < s.size
  · have d1 : decide ((20000 : Int) < (s.size : Int)) = true := decide_eq_true (by omega)
    have d3 : decide (20000 < s.size) = true := decide_eq_true h1
    go_wp2_with fail
    go_ret
    exact ⟨rfl, HB1.out⟩
  have d1 : decide ((20000 : Int) < (s.size : Int)) = false := decide_eq_false (by omega)
  by_cases h2 : 20000 < t.size
  · have d2 : decide ((20000 : Int) < (t.size : Int)) = true := decide_eq_true (by omega)
    go_wp2_with fail
    go_ret
    exact ⟨rfl, HB1.out⟩
  have d2 : decide ((20000 : Int) < (t.size : Int)) = false := decide_eq_false (by omega)
  have d3 : decide (20000 < s.size) = false := decide_eq_false h1
  have d4 : decide (20000 < t.size) = false := decide_eq_false h2
  have HS := Lib.hid (show s.size ≤ 1000000000000 by omega)
  have HT := Lib.hid (show t.size ≤ 1000000000000 by omega)
  have HA := Lib.hid (show (s ++ t).size ≤ 1000000000000 by rw [ByteArray.size_append]; omega)
  have a1 := fun W => run_string_add_sum (P := Tryd.prog) W s t (by omega)
  obtain ⟨p1, hp1⟩ : ∃ p, (⟨#[120]⟩ : ByteArray) ++ s = p := ⟨_, rfl⟩
  obtain ⟨q1, hq1⟩ : ∃ p, p1 ++ (⟨#[121]⟩ : ByteArray) = p := ⟨_, rfl⟩
  obtain ⟨p2, hp2⟩ : ∃ p, (⟨#[120, 32]⟩ : ByteArray) ++ s = p := ⟨_, rfl⟩
  obtain ⟨q2, hq2⟩ : ∃ p, p2 ++ (⟨#[32, 121]⟩ : ByteArray) = p := ⟨_, rfl⟩
  have n1 : p1.size = 1 + s.size := by rw [← hp1, ByteArray.size_append]; rfl
  have n2 : q1.size = p1.size + 1 := by rw [← hq1, ByteArray.size_append]; rfl
  have n3 : p2.size = 2 + s.size := by rw [← hp2, ByteArray.size_append]; rfl
  have n4 : q2.size = p2.size + 2 := by rw [← hq2, ByteArray.size_append]; rfl
  have z1 : (ByteArray.size ⟨#[120]⟩) = 1 := rfl
  have z2 : (ByteArray.size ⟨#[121]⟩) = 1 := rfl
  have z3 : (ByteArray.size ⟨#[120, 32]⟩) = 2 := rfl
  have z4 : (ByteArray.size ⟨#[32, 121]⟩) = 2 := rfl
  have S1 := Lib.hid (show q1.size ≤ 1000000000000 by omega)
  have S2 := Lib.hid (show q2.size ≤ 1000000000000 by omega)
  have A2 := Lib.hid (fun W => show (Op.stringOp .add ⟨#[120]⟩ s).run Tryd.prog W = .ok (.string p1) W by rw [← hp1]; exact run_string_add_sum (P := Tryd.prog) W ⟨#[120]⟩ s (by omega))
  have A3 := Lib.hid (fun W => show (Op.stringOp .add p1 ⟨#[121]⟩).run Tryd.prog W = .ok (.string q1) W by rw [← hq1]; exact run_string_add_sum (P := Tryd.prog) W p1 ⟨#[121]⟩ (by omega))
  have A4 := Lib.hid (fun W => show (Op.stringOp .add ⟨#[120, 32]⟩ s).run Tryd.prog W = .ok (.string p2) W by rw [← hp2]; exact run_string_add_sum (P := Tryd.prog) W ⟨#[120, 32]⟩ s (by omega))
  have A5 := Lib.hid (fun W => show (Op.stringOp .add p2 ⟨#[32, 121]⟩).run Tryd.prog W = .ok (.string q2) W by rw [← hq2]; exact run_string_add_sum (P := Tryd.prog) W p2 ⟨#[32, 121]⟩ (by omega))
  have V1 := Lib.hid (show valueF s = true → valueF q1 = true by rw [← hq1, ← hp1]; exact val_x s)
  have V2 := Lib.hid (show valueF s = true → valueF q2 = true by rw [← hq2, ← hp2]; exact val_xx s)
  clear hp1 hq1 hp2 hq2 n1 n2 n3 n4
  have hJ := token_app s t
  have k1 : s.size = 0 → tokenF s = false := fun h => by unfold tokenF; simp [h]
  obtain ⟨v, hV⟩ : ∃ v, valueF s = v := ⟨_, rfl⟩
  obtain ⟨A, hA⟩ : ∃ v, tokenF s = v := ⟨_, rfl⟩
  obtain ⟨B, hB⟩ : ∃ v, tokenF t = v := ⟨_, rfl⟩
  have HV := Lib.hid hV
  have KA := Lib.hid hA
  have KB := Lib.hid hB
  rw [hA, hB] at hJ
  rw [hA] at k1
  have E0 : s.size = 0 → s.toList.isEmpty = true := fun h => by rw [size_zero h]; simp
  have E1 : t.size = 0 → t.toList.isEmpty = true := fun h => by rw [size_zero h]; simp
  clear hV hA hB z1 z2 z3 z4 h1 h2
  cases A with
  | true =>
    have e0 : s.toList.isEmpty = false := text_some (fun h => by have := k1 h; cases this)
    have y0 : decide (s.size = 0) = false := decide_eq_false (fun h => by have := k1 h; cases this)
    cases B with
    | true =>
      have KJ := Lib.hid (show tokenF (s ++ t) = true by rw [hJ]; rfl)
      clear hJ k1 E0 E1 y0
      go_wp2_with fail
      refine (token_calls (s ++ t) _ HA.out).mono ?_
      rw [KJ.out]
      rintro e w2 ⟨rfl, hx⟩
      have HB2 := Aside0.mk (HB1.out.trans (hx.mono HB1.out.size))
      clear hx HB1
      go_wp2_with fail
      refine (token_calls s _ HS.out).mono ?_
      rw [KA.out]
      rintro e w3 ⟨rfl, hx⟩
      have HB3 := Aside0.mk (HB2.out.trans (hx.mono HB2.out.size))
      clear hx HB2
      go_wp2_with fail
      refine (token_calls t _ HT.out).mono ?_
      rw [KB.out]
      rintro e w4 ⟨rfl, hx⟩
      have HB4 := Aside0.mk (HB3.out.trans (hx.mono HB3.out.size))
      clear hx HB3
      go_wp2_with fail
      clear a1 d1 d2 d3 d4
      cases v with
      | false =>
        refine (value_calls s _ HS.out).mono ?_
        rw [HV.out]
        rintro e wy ⟨rfl, hx⟩
        have HBy := Aside0.mk (HB4.out.trans (hx.mono HB4.out.size))
        clear hx HB4
        go_wp2_with fail
        go_ret
        exact ⟨rfl, HBy.out⟩
      | true =>
        have X1 := Lib.hid (V1.out HV.out)
        have X2 := Lib.hid (V2.out HV.out)
        have a2 := A2.out
        have a3 := A3.out
        refine (value_calls s _ HS.out).mono ?_
        rw [HV.out]
        rintro e wy ⟨rfl, hx⟩
        have HBy := Aside0.mk (HB4.out.trans (hx.mono HB4.out.size))
        clear hx HB4
        go_wp2_with fail
        clear a2 a3
        have a4 := A4.out
        have a5 := A5.out
        refine (value_calls q1 _ S1.out).mono ?_
        rw [X1.out]
        rintro e wz ⟨rfl, hx⟩
        have HBz := Aside0.mk (HBy.out.trans (hx.mono HBy.out.size))
        clear hx HBy
        go_wp2_with fail
        refine (value_calls q2 _ S2.out).mono ?_
        rw [X2.out]
        rintro e wu ⟨rfl, hx⟩
        have HBu := Aside0.mk (HBz.out.trans (hx.mono HBz.out.size))
        clear hx HBz
        go_wp2_with fail
        go_ret
        exact ⟨rfl, HBu.out⟩
    | false =>
      by_cases y : t.size = 0
      · have e1 := E1 y
        have KJ := Lib.hid (show tokenF (s ++ t) = true by rw [hJ, decide_eq_true y]; rfl)
        clear hJ k1 E0 E1 y0 y
        go_wp2_with fail
        refine (token_calls (s ++ t) _ HA.out).mono ?_
        rw [KJ.out]
        rintro e w2 ⟨rfl, hx⟩
        have HB2 := Aside0.mk (HB1.out.trans (hx.mono HB1.out.size))
        clear hx HB1
        go_wp2_with fail
        refine (token_calls s _ HS.out).mono ?_
        rw [KA.out]
        rintro e w3 ⟨rfl, hx⟩
        have HB3 := Aside0.mk (HB2.out.trans (hx.mono HB2.out.size))
        clear hx HB2
        go_wp2_with fail
        refine (token_calls t _ HT.out).mono ?_
        rw [KB.out]
        rintro e w4 ⟨rfl, hx⟩
        have HB4 := Aside0.mk (HB3.out.trans (hx.mono HB3.out.size))
        clear hx HB3
        go_wp2_with fail
        refine (token_calls s _ HS.out).mono ?_
        rw [KA.out]
        rintro e w5 ⟨rfl, hx⟩
        have HB5 := Aside0.mk (HB4.out.trans (hx.mono HB4.out.size))
        clear hx HB4
        go_wp2_with fail
        clear a1 d1 d2 d3 d4
        cases v with
        | false =>
          refine (value_calls s _ HS.out).mono ?_
          rw [HV.out]
          rintro e wy ⟨rfl, hx⟩
          have HBy := Aside0.mk (HB5.out.trans (hx.mono HB5.out.size))
          clear hx HB5
          go_wp2_with fail
          go_ret
          exact ⟨rfl, HBy.out⟩
        | true =>
          have X1 := Lib.hid (V1.out HV.out)
          have X2 := Lib.hid (V2.out HV.out)
          have a2 := A2.out
          have a3 := A3.out
          refine (value_calls s _ HS.out).mono ?_
          rw [HV.out]
          rintro e wy ⟨rfl, hx⟩
          have HBy := Aside0.mk (HB5.out.trans (hx.mono HB5.out.size))
          clear hx HB5
          go_wp2_with fail
          clear a2 a3
          have a4 := A4.out
          have a5 := A5.out
          refine (value_calls q1 _ S1.out).mono ?_
          rw [X1.out]
          rintro e wz ⟨rfl, hx⟩
          have HBz := Aside0.mk (HBy.out.trans (hx.mono HBy.out.size))
          clear hx HBy
          go_wp2_with fail
          refine (value_calls q2 _ S2.out).mono ?_
          rw [X2.out]
          rintro e wu ⟨rfl, hx⟩
          have HBu := Aside0.mk (HBz.out.trans (hx.mono HBz.out.size))
          clear hx HBz
          go_wp2_with fail
          go_ret
          exact ⟨rfl, HBu.out⟩
      · have e1 : t.toList.isEmpty = false := text_some y
        have KJ := Lib.hid (show tokenF (s ++ t) = false by rw [hJ, decide_eq_false y, y0]; rfl)
        clear hJ k1 E0 E1 y0 y
        go_wp2_with fail
        refine (token_calls (s ++ t) _ HA.out).mono ?_
        rw [KJ.out]
        rintro e w2 ⟨rfl, hx⟩
        have HB2 := Aside0.mk (HB1.out.trans (hx.mono HB1.out.size))
        clear hx HB1
        go_wp2_with fail
        refine (token_calls s _ HS.out).mono ?_
        rw [KA.out]
        rintro e w3 ⟨rfl, hx⟩
        have HB3 := Aside0.mk (HB2.out.trans (hx.mono HB2.out.size))
        clear hx HB2
        go_wp2_with fail
        refine (token_calls t _ HT.out).mono ?_
        rw [KB.out]
        rintro e w4 ⟨rfl, hx⟩
        have HB4 := Aside0.mk (HB3.out.trans (hx.mono HB3.out.size))
        clear hx HB3
        go_wp2_with fail
        refine (token_calls s _ HS.out).mono ?_
        rw [KA.out]
        rintro e w5 ⟨rfl, hx⟩
        have HB5 := Aside0.mk (HB4.out.trans (hx.mono HB4.out.size))
        clear hx HB4
        go_wp2_with fail
        clear a1 d1 d2 d3 d4
        cases v with
        | false =>
          refine (value_calls s _ HS.out).mono ?_
          rw [HV.out]
          rintro e wy ⟨rfl, hx⟩
          have HBy := Aside0.mk (HB5.out.trans (hx.mono HB5.out.size))
          clear hx HB5
          go_wp2_with fail
          go_ret
          exact ⟨rfl, HBy.out⟩
        | true =>
          have X1 := Lib.hid (V1.out HV.out)
          have X2 := Lib.hid (V2.out HV.out)
          have a2 := A2.out
          have a3 := A3.out
          refine (value_calls s _ HS.out).mono ?_
          rw [HV.out]
          rintro e wy ⟨rfl, hx⟩
          have HBy := Aside0.mk (HB5.out.trans (hx.mono HB5.out.size))
          clear hx HB5
          go_wp2_with fail
          clear a2 a3
          have a4 := A4.out
          have a5 := A5.out
          refine (value_calls q1 _ S1.out).mono ?_
          rw [X1.out]
          rintro e wz ⟨rfl, hx⟩
          have HBz := Aside0.mk (HBy.out.trans (hx.mono HBy.out.size))
          clear hx HBy
          go_wp2_with fail
          refine (value_calls q2 _ S2.out).mono ?_
          rw [X2.out]
          rintro e wu ⟨rfl, hx⟩
          have HBu := Aside0.mk (HBz.out.trans (hx.mono HBz.out.size))
          clear hx HBz
          go_wp2_with fail
          go_ret
          exact ⟨rfl, HBu.out⟩
  | false =>
    by_cases y : s.size = 0
    · have e0 := E0 y
      have KJ := Lib.hid (show tokenF (s ++ t) = B by rw [hJ, decide_eq_true y]; cases B <;> rfl)
      clear hJ k1 E0 E1 y
      go_wp2_with fail
      refine (token_calls (s ++ t) _ HA.out).mono ?_
      rw [KJ.out]
      rintro e w2 ⟨rfl, hx⟩
      have HB2 := Aside0.mk (HB1.out.trans (hx.mono HB1.out.size))
      clear hx HB1
      go_wp2_with fail
      refine (token_calls s _ HS.out).mono ?_
      rw [KA.out]
      rintro e w3 ⟨rfl, hx⟩
      have HB3 := Aside0.mk (HB2.out.trans (hx.mono HB2.out.size))
      clear hx HB2
      go_wp2_with fail
      refine (token_calls s _ HS.out).mono ?_
      rw [KA.out]
      rintro e w4 ⟨rfl, hx⟩
      have HB4 := Aside0.mk (HB3.out.trans (hx.mono HB3.out.size))
      clear hx HB3
      go_wp2_with fail
      refine (token_calls t _ HT.out).mono ?_
      rw [KB.out]
      rintro e w5 ⟨rfl, hx⟩
      have HB5 := Aside0.mk (HB4.out.trans (hx.mono HB4.out.size))
      clear hx HB4
      go_wp2_with fail
      clear a1 d1 d2 d3 d4
      cases v with
      | false =>
        refine (value_calls s _ HS.out).mono ?_
        rw [HV.out]
        rintro e wy ⟨rfl, hx⟩
        have HBy := Aside0.mk (HB5.out.trans (hx.mono HB5.out.size))
        clear hx HB5
        go_wp2_with fail
        go_ret
        exact ⟨rfl, HBy.out⟩
      | true =>
        have X1 := Lib.hid (V1.out HV.out)
        have X2 := Lib.hid (V2.out HV.out)
        have a2 := A2.out
        have a3 := A3.out
        refine (value_calls s _ HS.out).mono ?_
        rw [HV.out]
        rintro e wy ⟨rfl, hx⟩
        have HBy := Aside0.mk (HB5.out.trans (hx.mono HB5.out.size))
        clear hx HB5
        go_wp2_with fail
        clear a2 a3
        have a4 := A4.out
        have a5 := A5.out
        refine (value_calls q1 _ S1.out).mono ?_
        rw [X1.out]
        rintro e wz ⟨rfl, hx⟩
        have HBz := Aside0.mk (HBy.out.trans (hx.mono HBy.out.size))
        clear hx HBy
        go_wp2_with fail
        refine (value_calls q2 _ S2.out).mono ?_
        rw [X2.out]
        rintro e wu ⟨rfl, hx⟩
        have HBu := Aside0.mk (HBz.out.trans (hx.mono HBz.out.size))
        clear hx HBz
        go_wp2_with fail
        go_ret
        exact ⟨rfl, HBu.out⟩
    · have e0 : s.toList.isEmpty = false := text_some y
      have KJ := Lib.hid (show tokenF (s ++ t) = false by rw [hJ, decide_eq_false y]; cases B <;> rfl)
      clear hJ k1 E0 E1 y
      go_wp2_with fail
      refine (token_calls (s ++ t) _ HA.out).mono ?_
      rw [KJ.out]
      rintro e w2 ⟨rfl, hx⟩
      have HB2 := Aside0.mk (HB1.out.trans (hx.mono HB1.out.size))
      clear hx HB1
      go_wp2_with fail
      refine (token_calls s _ HS.out).mono ?_
      rw [KA.out]
      rintro e w3 ⟨rfl, hx⟩
      have HB3 := Aside0.mk (HB2.out.trans (hx.mono HB2.out.size))
      clear hx HB2
      go_wp2_with fail
      refine (token_calls s _ HS.out).mono ?_
      rw [KA.out]
      rintro e w4 ⟨rfl, hx⟩
      have HB4 := Aside0.mk (HB3.out.trans (hx.mono HB3.out.size))
      clear hx HB3
      go_wp2_with fail
      clear a1 d1 d2 d3 d4
      cases v with
      | false =>
        refine (value_calls s _ HS.out).mono ?_
        rw [HV.out]
        rintro e wy ⟨rfl, hx⟩
        have HBy := Aside0.mk (HB4.out.trans (hx.mono HB4.out.size))
        clear hx HB4
        go_wp2_with fail
        go_ret
        exact ⟨rfl, HBy.out⟩
      | true =>
        have X1 := Lib.hid (V1.out HV.out)
        have X2 := Lib.hid (V2.out HV.out)
        have a2 := A2.out
        have a3 := A3.out
        refine (value_calls s _ HS.out).mono ?_
        rw [HV.out]
        rintro e wy ⟨rfl, hx⟩
        have HBy := Aside0.mk (HB4.out.trans (hx.mono HB4.out.size))
        clear hx HB4
        go_wp2_with fail
        clear a2 a3
        have a4 := A4.out
        have a5 := A5.out
        refine (value_calls q1 _ S1.out).mono ?_
        rw [X1.out]
        rintro e wz ⟨rfl, hx⟩
        have HBz := Aside0.mk (HBy.out.trans (hx.mono HBy.out.size))
        clear hx HBy
        go_wp2_with fail
        refine (value_calls q2 _ S2.out).mono ?_
        rw [X2.out]
        rintro e wu ⟨rfl, hx⟩
        have HBu := Aside0.mk (HBz.out.trans (hx.mono HBz.out.size))
        clear hx HBz
        go_wp2_with fail
        go_ret
        exact ⟨rfl, HBu.out⟩
theorem joins_all (W : World) (s : ByteArray) (hs : s.size ≤ 140737488351232) (t : ByteArray) (ht : t.size ≤ 140737488351232) :
    Calls Tryd.prog 5 #[.string s, .string t] W fun e w' => e = .returned (.bool true) ∧ Below W.heap.size W w' := joins_calls s t W
end Go.Proofs.YtfoflodgegehfaaDoor.M
