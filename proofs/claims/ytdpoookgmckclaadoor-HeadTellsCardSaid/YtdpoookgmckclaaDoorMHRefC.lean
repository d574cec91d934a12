/- Walks of nuncioref20: Right, rest. -/
import Derived.Test.YtdpoookgmckclaaDoorMHRefP
set_option linter.unusedVariables false
set_option linter.unusedSimpArgs false
namespace Go.Proofs.YtdpoookgmckclaaDoor.M
open Go.RowKit Go.Maps Go.Proofs.YtdpoookgmckclaaDoorW.PrintWords Go.Proofs.YtdpoookgmckclaaDoorW.PrintLast Go.Proofs.YtdpoookgmckclaaDoorW.PrintMore
attribute [local go_sem] max2_int min2_int max_two min_two max_three min_three max_four min_four
attribute [local go_sem ↓] Go.wp_at_zero Go.wp_at_succ
theorem at_fl2 {w : World} {ad : Addr} {n : Nat} {xs : List Fl} (h : kF.C w (some ad) n xs) {k : Nat} (h1 : k < n) {x : Fl} (hx : xs.getD k zFl = x) : w.cell? (ad.add (k * 3)) = some (.string x.n) ∧ w.cell? ⟨(ad.add (k * 3)).block, (ad.add (k * 3)).off + 1, none⟩ = some (.string x.v) ∧ w.cell? ⟨(ad.add (k * 3)).block, (ad.add (k * 3)).off + 2, none⟩ = some (.bool x.nv) := by
  obtain ⟨ad', x', e, hx', h2⟩ := at_fl h k h1
  obtain rfl := Option.some.inj e
  obtain rfl := hx.symm.trans hx'
  exact h2
theorem valN_fl {xs : List Fl} (hF : ∀ x ∈ xs, x.v.size ≤ 100000) (n : ByteArray) : (valN (xs.map Fl.f) n).size ≤ 100000 := by
  refine valN_size (fun f hf => ?_) n
  obtain ⟨x, hx, rfl⟩ := List.mem_map.1 hf
  exact hF x hx
set_option maxHeartbeats 16000000 in
set_option maxRecDepth 100000 in
theorem refRight_calls (A : Option Addr) (cp : Nat) (xs : List Fl) (w : World) (hr : kF.C w A xs.length xs) (hcp : xs.length ≤ cp) (hF : FewF xs) :
    Calls Tryd.prog 17 #[.slice A xs.length cp] w fun e w' => e = .returned (.bool (refRightF (xs.map Fl.f))) ∧ Below w.heap.size w w' := by
  have HRd := Aside0.mk hr
  have HCp := Lib.hid hcp
  have HF := Aside0.mk hF
  have HB := Aside0.mk (Below.refl w.heap.size w)
  have hl := hF.len
  obtain ⟨R1, hR1⟩ : ∃ R, rG (xs.map Fl.f) (xs.map Fl.f) false = R := ⟨_, rfl⟩
  have HG := Aside0.mk (show rG (xs.map Fl.f) ((xs.map Fl.f).drop 0) false = R1 from hR1)
  have HR1 := Lib.hid hR1
  clear hR1 hr hF hcp
  go_enter Tryd.func17, Tryd.ntmps17
  go_wp2_with fail
  go_loopg [3, 4] xs.length (fun kq v3 v4 w' => ∃ (k : Nat) (o : Bool), v4 = .int .i64 k ∧ v3 = .bool o ∧ Aside0 (kq + k = xs.length) ∧ Aside0 (rG (xs.map Fl.f) ((xs.map Fl.f).drop k) o = R1) ∧ Aside0 (Below w.heap.size w w'))
  case atStart => exact ⟨0, false, rfl, rfl, ⟨rfl⟩, HG, HB⟩
  case round =>
    clear HB HG
    obtain ⟨k, o, rfl, rfl, HK, HG, HB⟩ := hrel
    cases gk with
    | zero =>
      obtain rfl : k = xs.length := by have := HK.out; omega
      have hg := HG.out
      rw [drop_all] at hg
      obtain rfl : true = R1 := hg
      have HE := Lib.hid (show refRightF (xs.map Fl.f) = (decide (cntN (xs.map Fl.f) clN = 0) || (decF (valN (xs.map Fl.f) clN) 999999999).2) by unfold refRightF; rw [HR1.out, Bool.true_and])
      have HVs := Lib.hid (valN_fl HF.out.v clN)
      obtain ⟨C, hC⟩ : ∃ C, cntN (xs.map Fl.f) clN = C := ⟨_, rfl⟩
      obtain ⟨V, hV⟩ : ∃ V, valN (xs.map Fl.f) clN = V := ⟨_, rfl⟩
      rw [hC, hV] at HE
      rw [hV] at HVs
      have HCn := Lib.hid hC
      have HVn := Lib.hid hV
      clear hC hV HG HR1
      go_wp2_with fail
      refine (count_calls A cp xs clN _ (Kd.C_below HRd.out HB.out) HCp.out (by omega)).mono ?_
      rw [HCn.out, HVn.out]
      rintro e w2 ⟨rfl, hb⟩
      have HB2 := Aside0.mk (below_step HB.out hb)
      clear hb HB
      by_cases h0 : C = 0
      · have d1 : ((C : Int) == 0) = true := by rw [beq_iff_eq]; omega
        have d2 : (C == 0) = true := beq_iff_eq.mpr h0
        have HT := Lib.hid (show refRightF (xs.map Fl.f) = true by rw [HE.out, decide_eq_true h0]; rfl)
        clear h0
        go_wp2_with fail
        go_ret
        exact ⟨by rw [HT.out]; rfl, HB2.out⟩
      · have d1 : ((C : Int) == 0) = false := by rw [beq_eq_false_iff_ne]; omega
        have d2 : (C == 0) = false := beq_eq_false_iff_ne.mpr h0
        obtain ⟨⟨q, ok⟩, hq⟩ : ∃ x, decF V 999999999 = x := ⟨_, rfl⟩
        have HT := Lib.hid (show refRightF (xs.map Fl.f) = ok by rw [HE.out, decide_eq_false h0, hq]; rfl)
        have HQ := Lib.hid hq
        clear h0 hq
        go_wp2_with fail
        refine (refDecimal_calls V 999999999 _ (by have := HVs.out; omega)).mono ?_
        rw [HQ.out]
        rintro e w3 ⟨rfl, hb⟩
        have HB3 := Aside0.mk (below_step HB2.out hb)
        clear hb HB2
        unfold decE
        go_wp2_with fail
        go_ret
        exact ⟨by rw [HT.out]; rfl, HB3.out⟩
    | succ j =>
      have hk : k < xs.length := by have := HK.out; omega
      obtain ⟨ad, x, rfl, hx, e0, e1, e2⟩ := at_fl (Kd.C_below HRd.out HB.out) k hk
      have hg := HG.out
      rw [drop_fl hk hx, rG] at hg
      have hmem := mem_fl hk hx
      have HXk := Aside0.mk (And.intro hk hx)
      have HSn := Lib.hid (HF.out.n x hmem)
      have HSv := Lib.hid (HF.out.v x hmem)
      obtain ⟨b1, hb1⟩ : ∃ b, rightFB x.f = b := ⟨_, rfl⟩
      obtain ⟨b2, hb2⟩ : ∃ b, barredB x.f = b := ⟨_, rfl⟩
      obtain ⟨b3, hb3⟩ : ∃ b, pseudoS x.n = b := ⟨_, rfl⟩
      have hp : pseudoB x.f = b3 := hb3
      obtain ⟨C, hC⟩ : ∃ C, cntN (xs.map Fl.f) x.f.1 = C := ⟨_, rfl⟩
      have hCle : C ≤ xs.length := by rw [← hC]; have := cntN_le (xs.map Fl.f) x.f.1; rw [List.length_map] at this; exact this
      have hcs : countedB x.f = (b3 || (decide (x.n = clN) || decide (x.n = ctN))) := by unfold countedB; rw [hp]; rfl
      rw [hb1, hb2, hp, hC, hcs] at hg
      have HG := Lib.hid hg
      have HC1 := Lib.hid hb1
      have HC2 := Lib.hid hb2
      have HC3 := Lib.hid hb3
      have HCc := Lib.hid (show cntN (xs.map Fl.f) x.n = C from hC)
      have q1 : (0 : Int) ≤ (k : Int) := by omega
      have q2 : (k : Int) < (xs.length : Int) := by omega
      clear hg hmem hb1 hb2 hb3 hp hC hcs hx hk
      go_wp2_with fail
      refine (rightR_calls x _ (by have := HSn.out; omega) (by have := HSv.out; omega)).mono ?_
      rw [HC1.out]
      rintro e w2 ⟨rfl, hb⟩
      have HB2 := Aside0.mk (below_step HB.out hb)
      clear hb e0 e1 e2
      obtain ⟨e0, e1, e2⟩ := at_fl2 (Kd.C_below HRd.out HB2.out) HXk.out.1 HXk.out.2
      cases b1 with
      | false =>
        have HE := Lib.hid (show R1 = false by have h := HG.out; rw [Bool.false_and] at h; exact h.symm)
        go_wp2_with fail
        go_ret
        exact ⟨by unfold refRightF; rw [HR1.out, HE.out]; rfl, HB2.out⟩
      | true =>
      go_wp2_with fail
      refine (barredR_calls x _).mono ?_
      rw [HC2.out]
      rintro e w3 ⟨rfl, hb⟩
      have HB3 := Aside0.mk (below_step HB2.out hb)
      clear hb e0 e1 e2
      obtain ⟨e0, e1, e2⟩ := at_fl2 (Kd.C_below HRd.out HB3.out) HXk.out.1 HXk.out.2
      cases b2 with
      | true =>
        have HE := Lib.hid (show R1 = false by have h := HG.out; rw [Bool.true_and, Bool.not_true, Bool.false_and] at h; exact h.symm)
        go_wp2_with fail
        go_ret
        exact ⟨by unfold refRightF; rw [HR1.out, HE.out]; rfl, HB3.out⟩
      | false =>
      go_wp2_with fail
      refine (pseudoR_calls x _ (by have := HSn.out; omega)).mono ?_
      rw [HC3.out]
      rintro e w4 ⟨rfl, hb⟩
      have HB4 := Aside0.mk (below_step HB3.out hb)
      clear hb e0 e1 e2
      obtain ⟨e0, e1, e2⟩ := at_fl2 (Kd.C_below HRd.out HB4.out) HXk.out.1 HXk.out.2
      cases b3 with
      | true =>
        cases o with
        | true =>
          have HE := Lib.hid (show R1 = false by have h := HG.out; rw [Bool.true_and, Bool.not_false, Bool.true_and, Bool.and_self, Bool.not_true, Bool.false_and] at h; exact h.symm)
          go_wp2_with fail
          go_ret
          exact ⟨by unfold refRightF; rw [HR1.out, HE.out]; rfl, HB4.out⟩
        | false =>
          have HG2 := Lib.hid (show (!(decide (1 < C)) && rG (xs.map Fl.f) ((xs.map Fl.f).drop (k + 1)) false) = R1 by have h := HG.out; rw [← h]; simp)
          go_wp2_with fail
          refine (pseudoR_calls x _ (by have := HSn.out; omega)).mono ?_
          rw [HC3.out]
          rintro e w5 ⟨rfl, hb⟩
          have HB5 := Aside0.mk (below_step HB4.out hb)
          clear hb e0 e1 e2
          obtain ⟨e0, e1, e2⟩ := at_fl2 (Kd.C_below HRd.out HB5.out) HXk.out.1 HXk.out.2
          go_wp2_with fail
          refine (count_calls (some ad) cp xs x.n _ (Kd.C_below HRd.out HB5.out) HCp.out (by omega)).mono ?_
          rw [HCc.out]
          rintro e w6 ⟨rfl, hb⟩
          have HB6 := Aside0.mk (below_step HB5.out hb)
          clear hb e0 e1 e2
          obtain ⟨e0, e1, e2⟩ := at_fl2 (Kd.C_below HRd.out HB6.out) HXk.out.1 HXk.out.2
          by_cases h1 : 1 < C
          · have d1 : decide ((1 : Int) < (C : Int)) = true := decide_eq_true (by omega)
            have d2 : decide (1 < C) = true := decide_eq_true h1
            have d3 : 1 < C := h1
            have HE := Lib.hid (show R1 = false by have h := HG2.out; rw [d2] at h; exact h.symm)
            clear h1
            go_wp2_with fail
            refine (pseudoR_calls x _ (by have := HSn.out; omega)).mono ?_
            rw [HC3.out]
            rintro e w7 ⟨rfl, hb⟩
            have HB7 := Aside0.mk (below_step HB6.out hb)
            clear hb e0 e1 e2
            obtain ⟨e0, e1, e2⟩ := at_fl2 (Kd.C_below HRd.out HB7.out) HXk.out.1 HXk.out.2
            go_wp2_with fail
            go_ret
            exact ⟨by unfold refRightF; rw [HR1.out, HE.out]; rfl, HB7.out⟩
          · have d1 : decide ((1 : Int) < (C : Int)) = false := decide_eq_false (by omega)
            have d2 : decide (1 < C) = false := decide_eq_false h1
            have d3 : ¬ 1 < C := h1
            have HG3 := Aside0.mk (show rG (xs.map Fl.f) ((xs.map Fl.f).drop (k + 1)) false = R1 by have h := HG2.out; rw [d2] at h; simpa using h)
            clear h1
            go_wp2_with fail
            go_roundg j
            case measure => omega
            case rel => exact ⟨k + 1, false, by go_num, rfl, ⟨by have := HK.out; omega⟩, HG3, HB6⟩
      | false =>
        have HG2 := Lib.hid (show (!(decide (1 < C) && (decide (x.n = clN) || decide (x.n = ctN))) && rG (xs.map Fl.f) ((xs.map Fl.f).drop (k + 1)) true) = R1 by have h := HG.out; rw [← h]; simp)
        cases o with
        | true =>
          have HB5 := HB4
          go_wp2_with fail
          refine (count_calls (some ad) cp xs x.n _ (Kd.C_below HRd.out HB5.out) HCp.out (by omega)).mono ?_
          rw [HCc.out]
          rintro e w6 ⟨rfl, hb⟩
          have HB6 := Aside0.mk (below_step HB5.out hb)
          clear hb e0 e1 e2
          obtain ⟨e0, e1, e2⟩ := at_fl2 (Kd.C_below HRd.out HB6.out) HXk.out.1 HXk.out.2
          by_cases h1 : 1 < C
          · have d1 : decide ((1 : Int) < (C : Int)) = true := decide_eq_true (by omega)
            have d2 : decide (1 < C) = true := decide_eq_true h1
            have d3 : 1 < C := h1
            clear h1
            go_wp2_with fail
            refine (pseudoR_calls x _ (by have := HSn.out; omega)).mono ?_
            rw [HC3.out]
            rintro e w7 ⟨rfl, hb⟩
            have HB7 := Aside0.mk (below_step HB6.out hb)
            clear hb e0 e1 e2
            obtain ⟨e0, e1, e2⟩ := at_fl2 (Kd.C_below HRd.out HB7.out) HXk.out.1 HXk.out.2
            by_cases g1 : x.n = clN
            · obtain ⟨y1, y2, y3⟩ := const_yes g1 (L := [99, 111, 110, 116, 101, 110, 116, 45, 108, 101, 110, 103, 116, 104]) rfl
              have HE := Lib.hid (show R1 = false by have h := HG2.out; rw [d2, decide_eq_true g1] at h; exact h.symm)
              clear g1
              go_wp2_with fail
              go_ret
              exact ⟨by unfold refRightF; rw [HR1.out, HE.out]; rfl, HB7.out⟩
            · obtain ⟨y1, y2, y3⟩ := const_no g1 (L := [99, 111, 110, 116, 101, 110, 116, 45, 108, 101, 110, 103, 116, 104]) rfl
              by_cases g2 : x.n = ctN
              · obtain ⟨z1, z2, z3⟩ := const_yes g2 (L := [99, 111, 110, 116, 101, 110, 116, 45, 116, 121, 112, 101]) rfl
                have HE := Lib.hid (show R1 = false by have h := HG2.out; rw [d2, decide_eq_true g2, Bool.or_true] at h; exact h.symm)
                clear g1 g2
                go_wp2_with fail
                go_ret
                exact ⟨by unfold refRightF; rw [HR1.out, HE.out]; rfl, HB7.out⟩
              · obtain ⟨z1, z2, z3⟩ := const_no g2 (L := [99, 111, 110, 116, 101, 110, 116, 45, 116, 121, 112, 101]) rfl
                have HG3 := Aside0.mk (show rG (xs.map Fl.f) ((xs.map Fl.f).drop (k + 1)) true = R1 by have h := HG2.out; rw [d2, decide_eq_false g1, decide_eq_false g2] at h; simpa using h)
                clear g1 g2
                go_wp2_with fail
                go_roundg j
                case measure => omega
                case rel => exact ⟨k + 1, true, by go_num, rfl, ⟨by have := HK.out; omega⟩, HG3, HB7⟩
          · have d1 : decide ((1 : Int) < (C : Int)) = false := decide_eq_false (by omega)
            have d2 : decide (1 < C) = false := decide_eq_false h1
            have d3 : ¬ 1 < C := h1
            clear h1
            have HG3 := Aside0.mk (show rG (xs.map Fl.f) ((xs.map Fl.f).drop (k + 1)) true = R1 by have h := HG2.out; rw [d2] at h; simpa using h)
            go_wp2_with fail
            go_roundg j
            case measure => omega
            case rel => exact ⟨k + 1, true, by go_num, rfl, ⟨by have := HK.out; omega⟩, HG3, HB6⟩
        | false =>
          go_wp2_with fail
          refine (pseudoR_calls x _ (by have := HSn.out; omega)).mono ?_
          rw [HC3.out]
          rintro e w5 ⟨rfl, hb⟩
          have HB5 := Aside0.mk (below_step HB4.out hb)
          clear hb e0 e1 e2
          obtain ⟨e0, e1, e2⟩ := at_fl2 (Kd.C_below HRd.out HB5.out) HXk.out.1 HXk.out.2
          go_wp2_with fail
          refine (count_calls (some ad) cp xs x.n _ (Kd.C_below HRd.out HB5.out) HCp.out (by omega)).mono ?_
          rw [HCc.out]
          rintro e w6 ⟨rfl, hb⟩
          have HB6 := Aside0.mk (below_step HB5.out hb)
          clear hb e0 e1 e2
          obtain ⟨e0, e1, e2⟩ := at_fl2 (Kd.C_below HRd.out HB6.out) HXk.out.1 HXk.out.2
          by_cases h1 : 1 < C
          · have d1 : decide ((1 : Int) < (C : Int)) = true := decide_eq_true (by omega)
            have d2 : decide (1 < C) = true := decide_eq_true h1
            have d3 : 1 < C := h1
            clear h1
            go_wp2_with fail
            refine (pseudoR_calls x _ (by have := HSn.out; omega)).mono ?_
            rw [HC3.out]
            rintro e w7 ⟨rfl, hb⟩
            have HB7 := Aside0.mk (below_step HB6.out hb)
            clear hb e0 e1 e2
            obtain ⟨e0, e1, e2⟩ := at_fl2 (Kd.C_below HRd.out HB7.out) HXk.out.1 HXk.out.2
            by_cases g1 : x.n = clN
            · obtain ⟨y1, y2, y3⟩ := const_yes g1 (L := [99, 111, 110, 116, 101, 110, 116, 45, 108, 101, 110, 103, 116, 104]) rfl
              have HE := Lib.hid (show R1 = false by have h := HG2.out; rw [d2, decide_eq_true g1] at h; exact h.symm)
              clear g1
              go_wp2_with fail
              go_ret
              exact ⟨by unfold refRightF; rw [HR1.out, HE.out]; rfl, HB7.out⟩
            · obtain ⟨y1, y2, y3⟩ := const_no g1 (L := [99, 111, 110, 116, 101, 110, 116, 45, 108, 101, 110, 103, 116, 104]) rfl
              by_cases g2 : x.n = ctN
              · obtain ⟨z1, z2, z3⟩ := const_yes g2 (L := [99, 111, 110, 116, 101, 110, 116, 45, 116, 121, 112, 101]) rfl
                have HE := Lib.hid (show R1 = false by have h := HG2.out; rw [d2, decide_eq_true g2, Bool.or_true] at h; exact h.symm)
                clear g1 g2
                go_wp2_with fail
                go_ret
                exact ⟨by unfold refRightF; rw [HR1.out, HE.out]; rfl, HB7.out⟩
              · obtain ⟨z1, z2, z3⟩ := const_no g2 (L := [99, 111, 110, 116, 101, 110, 116, 45, 116, 121, 112, 101]) rfl
                have HG3 := Aside0.mk (show rG (xs.map Fl.f) ((xs.map Fl.f).drop (k + 1)) true = R1 by have h := HG2.out; rw [d2, decide_eq_false g1, decide_eq_false g2] at h; simpa using h)
                clear g1 g2
                go_wp2_with fail
                go_roundg j
                case measure => omega
                case rel => exact ⟨k + 1, true, by go_num, rfl, ⟨by have := HK.out; omega⟩, HG3, HB7⟩
          · have d1 : decide ((1 : Int) < (C : Int)) = false := decide_eq_false (by omega)
            have d2 : decide (1 < C) = false := decide_eq_false h1
            have d3 : ¬ 1 < C := h1
            clear h1
            have HG3 := Aside0.mk (show rG (xs.map Fl.f) ((xs.map Fl.f).drop (k + 1)) true = R1 by have h := HG2.out; rw [d2] at h; simpa using h)
            go_wp2_with fail
            go_roundg j
            case measure => omega
            case rel => exact ⟨k + 1, true, by go_num, rfl, ⟨by have := HK.out; omega⟩, HG3, HB6⟩
end Go.Proofs.YtdpoookgmckclaaDoor.M
