/- Walks of package head: right, barred. -/
import Derived.Test.YtdpoookgmckclaaDoorMHBase
set_option linter.unusedVariables false
set_option linter.unusedSimpArgs false
namespace Go.Proofs.YtdpoookgmckclaaDoor.M
open Go.RowKit Go.Maps Go.Proofs.YtdpoookgmckclaaDoorW.PrintWords Go.Proofs.YtdpoookgmckclaaDoorW.PrintLast Go.Proofs.YtdpoookgmckclaaDoorW.PrintMore
attribute [local go_sem] max2_int min2_int max_two min_two max_three min_three max_four min_four
attribute [local go_sem ↓] Go.wp_at_zero Go.wp_at_succ
theorem const_yes {s t : ByteArray} (h : s = t) {L : List UInt8} (hL : t.data.toList = L) : (s.toList == L) = true ∧ (!s.toList == L) = false ∧ s.toList = L := by
  subst h
  rw [Lib.toList_data, hL]
  simp
theorem const_no {s t : ByteArray} (h : s ≠ t) {L : List UInt8} (hL : t.data.toList = L) : (s.toList == L) = false ∧ (!s.toList == L) = true ∧ ¬ s.toList = L := by
  have e : ¬ s.toList = L := by
    rw [← hL, Lib.toList_data]
    intro e
    exact h (ByteArray.ext (Array.ext' e))
  have e1 : (s.toList == L) = false := beq_eq_false_iff_ne.mpr e
  exact ⟨e1, by rw [e1]; rfl, e⟩
theorem trimP_size (s : ByteArray) : (trimP s).size ≤ s.size := by
  unfold trimP
  split
  · rw [ByteArray.size_extract]; omega
  · exact Nat.le_refl _
set_option maxHeartbeats 4000000 in
set_option maxRecDepth 100000 in
theorem right_calls (x : Fl) (w : World) (h1 : x.n.size ≤ 1000000) (h2 : x.v.size ≤ 1000000) :
    Calls Tryd.prog 33 #[.agg x.cs] w fun e w' => e = .returned (.bool (rightFB x.f)) ∧ Below w.heap.size w w' := by
  unfold Fl.cs
  have HP := fun w => trimPrefix_calls x.n w (by omega)
  have HT := fun w => token_calls (trimP x.n) w (by have := trimP_size x.n; omega)
  have HF := fun w => fold_calls (trimP x.n) w (by have := trimP_size x.n; omega)
  have HV := fun w => value_calls x.v w (by omega)
  obtain ⟨R, hR⟩ : ∃ R, rightFB x.f = R := ⟨_, rfl⟩
  rw [hR]
  unfold rightFB Fl.f at hR
  simp only [] at hR
  obtain ⟨t, ht⟩ : ∃ t, trimP x.n = t := ⟨_, rfl⟩
  rw [ht] at HP HT HF hR
  have hd := text_dec (foldS t) t
  obtain ⟨b1, hb1⟩ : ∃ b, tokenF t = b := ⟨_, rfl⟩
  obtain ⟨b2, hb2⟩ : ∃ b, decide (foldS t = t) = b := ⟨_, rfl⟩
  obtain ⟨b3, hb3⟩ : ∃ b, valueF x.v = b := ⟨_, rfl⟩
  rw [hb1] at HT
  rw [hb3] at HV
  rw [hb2] at hd
  rw [hb1, hb2, hb3] at hR
  have HP := Aside0.mk HP
  have HT := Aside0.mk HT
  have HF := Aside0.mk HF
  have HV := Aside0.mk HV
  have HR := Lib.hid hR
  clear hR ht hb1 hb2 hb3
  go_enter Tryd.func33, Tryd.ntmps33
  go_wp2_with (((with_reducible refine gate_dst (N := 1) rfl ?_); refine box_event rfl (N := 1) rfl (cs := #[.string x.n, .string x.v, .bool x.nv]) (t := 41) (by first | (go_simp; done) | (go_simp; rfl)) ?_; intro g hg w1 hbox hb); have HX := Aside0.mk (show SAt w1 g #[.string x.n, .string x.v, .bool x.nv] 41 from hbox); have HB := Aside0.mk hb; have HGe := Aside0.mk hg; clear hb hg hbox; have z0 := HX.out.is 0 rfl; have z1 := HX.out.is 1 rfl; have z2 := HX.out.is 2 rfl)
  refine (HP.out _).mono ?_
  rintro e w2 ⟨rfl, rfl⟩
  go_wp2_with fail
  refine (HT.out _).mono ?_
  rintro e w3 ⟨rfl, hb⟩
  have HX1 := HX
  have HB1 := HB
  have HX3 := Aside0.mk (HX1.out.below hb)
  have HB3 := Aside0.mk (below_step HB1.out hb)
  clear hb z0 z1 z2
  have z0 := HX3.out.is 0 rfl
  have z1 := HX3.out.is 1 rfl
  have z2 := HX3.out.is 2 rfl
  cases b1 with
  | false =>
    go_wp2_with fail
    go_ret
    exact ⟨by rw [← HR.out]; rfl, HB3.out⟩
  | true =>
  go_wp2_with fail
  refine (HF.out _).mono ?_
  rintro e w4 ⟨rfl, hb⟩
  have HX4 := Aside0.mk (HX3.out.below hb)
  have HB4 := Aside0.mk (below_step HB3.out hb)
  clear hb z0 z1 z2
  have z0 := HX4.out.is 0 rfl
  have z1 := HX4.out.is 1 rfl
  have z2 := HX4.out.is 2 rfl
  cases b2 with
  | false =>
    go_wp2_with fail
    go_ret
    exact ⟨by rw [← HR.out]; rfl, HB4.out⟩
  | true =>
  go_wp2_with fail
  refine (HV.out _).mono ?_
  rintro e w5 ⟨rfl, hb⟩
  have HX5 := Aside0.mk (HX4.out.below hb)
  have HB5 := Aside0.mk (below_step HB4.out hb)
  clear hb z0 z1 z2
  have z0 := HX5.out.is 0 rfl
  have z1 := HX5.out.is 1 rfl
  have z2 := HX5.out.is 2 rfl
  go_wp2_with fail
  go_ret
  exact ⟨by rw [← HR.out]; rfl, HB5.out⟩
set_option maxHeartbeats 4000000 in
set_option maxRecDepth 100000 in
theorem barred_calls (x : Fl) (w : World) :
    Calls Tryd.prog 34 #[.agg x.cs] w fun e w' => e = .returned (.bool (barredB x.f)) ∧ Below w.heap.size w w' := by
  unfold Fl.cs
  obtain ⟨R, hR⟩ : ∃ R, barredB x.f = R := ⟨_, rfl⟩
  rw [hR]
  unfold barredB Fl.f at hR
  simp only [] at hR
  by_cases b1 : x.n = b1N
  · obtain ⟨d1, d2, d3⟩ := const_yes b1 (L := [99, 111, 110, 110, 101, 99, 116, 105, 111, 110]) rfl
    have HR := Lib.hid (show R = true by rw [← hR, if_pos (by simp [b1])])
    clear hR b1
    go_enter Tryd.func34, Tryd.ntmps34
    go_wp2_with (((with_reducible refine gate_dst (N := 1) rfl ?_); refine box_event rfl (N := 1) rfl (cs := #[.string x.n, .string x.v, .bool x.nv]) (t := 41) (by first | (go_simp; done) | (go_simp; rfl)) ?_; intro g hg w1 hbox hb); have HX := Aside0.mk (show SAt w1 g #[.string x.n, .string x.v, .bool x.nv] 41 from hbox); have HB := Aside0.mk hb; have HGe := Aside0.mk hg; clear hb hg hbox; have z0 := HX.out.is 0 rfl; have z1 := HX.out.is 1 rfl; have z2 := HX.out.is 2 rfl)
    go_ret
    exact ⟨by rw [HR.out]; rfl, HB.out⟩
  obtain ⟨b11, b12, b13⟩ := const_no b1 (L := [99, 111, 110, 110, 101, 99, 116, 105, 111, 110]) rfl
  by_cases b2 : x.n = b2N
  · obtain ⟨d1, d2, d3⟩ := const_yes b2 (L := [107, 101, 101, 112, 45, 97, 108, 105, 118, 101]) rfl
    have HR := Lib.hid (show R = true by rw [← hR, if_pos (by simp [b2])])
    clear hR b2
    go_enter Tryd.func34, Tryd.ntmps34
    go_wp2_with (((with_reducible refine gate_dst (N := 1) rfl ?_); refine box_event rfl (N := 1) rfl (cs := #[.string x.n, .string x.v, .bool x.nv]) (t := 41) (by first | (go_simp; done) | (go_simp; rfl)) ?_; intro g hg w1 hbox hb); have HX := Aside0.mk (show SAt w1 g #[.string x.n, .string x.v, .bool x.nv] 41 from hbox); have HB := Aside0.mk hb; have HGe := Aside0.mk hg; clear hb hg hbox; have z0 := HX.out.is 0 rfl; have z1 := HX.out.is 1 rfl; have z2 := HX.out.is 2 rfl)
    go_ret
    exact ⟨by rw [HR.out]; rfl, HB.out⟩
  obtain ⟨b21, b22, b23⟩ := const_no b2 (L := [107, 101, 101, 112, 45, 97, 108, 105, 118, 101]) rfl
  by_cases b3 : x.n = b3N
  · obtain ⟨d1, d2, d3⟩ := const_yes b3 (L := [112, 114, 111, 120, 121, 45, 99, 111, 110, 110, 101, 99, 116, 105, 111, 110]) rfl
    have HR := Lib.hid (show R = true by rw [← hR, if_pos (by simp [b3])])
    clear hR b3
    go_enter Tryd.func34, Tryd.ntmps34
    go_wp2_with (((with_reducible refine gate_dst (N := 1) rfl ?_); refine box_event rfl (N := 1) rfl (cs := #[.string x.n, .string x.v, .bool x.nv]) (t := 41) (by first | (go_simp; done) | (go_simp; rfl)) ?_; intro g hg w1 hbox hb); have HX := Aside0.mk (show SAt w1 g #[.string x.n, .string x.v, .bool x.nv] 41 from hbox); have HB := Aside0.mk hb; have HGe := Aside0.mk hg; clear hb hg hbox; have z0 := HX.out.is 0 rfl; have z1 := HX.out.is 1 rfl; have z2 := HX.out.is 2 rfl)
    go_ret
    exact ⟨by rw [HR.out]; rfl, HB.out⟩
  obtain ⟨b31, b32, b33⟩ := const_no b3 (L := [112, 114, 111, 120, 121, 45, 99, 111, 110, 110, 101, 99, 116, 105, 111, 110]) rfl
  by_cases b4 : x.n = b4N
  · obtain ⟨d1, d2, d3⟩ := const_yes b4 (L := [116, 114, 97, 110, 115, 102, 101, 114, 45, 101, 110, 99, 111, 100, 105, 110, 103]) rfl
    have HR := Lib.hid (show R = true by rw [← hR, if_pos (by simp [b4])])
    clear hR b4
    go_enter Tryd.func34, Tryd.ntmps34
    go_wp2_with (((with_reducible refine gate_dst (N := 1) rfl ?_); refine box_event rfl (N := 1) rfl (cs := #[.string x.n, .string x.v, .bool x.nv]) (t := 41) (by first | (go_simp; done) | (go_simp; rfl)) ?_; intro g hg w1 hbox hb); have HX := Aside0.mk (show SAt w1 g #[.string x.n, .string x.v, .bool x.nv] 41 from hbox); have HB := Aside0.mk hb; have HGe := Aside0.mk hg; clear hb hg hbox; have z0 := HX.out.is 0 rfl; have z1 := HX.out.is 1 rfl; have z2 := HX.out.is 2 rfl)
    go_ret
    exact ⟨by rw [HR.out]; rfl, HB.out⟩
  obtain ⟨b41, b42, b43⟩ := const_no b4 (L := [116, 114, 97, 110, 115, 102, 101, 114, 45, 101, 110, 99, 111, 100, 105, 110, 103]) rfl
  by_cases b5 : x.n = b5N
  · obtain ⟨d1, d2, d3⟩ := const_yes b5 (L := [117, 112, 103, 114, 97, 100, 101]) rfl
    have HR := Lib.hid (show R = true by rw [← hR, if_pos (by simp [b5])])
    clear hR b5
    go_enter Tryd.func34, Tryd.ntmps34
    go_wp2_with (((with_reducible refine gate_dst (N := 1) rfl ?_); refine box_event rfl (N := 1) rfl (cs := #[.string x.n, .string x.v, .bool x.nv]) (t := 41) (by first | (go_simp; done) | (go_simp; rfl)) ?_; intro g hg w1 hbox hb); have HX := Aside0.mk (show SAt w1 g #[.string x.n, .string x.v, .bool x.nv] 41 from hbox); have HB := Aside0.mk hb; have HGe := Aside0.mk hg; clear hb hg hbox; have z0 := HX.out.is 0 rfl; have z1 := HX.out.is 1 rfl; have z2 := HX.out.is 2 rfl)
    go_ret
    exact ⟨by rw [HR.out]; rfl, HB.out⟩
  obtain ⟨b51, b52, b53⟩ := const_no b5 (L := [117, 112, 103, 114, 97, 100, 101]) rfl
  rw [if_neg (by simp [b1, b2, b3, b4, b5])] at hR
  by_cases c6 : x.n = teN
  · rw [if_pos c6] at hR
    obtain ⟨d1, d2, d3⟩ := const_yes c6 (L := [116, 101]) rfl
    by_cases c7 : x.v = trV
    · obtain ⟨k1, k2, k3⟩ := const_yes c7 (L := [116, 114, 97, 105, 108, 101, 114, 115]) rfl
      have HR := Lib.hid (show R = false by rw [← hR, decide_eq_true c7]; rfl)
      clear hR c6 c7 b1 b2 b3 b4 b5
      go_enter Tryd.func34, Tryd.ntmps34
      go_wp2_with (((with_reducible refine gate_dst (N := 1) rfl ?_); refine box_event rfl (N := 1) rfl (cs := #[.string x.n, .string x.v, .bool x.nv]) (t := 41) (by first | (go_simp; done) | (go_simp; rfl)) ?_; intro g hg w1 hbox hb); have HX := Aside0.mk (show SAt w1 g #[.string x.n, .string x.v, .bool x.nv] 41 from hbox); have HB := Aside0.mk hb; have HGe := Aside0.mk hg; clear hb hg hbox; have z0 := HX.out.is 0 rfl; have z1 := HX.out.is 1 rfl; have z2 := HX.out.is 2 rfl)
      go_ret
      exact ⟨by rw [HR.out]; rfl, HB.out⟩
    · obtain ⟨k1, k2, k3⟩ := const_no c7 (L := [116, 114, 97, 105, 108, 101, 114, 115]) rfl
      have HR := Lib.hid (show R = true by rw [← hR, decide_eq_false c7]; rfl)
      clear hR c6 c7 b1 b2 b3 b4 b5
      go_enter Tryd.func34, Tryd.ntmps34
      go_wp2_with (((with_reducible refine gate_dst (N := 1) rfl ?_); refine box_event rfl (N := 1) rfl (cs := #[.string x.n, .string x.v, .bool x.nv]) (t := 41) (by first | (go_simp; done) | (go_simp; rfl)) ?_; intro g hg w1 hbox hb); have HX := Aside0.mk (show SAt w1 g #[.string x.n, .string x.v, .bool x.nv] 41 from hbox); have HB := Aside0.mk hb; have HGe := Aside0.mk hg; clear hb hg hbox; have z0 := HX.out.is 0 rfl; have z1 := HX.out.is 1 rfl; have z2 := HX.out.is 2 rfl)
      go_ret
      exact ⟨by rw [HR.out]; rfl, HB.out⟩
  · obtain ⟨d1, d2, d3⟩ := const_no c6 (L := [116, 101]) rfl
    rw [if_neg c6] at hR
    have HR := Lib.hid hR.symm
    clear hR c6 b1 b2 b3 b4 b5
    go_enter Tryd.func34, Tryd.ntmps34
    go_wp2_with (((with_reducible refine gate_dst (N := 1) rfl ?_); refine box_event rfl (N := 1) rfl (cs := #[.string x.n, .string x.v, .bool x.nv]) (t := 41) (by first | (go_simp; done) | (go_simp; rfl)) ?_; intro g hg w1 hbox hb); have HX := Aside0.mk (show SAt w1 g #[.string x.n, .string x.v, .bool x.nv] 41 from hbox); have HB := Aside0.mk hb; have HGe := Aside0.mk hg; clear hb hg hbox; have z0 := HX.out.is 0 rfl; have z1 := HX.out.is 1 rfl; have z2 := HX.out.is 2 rfl)
    go_ret
    exact ⟨by rw [HR.out]; rfl, HB.out⟩
end Go.Proofs.YtdpoookgmckclaaDoor.M
