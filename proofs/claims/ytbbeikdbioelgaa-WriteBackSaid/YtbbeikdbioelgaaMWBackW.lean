/- Walk of nunciolaw07.WriteBack, with its plain law. -/
import Derived.Test.YtbbeikdbioelgaaMAwake
import Derived.Test.YtbbeikdbioelgaaMRow
import Derived.Test.YtbbeikdbioelgaaMSame
import Derived.Test.YtbbeikdbioelgaaMWSize
set_option linter.unusedVariables false
set_option linter.unusedSimpArgs false
namespace Go.Proofs.Ytbbeikdbioelgaa.M
open Go.RowKit Go.Maps Go.Proofs.YtbbeikdbioelgaaW.PrintWords Go.Proofs.YtbbeikdbioelgaaW.PrintLast Go.Proofs.YtbbeikdbioelgaaW.PrintMore
attribute [local go_sem] max2_int min2_int max_two min_two max_three min_three max_four min_four
attribute [local go_sem ↓] Go.wp_at_zero Go.wp_at_succ
set_option maxHeartbeats 8000000 in
set_option maxRecDepth 100000 in
theorem back7_calls (m : Msg) (v : Value) (w : World) (hv : MsgAt w v m) (hin : MsgIn m) :
    Calls Try.prog 11 #[v] w fun e w' => e = .returned (.bool true) ∧ Below w.heap.size w w' := by
  have HV := Aside0.mk hv
  have HIn := Aside0.mk hin
  obtain ⟨A2, c2, A3, c3, A4, c4, A5, c5, rfl, l2, g2, l3, g3, l4, g4, l5, g5⟩ := hv
  clear g2 g3 g4 g5 hin
  go_enter Try.func11, Try.ntmps11
  go_wp2_with (((with_reducible refine gate_dst (N := 1) rfl ?_); refine box_event rfl (N := 1) rfl (cs := #[.int .u16 m.id, .int .u16 m.flags, .slice A2 m.qs.length c2, .slice A3 m.ans.length c3, .slice A4 m.auth.length c4, .slice A5 m.add.length c5]) (t := 26) (by first | (go_simp; done) | (go_simp; rfl)) ?_; intro g hg w1 hbox hb); have HX := Aside0.mk hbox; have HB := Aside0.mk hb; have HGe := Aside0.mk hg; clear hb hg; have z0 : w1.cell? ⟨g, 0, none⟩ = some (.int .u16 m.id) := (blk_cell HX.out 0).trans rfl; have z1 : w1.cell? ⟨g, 1, none⟩ = some (.int .u16 m.flags) := (blk_cell HX.out 1).trans rfl; have z2 : w1.cell? ⟨g, 2, none⟩ = some (.slice A2 m.qs.length c2) := (blk_cell HX.out 2).trans rfl; have z3 : w1.cell? ⟨g, 3, none⟩ = some (.slice A3 m.ans.length c3) := (blk_cell HX.out 3).trans rfl; have z4 : w1.cell? ⟨g, 4, none⟩ = some (.slice A4 m.auth.length c4) := (blk_cell HX.out 4).trans rfl; have z5 : w1.cell? ⟨g, 5, none⟩ = some (.slice A5 m.add.length c5) := (blk_cell HX.out 5).trans rfl; have hlt : g < w1.heap.size := blk_lt hbox; have hlne : ¬ g = w1.heap.size := Nat.ne_of_lt hlt; clear hbox)
  refine (awake_calls _).mono ?_
  rintro e w2 ⟨rfl, hb⟩
  have HX1 := HX
  have HB1 := HB
  have HX2 := Aside0.mk (blk_below HX1.out hb)
  have HB2 := Aside0.mk (below_step HB1.out hb)
  clear hb z0 z1 z2 z3 z4 z5
  have z0 : w2.cell? ⟨g, 0, none⟩ = some (.int .u16 m.id) := (blk_cell HX2.out 0).trans rfl
  have z1 : w2.cell? ⟨g, 1, none⟩ = some (.int .u16 m.flags) := (blk_cell HX2.out 1).trans rfl
  have z2 : w2.cell? ⟨g, 2, none⟩ = some (.slice A2 m.qs.length c2) := (blk_cell HX2.out 2).trans rfl
  have z3 : w2.cell? ⟨g, 3, none⟩ = some (.slice A3 m.ans.length c3) := (blk_cell HX2.out 3).trans rfl
  have z4 : w2.cell? ⟨g, 4, none⟩ = some (.slice A4 m.auth.length c4) := (blk_cell HX2.out 4).trans rfl
  have z5 : w2.cell? ⟨g, 5, none⟩ = some (.slice A5 m.add.length c5) := (blk_cell HX2.out 5).trans rfl
  go_wp2_with fail
  refine (few7_calls m _ _ (HV.out.below HB2.out) HIn.out.sized).mono ?_
  rintro e w3 ⟨b, rfl, h7, hb⟩
  have H7 := Lib.hid h7
  clear h7
  have HX3 := Aside0.mk (blk_below HX2.out hb)
  have HB3 := Aside0.mk (below_step HB2.out hb)
  clear hb z0 z1 z2 z3 z4 z5
  have z0 : w3.cell? ⟨g, 0, none⟩ = some (.int .u16 m.id) := (blk_cell HX3.out 0).trans rfl
  have z1 : w3.cell? ⟨g, 1, none⟩ = some (.int .u16 m.flags) := (blk_cell HX3.out 1).trans rfl
  have z2 : w3.cell? ⟨g, 2, none⟩ = some (.slice A2 m.qs.length c2) := (blk_cell HX3.out 2).trans rfl
  have z3 : w3.cell? ⟨g, 3, none⟩ = some (.slice A3 m.ans.length c3) := (blk_cell HX3.out 3).trans rfl
  have z4 : w3.cell? ⟨g, 4, none⟩ = some (.slice A4 m.auth.length c4) := (blk_cell HX3.out 4).trans rfl
  have z5 : w3.cell? ⟨g, 5, none⟩ = some (.slice A5 m.add.length c5) := (blk_cell HX3.out 5).trans rfl
  cases b with
  | false =>
    go_wp2_with fail
    go_ret
    exact ⟨rfl, HB3.out⟩
  | true =>
  have HO := Aside0.mk (HIn.out.ok (H7.out rfl))
  clear H7
  go_wp2_with fail
  refine (write_calls m _ _ (HV.out.below HB3.out) HO.out).mono ?_
  rintro e w4 ⟨rfl, hb⟩
  have HX4 := Aside0.mk (blk_below HX3.out hb)
  have HB4 := Aside0.mk (below_step HB3.out hb)
  clear hb z0 z1 z2 z3 z4 z5
  have z0 : w4.cell? ⟨g, 0, none⟩ = some (.int .u16 m.id) := (blk_cell HX4.out 0).trans rfl
  have z1 : w4.cell? ⟨g, 1, none⟩ = some (.int .u16 m.flags) := (blk_cell HX4.out 1).trans rfl
  have z2 : w4.cell? ⟨g, 2, none⟩ = some (.slice A2 m.qs.length c2) := (blk_cell HX4.out 2).trans rfl
  have z3 : w4.cell? ⟨g, 3, none⟩ = some (.slice A3 m.ans.length c3) := (blk_cell HX4.out 3).trans rfl
  have z4 : w4.cell? ⟨g, 4, none⟩ = some (.slice A4 m.auth.length c4) := (blk_cell HX4.out 4).trans rfl
  have z5 : w4.cell? ⟨g, 5, none⟩ = some (.slice A5 m.add.length c5) := (blk_cell HX4.out 5).trans rfl
  obtain ⟨S, hS⟩ : ∃ S, (writeM m).1 = S := ⟨_, rfl⟩
  obtain ⟨co, hco⟩ : ∃ co, (writeM m).2 = co := ⟨_, rfl⟩
  rw [hS, hco]
  have HS := Aside0.mk (Prod.ext_iff.2 ⟨hS, hco⟩ : writeM m = (S, co))
  clear hS hco
  by_cases k1 : co = 0
  case neg =>
    have e1 : (co != 0) = true := by rw [bne_iff_ne]; exact k1
    obtain ⟨rfl, hE⟩ := write_bad HO.out HS.out k1
    rcases hE with ⟨rfl, hc, hp⟩ | ⟨hn, hc⟩
    · have HC := Lib.hid hc
      have d1 : decide ((65535 : Int) < ((plainM m : Nat) : Int)) = true := decide_eq_true (by omega)
      have d2 : decide (65535 < plainM m) = true := decide_eq_true hp
      have e2 : ((3 : Int) == 3) = true := rfl
      clear hc k1 e1 hp
      go_wp2_with fail
      refine (plain7_calls m _ _ (HV.out.below HB4.out) HO.out HC.out).mono ?_
      rintro e w5 ⟨rfl, hb⟩
      have HX5 := Aside0.mk (blk_below HX4.out hb)
      have HB5 := Aside0.mk (below_step HB4.out hb)
      clear hb z0 z1 z2 z3 z4 z5
      have z0 : w5.cell? ⟨g, 0, none⟩ = some (.int .u16 m.id) := (blk_cell HX5.out 0).trans rfl
      have z1 : w5.cell? ⟨g, 1, none⟩ = some (.int .u16 m.flags) := (blk_cell HX5.out 1).trans rfl
      have z2 : w5.cell? ⟨g, 2, none⟩ = some (.slice A2 m.qs.length c2) := (blk_cell HX5.out 2).trans rfl
      have z3 : w5.cell? ⟨g, 3, none⟩ = some (.slice A3 m.ans.length c3) := (blk_cell HX5.out 3).trans rfl
      have z4 : w5.cell? ⟨g, 4, none⟩ = some (.slice A4 m.auth.length c4) := (blk_cell HX5.out 4).trans rfl
      have z5 : w5.cell? ⟨g, 5, none⟩ = some (.slice A5 m.add.length c5) := (blk_cell HX5.out 5).trans rfl
      go_wp2_with fail
      go_ret
      exact ⟨rfl, HB5.out⟩
    · have HC := Lib.hid hc
      have e2 : (co == 3) = false := beq_eq_false_iff_ne.mpr hn
      have e3 : (co == co) = true := beq_iff_eq.mpr rfl
      clear hc k1 hn
      go_wp2_with fail
      refine (checkM_calls m _ _ (HV.out.below HB4.out) HO.out).mono ?_
      rw [← HC.out]
      rintro e w5 ⟨rfl, hb⟩
      have HX5 := Aside0.mk (blk_below HX4.out hb)
      have HB5 := Aside0.mk (below_step HB4.out hb)
      clear hb z0 z1 z2 z3 z4 z5
      have z0 : w5.cell? ⟨g, 0, none⟩ = some (.int .u16 m.id) := (blk_cell HX5.out 0).trans rfl
      have z1 : w5.cell? ⟨g, 1, none⟩ = some (.int .u16 m.flags) := (blk_cell HX5.out 1).trans rfl
      have z2 : w5.cell? ⟨g, 2, none⟩ = some (.slice A2 m.qs.length c2) := (blk_cell HX5.out 2).trans rfl
      have z3 : w5.cell? ⟨g, 3, none⟩ = some (.slice A3 m.ans.length c3) := (blk_cell HX5.out 3).trans rfl
      have z4 : w5.cell? ⟨g, 4, none⟩ = some (.slice A4 m.auth.length c4) := (blk_cell HX5.out 4).trans rfl
      have z5 : w5.cell? ⟨g, 5, none⟩ = some (.slice A5 m.add.length c5) := (blk_cell HX5.out 5).trans rfl
      go_wp2_with fail
      go_ret
      exact ⟨rfl, HB5.out⟩
  have e1 : (co != 0) = false := by rw [k1]; rfl
  subst k1
  have hW := write_read HO.out HS.out
  have HR := Aside0.mk hW.1
  have hZ := write_size HO.out HS.out
  have HC := Lib.hid (write_ok_check HS.out)
  have HSz := Lib.hid hW.2
  have r1 : decide ((S.size : Int) ≤ ((plainM m : Nat) : Int)) = true := decide_eq_true (by omega)
  have r2 : decide (S.size ≤ plainM m) = true := decide_eq_true hZ
  have r3 : decide ((S.size : Int) ≤ 65535) = true := decide_eq_true (by omega)
  have r4 : decide (S.size ≤ 65535) = true := decide_eq_true hW.2
  clear hW hZ
  go_wp2_with fail
  refine (Read_calls S _ (by have := HSz.out; omega)).mono ?_
  rw [HR.out]
  rintro e w5 ⟨⟨v, rfl, hm⟩, hb⟩
  have HM := Aside0.mk hm
  obtain ⟨B2, d2, B3, d3, B4, d4, B5, d5, rfl, -⟩ := hm
  have HX5 := Aside0.mk (blk_below HX4.out hb)
  have HB5 := Aside0.mk (below_step HB4.out hb)
  clear hb z0 z1 z2 z3 z4 z5
  have z0 : w5.cell? ⟨g, 0, none⟩ = some (.int .u16 m.id) := (blk_cell HX5.out 0).trans rfl
  have z1 : w5.cell? ⟨g, 1, none⟩ = some (.int .u16 m.flags) := (blk_cell HX5.out 1).trans rfl
  have z2 : w5.cell? ⟨g, 2, none⟩ = some (.slice A2 m.qs.length c2) := (blk_cell HX5.out 2).trans rfl
  have z3 : w5.cell? ⟨g, 3, none⟩ = some (.slice A3 m.ans.length c3) := (blk_cell HX5.out 3).trans rfl
  have z4 : w5.cell? ⟨g, 4, none⟩ = some (.slice A4 m.auth.length c4) := (blk_cell HX5.out 4).trans rfl
  have z5 : w5.cell? ⟨g, 5, none⟩ = some (.slice A5 m.add.length c5) := (blk_cell HX5.out 5).trans rfl
  have hlt5 : g < w5.heap.size := blk_lt HX5.out
  have hlne5 : ¬ g = w5.heap.size := Nat.ne_of_lt hlt5
  go_wp2_with fail
  have hal := below_alloc (Below.refl w5.heap.size w5) (.cells #[.int .u16 m.id, .int .u16 m.flags, .slice B2 m.qs.length d2, .slice B3 m.ans.length d3, .slice B4 m.auth.length d4, .slice B5 m.add.length d5] 26 (0, 0))
  refine (same6_calls (HM.out.below hal) ((HV.out.below HB5.out).below hal)).mono ?_
  rintro e w6 ⟨b, rfl, hi, hbb⟩
  obtain rfl : b = true := hi.2 rfl
  have hb := hal.trans (hbb.mono hal.size)
  clear hi hbb hal
  have HX6 := Aside0.mk (blk_below HX5.out hb)
  have HB6 := Aside0.mk (below_step HB5.out hb)
  clear hb z0 z1 z2 z3 z4 z5
  have z0 : w6.cell? ⟨g, 0, none⟩ = some (.int .u16 m.id) := (blk_cell HX6.out 0).trans rfl
  have z1 : w6.cell? ⟨g, 1, none⟩ = some (.int .u16 m.flags) := (blk_cell HX6.out 1).trans rfl
  have z2 : w6.cell? ⟨g, 2, none⟩ = some (.slice A2 m.qs.length c2) := (blk_cell HX6.out 2).trans rfl
  have z3 : w6.cell? ⟨g, 3, none⟩ = some (.slice A3 m.ans.length c3) := (blk_cell HX6.out 3).trans rfl
  have z4 : w6.cell? ⟨g, 4, none⟩ = some (.slice A4 m.auth.length c4) := (blk_cell HX6.out 4).trans rfl
  have z5 : w6.cell? ⟨g, 5, none⟩ = some (.slice A5 m.add.length c5) := (blk_cell HX6.out 5).trans rfl
  go_wp2_with fail
  refine (plain7_calls m _ _ (HV.out.below HB6.out) HO.out HC.out).mono ?_
  rintro e w7 ⟨rfl, hb⟩
  have HX7 := Aside0.mk (blk_below HX6.out hb)
  have HB7 := Aside0.mk (below_step HB6.out hb)
  clear hb z0 z1 z2 z3 z4 z5
  have z0 : w7.cell? ⟨g, 0, none⟩ = some (.int .u16 m.id) := (blk_cell HX7.out 0).trans rfl
  have z1 : w7.cell? ⟨g, 1, none⟩ = some (.int .u16 m.flags) := (blk_cell HX7.out 1).trans rfl
  have z2 : w7.cell? ⟨g, 2, none⟩ = some (.slice A2 m.qs.length c2) := (blk_cell HX7.out 2).trans rfl
  have z3 : w7.cell? ⟨g, 3, none⟩ = some (.slice A3 m.ans.length c3) := (blk_cell HX7.out 3).trans rfl
  have z4 : w7.cell? ⟨g, 4, none⟩ = some (.slice A4 m.auth.length c4) := (blk_cell HX7.out 4).trans rfl
  have z5 : w7.cell? ⟨g, 5, none⟩ = some (.slice A5 m.add.length c5) := (blk_cell HX7.out 5).trans rfl
  go_wp2_with fail
  go_ret
  exact ⟨rfl, HB7.out⟩
theorem back7_row (W : World) (u : Value) (r : Msg) (hu : MsgAt W u r) (iu : MsgIn r) :
    Calls Try.prog 11 #[u] W fun e w' => e = .returned (.bool true) ∧ Below W.heap.size W w' := back7_calls r u W hu iu
end Go.Proofs.Ytbbeikdbioelgaa.M
