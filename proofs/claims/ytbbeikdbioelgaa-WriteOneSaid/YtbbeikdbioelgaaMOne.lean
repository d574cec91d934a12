/- Walk of nunciolaw07.WriteOne, over the plain law OneLaw. -/
import Derived.Test.YtbbeikdbioelgaaMAwake
import Derived.Test.YtbbeikdbioelgaaMRow
import Derived.Test.YtbbeikdbioelgaaMSame
set_option linter.unusedVariables false
set_option linter.unusedSimpArgs false
namespace Go.Proofs.Ytbbeikdbioelgaa.M
open Go.RowKit Go.Maps Go.Proofs.YtbbeikdbioelgaaW.PrintWords Go.Proofs.YtbbeikdbioelgaaW.PrintLast Go.Proofs.YtbbeikdbioelgaaW.PrintMore
attribute [local go_sem] max2_int min2_int max_two min_two max_three min_three max_four min_four
attribute [local go_sem ↓] Go.wp_at_zero Go.wp_at_succ

/-- The plain law: messages with the same bytes are the same. -/
def OneLaw : Prop := ∀ (a b : Msg) (S : ByteArray), MsgOk a → MsgOk b → writeM a = (S, 0) → writeM b = (S, 0) → a = b
set_option maxHeartbeats 8000000 in
set_option maxRecDepth 100000 in
theorem one_calls (H : OneLaw) {r s : Msg} {u v : Value} {w : World} (hu : MsgAt w u r) (hv : MsgAt w v s) (iu : MsgIn r) (iv : MsgIn s) :
    Calls Try.prog 4 #[u, v] w fun e w' => e = .returned (.bool true) ∧ Below w.heap.size w w' := by
  have HU := Aside0.mk hu
  have HV := Aside0.mk hv
  have IU := Aside0.mk iu
  have IV := Aside0.mk iv
  have HL := Aside0.mk H
  clear iu iv H
  obtain ⟨A2, c2, A3, c3, A4, c4, A5, c5, rfl, l2, g2, l3, g3, l4, g4, l5, g5⟩ := hu
  obtain ⟨B2, d2, B3, d3, B4, d4, B5, d5, rfl, m2, h2, m3, h3, m4, h4, m5, h5⟩ := hv
  clear g2 g3 g4 g5 h2 h3 h4 h5
  go_enter Try.func4, Try.ntmps4
  go_wp2_with (first | ((with_reducible refine gate_dst (N := 2) rfl ?_); refine box_event rfl (N := 2) rfl (cs := #[.int .u16 r.id, .int .u16 r.flags, .slice A2 r.qs.length c2, .slice A3 r.ans.length c3, .slice A4 r.auth.length c4, .slice A5 r.add.length c5]) (t := 26) (by first | (go_simp; done) | (go_simp; rfl)) ?_; intro g hg w1 hbox hb; have HX := Aside0.mk hbox; have HB := Aside0.mk hb; clear hb hg hbox) | ((with_reducible refine gate_dst (N := 3) rfl ?_); refine box_event rfl (N := 3) rfl (cs := #[.int .u16 s.id, .int .u16 s.flags, .slice B2 s.qs.length d2, .slice B3 s.ans.length d3, .slice B4 s.auth.length d4, .slice B5 s.add.length d5]) (t := 26) (by first | (go_simp; done) | (go_simp; rfl)) ?_; intro g2 hg2 w2 hbox2 hb2; have HX2 := Aside0.mk (blk_below HX.out hb2); have HY2 := Aside0.mk hbox2; have HB2 := Aside0.mk (below_step HB.out hb2); clear hb2 hg2 hbox2; have z0 : w2.cell? ⟨g, 0, none⟩ = some (.int .u16 r.id) := (blk_cell HX2.out 0).trans rfl; have z1 : w2.cell? ⟨g, 1, none⟩ = some (.int .u16 r.flags) := (blk_cell HX2.out 1).trans rfl; have z2 : w2.cell? ⟨g, 2, none⟩ = some (.slice A2 r.qs.length c2) := (blk_cell HX2.out 2).trans rfl; have z3 : w2.cell? ⟨g, 3, none⟩ = some (.slice A3 r.ans.length c3) := (blk_cell HX2.out 3).trans rfl; have z4 : w2.cell? ⟨g, 4, none⟩ = some (.slice A4 r.auth.length c4) := (blk_cell HX2.out 4).trans rfl; have z5 : w2.cell? ⟨g, 5, none⟩ = some (.slice A5 r.add.length c5) := (blk_cell HX2.out 5).trans rfl; have y0 : w2.cell? ⟨g2, 0, none⟩ = some (.int .u16 s.id) := (blk_cell HY2.out 0).trans rfl; have y1 : w2.cell? ⟨g2, 1, none⟩ = some (.int .u16 s.flags) := (blk_cell HY2.out 1).trans rfl; have y2 : w2.cell? ⟨g2, 2, none⟩ = some (.slice B2 s.qs.length d2) := (blk_cell HY2.out 2).trans rfl; have y3 : w2.cell? ⟨g2, 3, none⟩ = some (.slice B3 s.ans.length d3) := (blk_cell HY2.out 3).trans rfl; have y4 : w2.cell? ⟨g2, 4, none⟩ = some (.slice B4 s.auth.length d4) := (blk_cell HY2.out 4).trans rfl; have y5 : w2.cell? ⟨g2, 5, none⟩ = some (.slice B5 s.add.length d5) := (blk_cell HY2.out 5).trans rfl))
  refine (awake_calls _).mono ?_
  rintro e w3 ⟨rfl, hb⟩
  have HX3 := Aside0.mk (blk_below HX2.out hb)
  have HY3 := Aside0.mk (blk_below HY2.out hb)
  have HB3 := Aside0.mk (below_step HB2.out hb)
  clear hb z0 z1 z2 z3 z4 z5 y0 y1 y2 y3 y4 y5
  have z0 : w3.cell? ⟨g, 0, none⟩ = some (.int .u16 r.id) := (blk_cell HX3.out 0).trans rfl; have z1 : w3.cell? ⟨g, 1, none⟩ = some (.int .u16 r.flags) := (blk_cell HX3.out 1).trans rfl; have z2 : w3.cell? ⟨g, 2, none⟩ = some (.slice A2 r.qs.length c2) := (blk_cell HX3.out 2).trans rfl; have z3 : w3.cell? ⟨g, 3, none⟩ = some (.slice A3 r.ans.length c3) := (blk_cell HX3.out 3).trans rfl; have z4 : w3.cell? ⟨g, 4, none⟩ = some (.slice A4 r.auth.length c4) := (blk_cell HX3.out 4).trans rfl; have z5 : w3.cell? ⟨g, 5, none⟩ = some (.slice A5 r.add.length c5) := (blk_cell HX3.out 5).trans rfl
  have y0 : w3.cell? ⟨g2, 0, none⟩ = some (.int .u16 s.id) := (blk_cell HY3.out 0).trans rfl; have y1 : w3.cell? ⟨g2, 1, none⟩ = some (.int .u16 s.flags) := (blk_cell HY3.out 1).trans rfl; have y2 : w3.cell? ⟨g2, 2, none⟩ = some (.slice B2 s.qs.length d2) := (blk_cell HY3.out 2).trans rfl; have y3 : w3.cell? ⟨g2, 3, none⟩ = some (.slice B3 s.ans.length d3) := (blk_cell HY3.out 3).trans rfl; have y4 : w3.cell? ⟨g2, 4, none⟩ = some (.slice B4 s.auth.length d4) := (blk_cell HY3.out 4).trans rfl; have y5 : w3.cell? ⟨g2, 5, none⟩ = some (.slice B5 s.add.length d5) := (blk_cell HY3.out 5).trans rfl
  go_wp2_with fail
  refine (few7_calls r _ _ (HU.out.below HB3.out) IU.out.sized).mono ?_
  rintro e w4 ⟨b4, rfl, h7, hb⟩
  have H4 := Lib.hid h7
  clear h7
  have HX4 := Aside0.mk (blk_below HX3.out hb)
  have HY4 := Aside0.mk (blk_below HY3.out hb)
  have HB4 := Aside0.mk (below_step HB3.out hb)
  clear hb z0 z1 z2 z3 z4 z5 y0 y1 y2 y3 y4 y5
  have z0 : w4.cell? ⟨g, 0, none⟩ = some (.int .u16 r.id) := (blk_cell HX4.out 0).trans rfl; have z1 : w4.cell? ⟨g, 1, none⟩ = some (.int .u16 r.flags) := (blk_cell HX4.out 1).trans rfl; have z2 : w4.cell? ⟨g, 2, none⟩ = some (.slice A2 r.qs.length c2) := (blk_cell HX4.out 2).trans rfl; have z3 : w4.cell? ⟨g, 3, none⟩ = some (.slice A3 r.ans.length c3) := (blk_cell HX4.out 3).trans rfl; have z4 : w4.cell? ⟨g, 4, none⟩ = some (.slice A4 r.auth.length c4) := (blk_cell HX4.out 4).trans rfl; have z5 : w4.cell? ⟨g, 5, none⟩ = some (.slice A5 r.add.length c5) := (blk_cell HX4.out 5).trans rfl
  have y0 : w4.cell? ⟨g2, 0, none⟩ = some (.int .u16 s.id) := (blk_cell HY4.out 0).trans rfl; have y1 : w4.cell? ⟨g2, 1, none⟩ = some (.int .u16 s.flags) := (blk_cell HY4.out 1).trans rfl; have y2 : w4.cell? ⟨g2, 2, none⟩ = some (.slice B2 s.qs.length d2) := (blk_cell HY4.out 2).trans rfl; have y3 : w4.cell? ⟨g2, 3, none⟩ = some (.slice B3 s.ans.length d3) := (blk_cell HY4.out 3).trans rfl; have y4 : w4.cell? ⟨g2, 4, none⟩ = some (.slice B4 s.auth.length d4) := (blk_cell HY4.out 4).trans rfl; have y5 : w4.cell? ⟨g2, 5, none⟩ = some (.slice B5 s.add.length d5) := (blk_cell HY4.out 5).trans rfl
  cases b4
  case false =>
    go_wp2_with fail
    go_ret
    exact ⟨rfl, HB4.out⟩
  have OU := Aside0.mk (IU.out.ok (H4.out rfl))
  clear H4
  go_wp2_with fail
  refine (few7_calls s _ _ (HV.out.below HB4.out) IV.out.sized).mono ?_
  rintro e w5 ⟨b5, rfl, h7, hb⟩
  have H5 := Lib.hid h7
  clear h7
  have HX5 := Aside0.mk (blk_below HX4.out hb)
  have HY5 := Aside0.mk (blk_below HY4.out hb)
  have HB5 := Aside0.mk (below_step HB4.out hb)
  clear hb z0 z1 z2 z3 z4 z5 y0 y1 y2 y3 y4 y5
  have z0 : w5.cell? ⟨g, 0, none⟩ = some (.int .u16 r.id) := (blk_cell HX5.out 0).trans rfl; have z1 : w5.cell? ⟨g, 1, none⟩ = some (.int .u16 r.flags) := (blk_cell HX5.out 1).trans rfl; have z2 : w5.cell? ⟨g, 2, none⟩ = some (.slice A2 r.qs.length c2) := (blk_cell HX5.out 2).trans rfl; have z3 : w5.cell? ⟨g, 3, none⟩ = some (.slice A3 r.ans.length c3) := (blk_cell HX5.out 3).trans rfl; have z4 : w5.cell? ⟨g, 4, none⟩ = some (.slice A4 r.auth.length c4) := (blk_cell HX5.out 4).trans rfl; have z5 : w5.cell? ⟨g, 5, none⟩ = some (.slice A5 r.add.length c5) := (blk_cell HX5.out 5).trans rfl
  have y0 : w5.cell? ⟨g2, 0, none⟩ = some (.int .u16 s.id) := (blk_cell HY5.out 0).trans rfl; have y1 : w5.cell? ⟨g2, 1, none⟩ = some (.int .u16 s.flags) := (blk_cell HY5.out 1).trans rfl; have y2 : w5.cell? ⟨g2, 2, none⟩ = some (.slice B2 s.qs.length d2) := (blk_cell HY5.out 2).trans rfl; have y3 : w5.cell? ⟨g2, 3, none⟩ = some (.slice B3 s.ans.length d3) := (blk_cell HY5.out 3).trans rfl; have y4 : w5.cell? ⟨g2, 4, none⟩ = some (.slice B4 s.auth.length d4) := (blk_cell HY5.out 4).trans rfl; have y5 : w5.cell? ⟨g2, 5, none⟩ = some (.slice B5 s.add.length d5) := (blk_cell HY5.out 5).trans rfl
  cases b5
  case false =>
    go_wp2_with fail
    go_ret
    exact ⟨rfl, HB5.out⟩
  have OV := Aside0.mk (IV.out.ok (H5.out rfl))
  clear H5
  go_wp2_with fail
  refine (write_calls r _ _ (HU.out.below HB5.out) OU.out).mono ?_
  rintro e w6 ⟨rfl, hb⟩
  have HX6 := Aside0.mk (blk_below HX5.out hb)
  have HY6 := Aside0.mk (blk_below HY5.out hb)
  have HB6 := Aside0.mk (below_step HB5.out hb)
  clear hb z0 z1 z2 z3 z4 z5 y0 y1 y2 y3 y4 y5
  have z0 : w6.cell? ⟨g, 0, none⟩ = some (.int .u16 r.id) := (blk_cell HX6.out 0).trans rfl; have z1 : w6.cell? ⟨g, 1, none⟩ = some (.int .u16 r.flags) := (blk_cell HX6.out 1).trans rfl; have z2 : w6.cell? ⟨g, 2, none⟩ = some (.slice A2 r.qs.length c2) := (blk_cell HX6.out 2).trans rfl; have z3 : w6.cell? ⟨g, 3, none⟩ = some (.slice A3 r.ans.length c3) := (blk_cell HX6.out 3).trans rfl; have z4 : w6.cell? ⟨g, 4, none⟩ = some (.slice A4 r.auth.length c4) := (blk_cell HX6.out 4).trans rfl; have z5 : w6.cell? ⟨g, 5, none⟩ = some (.slice A5 r.add.length c5) := (blk_cell HX6.out 5).trans rfl
  have y0 : w6.cell? ⟨g2, 0, none⟩ = some (.int .u16 s.id) := (blk_cell HY6.out 0).trans rfl; have y1 : w6.cell? ⟨g2, 1, none⟩ = some (.int .u16 s.flags) := (blk_cell HY6.out 1).trans rfl; have y2 : w6.cell? ⟨g2, 2, none⟩ = some (.slice B2 s.qs.length d2) := (blk_cell HY6.out 2).trans rfl; have y3 : w6.cell? ⟨g2, 3, none⟩ = some (.slice B3 s.ans.length d3) := (blk_cell HY6.out 3).trans rfl; have y4 : w6.cell? ⟨g2, 4, none⟩ = some (.slice B4 s.auth.length d4) := (blk_cell HY6.out 4).trans rfl; have y5 : w6.cell? ⟨g2, 5, none⟩ = some (.slice B5 s.add.length d5) := (blk_cell HY6.out 5).trans rfl
  obtain ⟨S, hS⟩ : ∃ S, (writeM r).1 = S := ⟨_, rfl⟩
  obtain ⟨co, hco⟩ : ∃ co, (writeM r).2 = co := ⟨_, rfl⟩
  rw [hS, hco]
  have HS := Aside0.mk (Prod.ext_iff.2 ⟨hS, hco⟩ : writeM r = (S, co))
  clear hS hco
  go_wp2_with fail
  refine (write_calls s _ _ (HV.out.below HB6.out) OV.out).mono ?_
  rintro e w7 ⟨rfl, hb⟩
  have HX7 := Aside0.mk (blk_below HX6.out hb)
  have HY7 := Aside0.mk (blk_below HY6.out hb)
  have HB7 := Aside0.mk (below_step HB6.out hb)
  clear hb z0 z1 z2 z3 z4 z5 y0 y1 y2 y3 y4 y5
  have z0 : w7.cell? ⟨g, 0, none⟩ = some (.int .u16 r.id) := (blk_cell HX7.out 0).trans rfl; have z1 : w7.cell? ⟨g, 1, none⟩ = some (.int .u16 r.flags) := (blk_cell HX7.out 1).trans rfl; have z2 : w7.cell? ⟨g, 2, none⟩ = some (.slice A2 r.qs.length c2) := (blk_cell HX7.out 2).trans rfl; have z3 : w7.cell? ⟨g, 3, none⟩ = some (.slice A3 r.ans.length c3) := (blk_cell HX7.out 3).trans rfl; have z4 : w7.cell? ⟨g, 4, none⟩ = some (.slice A4 r.auth.length c4) := (blk_cell HX7.out 4).trans rfl; have z5 : w7.cell? ⟨g, 5, none⟩ = some (.slice A5 r.add.length c5) := (blk_cell HX7.out 5).trans rfl
  have y0 : w7.cell? ⟨g2, 0, none⟩ = some (.int .u16 s.id) := (blk_cell HY7.out 0).trans rfl; have y1 : w7.cell? ⟨g2, 1, none⟩ = some (.int .u16 s.flags) := (blk_cell HY7.out 1).trans rfl; have y2 : w7.cell? ⟨g2, 2, none⟩ = some (.slice B2 s.qs.length d2) := (blk_cell HY7.out 2).trans rfl; have y3 : w7.cell? ⟨g2, 3, none⟩ = some (.slice B3 s.ans.length d3) := (blk_cell HY7.out 3).trans rfl; have y4 : w7.cell? ⟨g2, 4, none⟩ = some (.slice B4 s.auth.length d4) := (blk_cell HY7.out 4).trans rfl; have y5 : w7.cell? ⟨g2, 5, none⟩ = some (.slice B5 s.add.length d5) := (blk_cell HY7.out 5).trans rfl
  obtain ⟨T, hT⟩ : ∃ S, (writeM s).1 = S := ⟨_, rfl⟩
  obtain ⟨ct, hct⟩ : ∃ co, (writeM s).2 = co := ⟨_, rfl⟩
  rw [hT, hct]
  have HT := Aside0.mk (Prod.ext_iff.2 ⟨hT, hct⟩ : writeM s = (T, ct))
  clear hT hct
  by_cases k1 : co = 0
  case neg =>
    have e1 : (co != 0) = true := by rw [bne_iff_ne]; exact k1
    clear k1
    go_wp2_with fail
    go_ret
    exact ⟨rfl, HB7.out⟩
  have e1 : (co != 0) = false := by rw [k1]; rfl
  by_cases k2 : ct = 0
  case neg =>
    have e2 : (ct != 0) = true := by rw [bne_iff_ne]; exact k2
    clear k2
    go_wp2_with fail
    go_ret
    exact ⟨rfl, HB7.out⟩
  have e2 : (ct != 0) = false := by rw [k2]; rfl
  have HP := Aside0.mk (show r = s ↔ S = T from by
    have h1 := HS.out
    have h2 := HT.out
    rw [k1] at h1
    rw [k2] at h2
    refine ⟨fun h => ?_, fun h => ?_⟩
    · rw [h, h2] at h1
      exact (congrArg Prod.fst h1).symm
    · rw [← h] at h2
      exact HL.out r s S OU.out OV.out h1 h2)
  clear k1 k2
  obtain ⟨q, hq⟩ : ∃ q, (S.toList == T.toList) = q := ⟨_, rfl⟩
  have HQ := Aside0.mk (show q = true ↔ S = T from by
    rw [← hq]
    refine ⟨fun h => Classical.byContradiction fun hn => ?_, fun h => by rw [h]; exact text_eq T⟩
    rw [text_ne hn] at h
    exact absurd h (by decide))
  go_wp2_with fail
  refine (same6_calls (HU.out.below HB7.out) (HV.out.below HB7.out)).mono ?_
  rintro e w8 ⟨b, rfl, hi, hb⟩
  have HB8 := Aside0.mk (below_step HB7.out hb)
  have HE := Aside0.mk (show q = b from by
    have h := hi.trans (HP.out.trans HQ.out.symm)
    cases q <;> cases b <;> simp_all)
  clear hi hb
  go_wp2_with fail
  go_ret
  exact ⟨congrArg (fun x => Ending.returned (.bool x)) (show (q == b) = true by rw [HE.out]; simp), HB8.out⟩
/-- The same, as the row asks for it. -/
theorem one_row (H : OneLaw) (W : World) (u : Value) (r : Msg) (hu : MsgAt W u r) (iu : MsgIn r) (v : Value) (s : Msg) (hv : MsgAt W v s) (iv : MsgIn s) :
    Calls Try.prog 4 #[u, v] W fun e w' => e = .returned (.bool true) ∧ Below W.heap.size W w' := one_calls H hu hv iu iv
end Go.Proofs.Ytbbeikdbioelgaa.M
