/- Walk of nunciolaw06.ReadRight, over its plain law. -/
import Derived.Test.YtbbeikdbioelgaaMCuts
import Derived.Test.YtbbeikdbioelgaaMRef05c
import Derived.Test.YtbbeikdbioelgaaMRaw
set_option linter.unusedVariables false
set_option linter.unusedSimpArgs false
namespace Go.Proofs.Ytbbeikdbioelgaa.M
open Go.RowKit Go.Maps Go.Proofs.YtbbeikdbioelgaaW.PrintWords Go.Proofs.YtbbeikdbioelgaaW.PrintLast Go.Proofs.YtbbeikdbioelgaaW.PrintMore
attribute [local go_sem] max2_int min2_int max_two min_two max_three min_three max_four min_four
attribute [local go_sem ↓] Go.wp_at_zero Go.wp_at_succ
/-- The plain law: what a message is read of is right. -/
structure RightIs (s : ByteArray) (m : Msg) : Prop where
  count : m.qs.length + (m.ans ++ m.auth ++ m.add).length ≤ 256
  low : 12 ≤ s.size
  high : s.size ≤ 65535
  names : ∀ q, q ∈ m.qs → isName q.f0 = true ∧ q.f0.size ≤ 255
  right : ∀ r, r ∈ m.ans ++ m.auth ++ m.add → checkF r = 0 ∧ Fine r ∧ r.f0.size ≤ 255
def RightLaw : Prop := ∀ (s : ByteArray) (m : Msg), readF s = (m, 0) → s.size ≤ 70000 → RightIs s m
set_option maxHeartbeats 4000000 in
set_option maxRecDepth 100000 in
theorem right_calls (H : RightLaw) (s : ByteArray) (w : World) :
    Calls Try.prog 8 #[.string s] w fun e w' => e = .returned (.bool true) ∧ Below w.heap.size w w' := by
  have HL := Lib.hid H
  clear H
  by_cases h1 : 70000 < s.size
  · have d1 : decide ((70000 : Int) < (s.size : Int)) = true := decide_eq_true (by omega)
    have d2 : decide (70000 < s.size) = true := decide_eq_true h1
    clear h1
    go_enter Try.func8, Try.ntmps8
    go_wp2_with fail
    refine (awake6_calls _).mono ?_
    rintro e w1 ⟨rfl, hb⟩
    have HB := Aside0.mk hb
    clear hb
    go_wp2_with fail
    go_ret
    exact ⟨rfl, HB.out⟩
  have d1 : decide ((70000 : Int) < (s.size : Int)) = false := decide_eq_false (by omega)
  have d2 : decide (70000 < s.size) = false := decide_eq_false h1
  have HS := Lib.hid (show s.size ≤ 70000 by omega)
  clear h1
  go_enter Try.func8, Try.ntmps8
  go_wp2_with fail
  refine (awake6_calls _).mono ?_
  rintro e w1 ⟨rfl, hb⟩
  have HB := Aside0.mk hb
  clear hb
  go_wp2_with fail
  refine (Read_calls s _ (by have := HS.out; omega)).mono ?_
  obtain ⟨⟨m, co⟩, hr⟩ : ∃ x, readF s = x := ⟨_, rfl⟩
  have HR := Lib.hid hr
  rw [hr]
  clear hr
  rintro e w' ⟨⟨v, rfl, hm⟩, hb⟩
  have HB' := below_step HB.out hb
  obtain ⟨w2, hw1⟩ : ∃ x, x = w' := ⟨_, rfl⟩
  subst hw1
  clear hb
  by_cases k1 : co = 0
  case neg =>
    have e1 : (co != 0) = true := by rw [bne_iff_ne]; exact k1
    have hz : m = zM := readF_bad HR.out k1
    clear k1
    subst hz
    have HM3 := Aside0.mk hm
    have HB2 := Aside0.mk HB'
    obtain ⟨A2, c2, A3, c3, A4, c4, A5, c5, rfl, -⟩ := hm
    clear HB' HB
    go_wp2_with fail
    refine (same6_calls (r := zM) (s := zM) (HM3.out.below (below_alloc (Below.refl _ _) _)) (zM_at _)).mono ?_
    rintro e w4 ⟨b, rfl, hb, hbb⟩
    obtain rfl : b = true := hb.2 rfl
    have HB := Aside0.mk (below_step (below_alloc HB2.out _) hbb)
    clear hb hbb HB2
    go_wp2_with fail
    go_ret
    exact ⟨rfl, HB.out⟩
  have e1 : (co != 0) = false := by rw [k1]; rfl
  subst k1
  have HI := Aside0.mk (HL.out s m HR.out HS.out)
  obtain ⟨l, hl⟩ : ∃ l, m.ans ++ m.auth ++ m.add = l := ⟨_, rfl⟩
  have hcnt := HI.out.count
  rw [hl] at hcnt
  have hR := HI.out.right
  rw [hl] at hR
  have HRt := Aside0.mk hR
  have HNs := Aside0.mk HI.out.names
  obtain ⟨A2, c2, A3, c3, A4, c4, A5, c5, rfl, l2, g2, l3, g3, l4, g4, l5, g5⟩ := hm
  obtain ⟨z3s, r3, e3⟩ := raw_of g3
  obtain ⟨z4s, r4, e4⟩ := raw_of g4
  obtain ⟨z5s, r5, e5⟩ := raw_of g5
  have G2 := Aside0.mk g2
  have R3 := Aside0.mk r3
  have R4 := Aside0.mk r4
  have R5 := Aside0.mk r5
  have E := Aside0.mk ((e3.append e4).append e5)
  have L3 := Aside0.mk e3.1
  have L4 := Aside0.mk e4.1
  have L5 := Aside0.mk e5.1
  have hsum : m.ans.length + m.auth.length + m.add.length = l.length := by rw [← hl, List.length_append, List.length_append]
  have N1 := Aside0.mk (show m.ans.length ≤ 100000 by omega)
  have N2 := Aside0.mk (show m.auth.length ≤ 100000 by omega)
  have N3 := Aside0.mk (show m.add.length ≤ 100000 by omega)
  have f1 : decide ((256 : Int) < (m.qs.length : Int) + (l.length : Int)) = false := decide_eq_false (by omega)
  have f2 : decide (256 < m.qs.length + l.length) = false := decide_eq_false (by omega)
  have f3 : decide ((65535 : Int) < (s.size : Int)) = false := decide_eq_false (by have := HI.out.high; omega)
  have f4 : decide (65535 < s.size) = false := decide_eq_false (by have := HI.out.high; omega)
  have f5 : decide ((s.size : Int) < 12) = false := decide_eq_false (by have := HI.out.low; omega)
  have f6 : decide (s.size < 12) = false := decide_eq_false (by have := HI.out.low; omega)
  have q1 : (m.qs.length : Int) ≤ 256 := by omega
  have q2 : (l.length : Int) ≤ 256 := by omega
  have HL0 := Lib.hid hl
  have HB2 := Aside0.mk HB'
  clear g2 g3 g4 g5 r3 r4 r5 e3 e4 e5 HB' HB hcnt hR hsum hl l2 l3 l4 l5
  go_wp2_with fail
  have hx := SAt.new w2 #[.int .u16 m.id, .int .u16 m.flags, .slice A2 m.qs.length c2, .slice A3 m.ans.length c3, .slice A4 m.auth.length c4, .slice A5 m.add.length c5] 26
  have hbw : Below w2.heap.size w2 (w2.alloc (.cells #[.int .u16 m.id, .int .u16 m.flags, .slice A2 m.qs.length c2, .slice A3 m.ans.length c3, .slice A4 m.auth.length c4, .slice A5 m.add.length c5] 26 (0, 0))) := below_alloc (Below.refl _ _) _
  generalize w2.alloc (.cells #[.int .u16 m.id, .int .u16 m.flags, .slice A2 m.qs.length c2, .slice A3 m.ans.length c3, .slice A4 m.auth.length c4, .slice A5 m.add.length c5] 26 (0, 0)) = w1 at *
  have HB := Aside0.mk hbw
  obtain ⟨g, hg⟩ : ∃ g, w2.heap.size = g := ⟨_, rfl⟩
  rw [hg] at hx ⊢
  have HX := Aside0.mk (show w1.heap[g]? = some (.cells #[.int .u16 m.id, .int .u16 m.flags, .slice A2 m.qs.length c2, .slice A3 m.ans.length c3, .slice A4 m.auth.length c4, .slice A5 m.add.length c5] 26 (0, 0)) from hx)
  clear hx hbw hg
  have z3 : w1.cell? ⟨g, 3, none⟩ = some (.slice A3 m.ans.length c3) := (blk_cell HX.out 3).trans rfl
  have z4 : w1.cell? ⟨g, 4, none⟩ = some (.slice A4 m.auth.length c4) := (blk_cell HX.out 4).trans rfl
  have z5 : w1.cell? ⟨g, 5, none⟩ = some (.slice A5 m.add.length c5) := (blk_cell HX.out 5).trans rfl
  refine start_ (n := 11) (S := fun w' => w'.cell? ⟨g, 3, none⟩ = some (.slice A3 m.ans.length c3) ∧ w'.cell? ⟨g, 4, none⟩ = some (.slice A4 m.auth.length c4) ∧ w'.cell? ⟨g, 5, none⟩ = some (.slice A5 m.add.length c5)) (ds := []) (Array.replicate 11 false) (by kernel_rfl) (by kernel_rfl) rfl ⟨z3, z4, z5⟩ (fun hS => ?_)
  refine dpure 1 (some 24) rfl rfl (by kernel_rfl) (fun _ _ _ h => h) (by rfl) (v := ?_) (a' := ?_) ?_ ?_ ?_
  rotate_left 2
  · intro w'; go_simp; with_reducible rfl
  · simp only [Act.put, List.setIfInBounds_toArray, List.set_cons_zero, List.set_cons_succ]; rfl
  refine dtake 2 (some 25) rfl rfl (by kernel_rfl) (fun _ _ _ h => h) (by rfl) hS (v := ?_) (a' := ?_) ?_ ?_ ?_
  rotate_left 2
  · rintro w' ⟨s0,s1,s2⟩; go_simp; with_reducible rfl
  · simp only [Act.put, List.setIfInBounds_toArray, List.set_cons_zero, List.set_cons_succ]; rfl
  refine dpure 4 (some 27) rfl rfl (by kernel_rfl) (fun _ _ _ h => h) (by rfl) (v := ?_) (a' := ?_) ?_ ?_ ?_
  rotate_left 2
  · intro w'; go_simp; with_reducible rfl
  · simp only [Act.put, List.setIfInBounds_toArray, List.set_cons_zero, List.set_cons_succ]; rfl
  refine dtake 5 (some 28) rfl rfl (by kernel_rfl) (fun _ _ _ h => h) (by rfl) hS (v := ?_) (a' := ?_) ?_ ?_ ?_
  rotate_left 2
  · rintro w' ⟨s0,s1,s2⟩; go_simp; with_reducible rfl
  · simp only [Act.put, List.setIfInBounds_toArray, List.set_cons_zero, List.set_cons_succ]; rfl
  refine dpure 7 (some 30) rfl rfl (by kernel_rfl) (fun _ _ _ h => h) (by rfl) (v := ?_) (a' := ?_) ?_ ?_ ?_
  rotate_left 2
  · intro w'; go_simp; with_reducible rfl
  · simp only [Act.put, List.setIfInBounds_toArray, List.set_cons_zero, List.set_cons_succ]; rfl
  refine dtake 8 (some 31) rfl rfl (by kernel_rfl) (fun _ _ _ h => h) (by rfl) hS (v := ?_) (a' := ?_) ?_ ?_ ?_
  rotate_left 2
  · rintro w' ⟨s0,s1,s2⟩; go_simp; with_reducible rfl
  · simp only [Act.put, List.setIfInBounds_toArray, List.set_cons_zero, List.set_cons_succ]; rfl
  refine done1 0 (some 23) rfl rfl (by kernel_rfl) (by decide) (fun K hK => ?_)
  refine value_ (v := .slice (some ⟨w1.drew.heap.size, 0, none⟩) 0 0) (w1 := w1.drew.alloc (.cells #[] 44)) (by rfl) rfl (by go_simp) ?_
  have hb1 := HB.out
  have ho1 := BR_empty (w0 := w2) (w := w1.drew) hb1.size
  have hb2 : Below w2.heap.size w2 (w1.drew.alloc (.cells #[] 44)) := hb1.drew.alloc hb1.size _
  have hx1 := blk_alloc (blk_drew HX.out) (.cells #[] 44)
  generalize w1.drew.alloc (.cells #[] 44) = wa at *
  generalize hv0 : Value.slice (some ⟨w1.drew.heap.size, 0, none⟩) 0 0 = va at *
  clear hv0
  refine hK.out _ _ ⟨(blk_cell hx1 3).trans rfl, (blk_cell hx1 4).trans rfl, (blk_cell hx1 5).trans rfl⟩ (fun hS => ?_)
  clear hK K
  refine norm_ (a' := ?_) ?_ ?_
  rotate_left
  · simp only [Act.put, List.setIfInBounds_toArray, List.set_cons_zero, List.set_cons_succ]; rfl
  refine done1 3 (some 26) rfl rfl (by kernel_rfl) (by decide) (fun K hK => ?_)
  refine appR_step (w0 := w2) (base := w2.heap.size) (c := c3) (some 26) rfl (by rfl) (.tmp 23) (.tmp 25) (by kernel_rfl) (by kernel_rfl) (by kernel_rfl) ho1 (Kd.C_below R3.out hb2) hb2 hb2.size (by have := N1.out; simp; omega) ?_
  intro v3 w3 ho3 hb3 hg3
  have hx3 := blk_grown hx1 hg3 (Kd.R_ne ho1 hx1 (by decide))
  refine hK.out _ _ ⟨(blk_cell hx3 3).trans rfl, (blk_cell hx3 4).trans rfl, (blk_cell hx3 5).trans rfl⟩ (fun hS => ?_)
  clear hK K
  refine norm_ (a' := ?_) ?_ ?_
  rotate_left
  · simp only [Act.put, List.setIfInBounds_toArray, List.set_cons_zero, List.set_cons_succ]; rfl
  refine done1 6 (some 29) rfl rfl (by kernel_rfl) (by decide) (fun K hK => ?_)
  refine appR_step (w0 := w2) (base := w2.heap.size) (c := c4) (some 29) rfl (by rfl) (.tmp 26) (.tmp 28) (by kernel_rfl) (by kernel_rfl) (by kernel_rfl) ho3 (Kd.C_below R4.out hb3) hb3 hb3.size (by have := N1.out; have := N2.out; have := L3.out; simp; omega) ?_
  intro v4 w4 ho4 hb4 hg4
  have hx4 := blk_grown hx3 hg4 (Kd.R_ne ho3 hx3 (by decide))
  refine hK.out _ _ ⟨(blk_cell hx4 3).trans rfl, (blk_cell hx4 4).trans rfl, (blk_cell hx4 5).trans rfl⟩ (fun hS => ?_)
  clear hK K
  refine norm_ (a' := ?_) ?_ ?_
  rotate_left
  · simp only [Act.put, List.setIfInBounds_toArray, List.set_cons_zero, List.set_cons_succ]; rfl
  refine done1 9 (some 32) rfl rfl (by kernel_rfl) (by decide) (fun K hK => ?_)
  refine appR_step (w0 := w2) (base := w2.heap.size) (c := c5) (some 32) rfl (by rfl) (.tmp 29) (.tmp 31) (by kernel_rfl) (by kernel_rfl) (by kernel_rfl) ho4 (Kd.C_below R5.out hb4) hb4 hb4.size (by have := N1.out; have := N2.out; have := N3.out; have := L3.out; have := L4.out; simp; omega) ?_
  intro v5 w5 ho5 hb5 hg5
  have hx5 := blk_grown hx4 hg5 (Kd.R_ne ho4 hx4 (by decide))
  obtain ⟨A, c, hv5, hlc, hrc⟩ := Kd.R_reads ho5
  have hE := E.out.below hb5
  have hC := of_raw (ys := m.ans ++ m.auth ++ m.add) hrc (by simpa using hE)
  have hln : ([] ++ z3s ++ z4s ++ z5s).length = (m.ans ++ m.auth ++ m.add).length := by simpa using E.out.1
  rw [HL0.out] at hC hln
  rw [hln] at hC hv5
  subst hv5
  refine hK.out _ _ ⟨(blk_cell hx5 3).trans rfl, (blk_cell hx5 4).trans rfl, (blk_cell hx5 5).trans rfl⟩ (fun hS => ?_)
  clear hK K
  refine norm_ (a' := ?_) ?_ ?_
  rotate_left
  · simp only [Act.put, List.setIfInBounds_toArray, List.set_cons_zero, List.set_cons_succ]; rfl
  refine dpure 10 (some 5) rfl rfl (by kernel_rfl) (fun _ _ _ h => h) (by rfl) (v := ?_) (a' := ?_) ?_ ?_ ?_
  rotate_left 2
  · intro w'; go_simp; with_reducible rfl
  · simp only [Act.put, List.setIfInBounds_toArray, List.set_cons_zero, List.set_cons_succ]; rfl
  refine done_ (by kernel_rfl) ?_
  have HC := Aside0.mk hC
  have HX5 := Aside0.mk hx5
  have HB5 := Aside0.mk (HB2.out.trans (hb5.mono (below_size HB2.out)))
  have G5 := Aside0.mk (Kd.C_below G2.out hb5)
  clear hC hln hb5 ho5 hrc hE hx5 ho4 hb4 hx4 ho3 hb3 hx3 ho1 hb2 hx1 hb1 hS z3 z4 z5 hg3 hg4 hg5 hlc
  clear HX HB HB2 R3 R4 R5 E L3 L4 L5 N1 N2 N3 HI
  have z0 : w5.cell? ⟨g, 0, none⟩ = some (.int .u16 m.id) := (blk_cell HX5.out 0).trans rfl
  have z1 : w5.cell? ⟨g, 1, none⟩ = some (.int .u16 m.flags) := (blk_cell HX5.out 1).trans rfl
  have z2 : w5.cell? ⟨g, 2, none⟩ = some (.slice A2 m.qs.length c2) := (blk_cell HX5.out 2).trans rfl
  have z3 : w5.cell? ⟨g, 3, none⟩ = some (.slice A3 m.ans.length c3) := (blk_cell HX5.out 3).trans rfl
  have z4 : w5.cell? ⟨g, 4, none⟩ = some (.slice A4 m.auth.length c4) := (blk_cell HX5.out 4).trans rfl
  have z5 : w5.cell? ⟨g, 5, none⟩ = some (.slice A5 m.add.length c5) := (blk_cell HX5.out 5).trans rfl
  have HBr := Aside0.mk (Below.refl w5.heap.size w5)
  go_wp2_with fail
  go_loopg [6] m.qs.length (fun kq v3 w' => ∃ k : Nat, v3 = .int .i64 k ∧ Aside0 (kq + k = m.qs.length) ∧ Aside0 (Below w5.heap.size w5 w'))
  case atStart => exact ⟨0, rfl, ⟨rfl⟩, HBr⟩
  case round =>
    clear HBr z0 z1 z2 z3 z4 z5
    obtain ⟨k, rfl, HK, HBr⟩ := hrel
    have HXr := Aside0.mk (blk_below HX5.out HBr.out)
    have HBt := Aside0.mk (HB5.out.trans (HBr.out.mono (below_size HB5.out)))
    have z0 : wr.cell? ⟨g, 0, none⟩ = some (.int .u16 m.id) := (blk_cell HXr.out 0).trans rfl
    have z1 : wr.cell? ⟨g, 1, none⟩ = some (.int .u16 m.flags) := (blk_cell HXr.out 1).trans rfl
    have z2 : wr.cell? ⟨g, 2, none⟩ = some (.slice A2 m.qs.length c2) := (blk_cell HXr.out 2).trans rfl
    have z3 : wr.cell? ⟨g, 3, none⟩ = some (.slice A3 m.ans.length c3) := (blk_cell HXr.out 3).trans rfl
    have z4 : wr.cell? ⟨g, 4, none⟩ = some (.slice A4 m.auth.length c4) := (blk_cell HXr.out 4).trans rfl
    have z5 : wr.cell? ⟨g, 5, none⟩ = some (.slice A5 m.add.length c5) := (blk_cell HXr.out 5).trans rfl
    cases gk with
    | succ j =>
      have hk : k < m.qs.length := by have := HK.out; omega
      obtain ⟨ad, qq, h2, hq, y0, y1, y2⟩ := at_ques (Kd.C_below G5.out HBr.out) k hk
      subst h2
      have p1 : (0 : Int) ≤ (k : Int) := by omega
      have p2 : (k : Int) < (m.qs.length : Int) := by omega
      have hn := HNs.out qq (by rw [← hq]; exact getD_mem _ hk)
      have HQ := Lib.hid hn
      clear hq hn
      go_wp2_with fail
      refine (refIs_calls qq.f0 _ (by have := HQ.out.2; omega)).mono ?_
      rw [HQ.out.1]
      rintro e w' ⟨rfl, hb⟩
      have HBn := Aside0.mk (HBr.out.trans (hb.mono HBr.out.size))
      clear hb
      go_wp2_with fail
      go_roundg j
      case measure => omega
      case rel => exact ⟨k + 1, by go_num, ⟨by have := HK.out; omega⟩, HBn⟩
    | zero =>
      obtain rfl : k = m.qs.length := by have := HK.out; omega
      obtain ⟨wp, hwp⟩ : ∃ wp : World, wp = wr := ⟨_, rfl⟩
      subst hwp
      have HB6 := HBr
      clear HBr HK
      have HBr := Aside0.mk (Below.refl wp.heap.size wp)
      have HC6 := Aside0.mk (Kd.C_below HC.out HB6.out)
      clear HC HXr
      go_wp2_with fail
      clear z0 z1 z2 z3 z4 z5
      go_loopg [7] l.length (fun kq v3 w' => ∃ k : Nat, v3 = .int .i64 k ∧ Aside0 (kq + k = l.length) ∧ Aside0 (Below wp.heap.size wp w'))
      case atStart => exact ⟨0, rfl, ⟨by omega⟩, HBr⟩
      case round =>
        clear HBr
        obtain ⟨k, rfl, HK, HBr⟩ := hrel
        have HBu := Aside0.mk (HBt.out.trans (HBr.out.mono (below_size HBt.out)))
        cases gk with
        | succ j =>
          have hk : k < l.length := by have := HK.out; omega
          obtain ⟨ad, B4, b4, B5, b5, B6, b6, r, h2, hq, y0, y1, y2, y3, y4, y5, y6, hrr⟩ := at_rec (Kd.C_below HC6.out HBr.out) k hk
          subst h2
          have p1 : (0 : Int) ≤ (k : Int) := by omega
          have p2 : (k : Int) < (l.length : Int) := by omega
          have HQ := Aside0.mk (HRt.out r (by rw [← hq]; exact getD_mem _ hk))
          have HRr := Aside0.mk hrr
          clear hq hrr
          go_wp2_with fail
          refine (check5_calls r _ _ HRr.out HQ.out.2.1 (by have := HQ.out.2.2; omega)).mono ?_
          rw [HQ.out.1]
          rintro e w' ⟨rfl, hb⟩
          have HBn := Aside0.mk (HBr.out.trans (hb.mono HBr.out.size))
          clear hb
          go_wp2_with fail
          go_roundg j
          case measure => omega
          case rel => exact ⟨k + 1, by go_num, ⟨by have := HK.out; omega⟩, HBn⟩
        | zero =>
          obtain rfl : k = l.length := by have := HK.out; omega
          go_wp2_with fail
          go_ret
          exact ⟨rfl, HBu.out⟩
/-- The same, as the row asks for it. -/
theorem right_row (H : RightLaw) (W : World) (s : ByteArray) (hs : s.size ≤ 140737488351232) :
    Calls Try.prog 8 #[.string s] W fun e w' => e = .returned (.bool true) ∧ Below W.heap.size W w' := right_calls H s W
end Go.Proofs.Ytbbeikdbioelgaa.M
