/- The law RouteBoth, whole. -/
import Derived.Test.YtfoflodgegehfaaMRoutePure
import Derived.Test.YtfoflodgegehfaaMSame
set_option linter.unusedVariables false
set_option linter.unusedSimpArgs false
namespace Go.Proofs.Ytfoflodgegehfaa.M
open Go.RowKit Go.Maps Go.Proofs.YtfoflodgegehfaaW.PrintWords Go.Proofs.YtfoflodgegehfaaW.PrintLast Go.Proofs.YtfoflodgegehfaaW.PrintMore
attribute [local go_sem] max2_int min2_int max_two min_two max_three min_three max_four min_four
attribute [local go_sem ↓] Go.wp_at_zero Go.wp_at_succ
theorem routeS_cases (s : ByteArray) (h : s.size ≤ 65535) : routeS s = (zM, zKey, 400) ∨ ∃ m k, readF s = (m, 0) ∧ askF m = some k ∧ routeS s = (m, k, 200) := by
  unfold routeS
  rw [if_neg (by rw [readF_three]; omega)]
  by_cases c : (readF s).2 ≠ 0
  · rw [if_pos c]; exact .inl rfl
  · rw [if_neg c]
    have c := Decidable.not_not.mp c
    generalize readF s = x at *
    obtain ⟨m, e⟩ := x
    simp only [] at c
    subst c
    cases ha : askF m with
    | none => exact .inl rfl
    | some k => exact .inr ⟨m, k, rfl, ha, rfl⟩
theorem postR_eq (body : ByteArray) (n : Int) : routeF ⟨postT, epT, ⟨#[]⟩, mediaT, false, n⟩ body = routeS body :=
  route_post (r := ⟨postT, epT, ⟨#[]⟩, mediaT, false, n⟩) (by show cutA epT 63 = epT; decide) rfl rfl
theorem same6_yes {m : Msg} {u v : Value} {w : World} (hu : MsgAt w u m) (hv : MsgAt w v m) :
    Calls Try.prog 17 #[u, v] w fun e w' => e = .returned (.bool true) ∧ Below w.heap.size w w' := by
  refine (same6_calls hu hv).mono ?_
  rintro e w' ⟨b, rfl, hb, hbel⟩
  obtain rfl : b = true := hb.2 rfl
  exact ⟨rfl, hbel⟩
theorem msgAt_new {w w' : World} {m : Msg} {A2 A3 A4 A5 : Option Addr} {c2 c3 c4 c5 : Nat} (h : MsgAt w (.agg #[.int .u16 m.id, .int .u16 m.flags, .slice A2 m.qs.length c2, .slice A3 m.ans.length c3, .slice A4 m.auth.length c4, .slice A5 m.add.length c5]) m) (hb : Below w.heap.size w w') : MsgAt w' (.agg #[.int .u16 m.id, .int .u16 m.flags, .slice A2 m.qs.length c2, .slice A3 m.ans.length c3, .slice A4 m.auth.length c4, .slice A5 m.add.length c5]) m := h.below hb
set_option maxHeartbeats 8000000 in
set_option maxRecDepth 100000 in
theorem both_all (W : World) (body : ByteArray) (h1 : body.size ≤ 140737488351232) :
    Calls Try.prog 5 #[.string body] W fun e w' => e = .returned (.bool true) ∧ Below W.heap.size W w' := by
  have HB := Aside0.mk (Below.refl W.heap.size W)
  by_cases c1 : 5000 < body.size
  · have d1 : decide (5000 < body.size) = true := decide_eq_true c1
    have d1' : decide ((5000 : Int) < (body.size : Int)) = true := decide_eq_true (by omega)
    clear c1 h1
    go_enter Try.func5, Try.ntmps5
    go_wp2_with fail
    refine (awake21_calls _).mono ?_
    rintro e w1 ⟨rfl, hb⟩
    have HB1 := Aside0.mk (HB.out.trans (hb.mono HB.out.size))
    clear hb HB
    go_wp2_with fail
    go_ret
    exact ⟨rfl, HB1.out⟩
  have d1 : decide (5000 < body.size) = false := decide_eq_false c1
  have d1' : decide ((5000 : Int) < (body.size : Int)) = false := decide_eq_false (by omega)
  have hz := encB_size body
  have ht : (targetF body).size ≤ 100000 := by
    unfold targetF
    rw [ByteArray.size_append]
    have : headT.size = 15 := by decide
    omega
  have r1 := fun w => target_calls body w (by omega)
  have r2 := fun w => route_calls (getR (targetF body)) ⟨#[111, 116, 104, 101, 114]⟩ w ht (by decide)
  have r3 := fun w => route_calls ⟨postT, epT, ⟨#[]⟩, mediaT, false, 9⟩ body w (by decide) (by omega)
  rw [route_target (m := body) (r := []) (.inl rfl) (by rw [List.append_nil])] at r2
  rw [postR_eq] at r3
  have r4 := fun w => Read_calls body w (by omega)
  have hcs := routeS_cases body (by omega)
  have hsm := readF_sm body
  generalize targetF body = t at *
  generalize routeS body = x at *
  generalize readF body = rd at *
  obtain ⟨m, k, st⟩ := x
  have R1 := Aside0.mk r1
  have R2 := Aside0.mk r2
  have R3 := Aside0.mk r3
  have R4 := Aside0.mk r4
  have HC := Aside0.mk hcs
  have HSM := Aside0.mk hsm
  clear r1 r2 r3 r4 hcs hsm c1 h1 hz ht
  go_enter Try.func5, Try.ntmps5
  go_wp2_with fail
  refine (awake21_calls _).mono ?_
  rintro e w1 ⟨rfl, hb⟩
  have HB1 := Aside0.mk (HB.out.trans (hb.mono HB.out.size))
  clear hb HB
  go_wp2_with fail
  refine (R1.out _).mono ?_
  rintro e w2 ⟨rfl, hb⟩
  have HB2 := Aside0.mk (HB1.out.trans (hb.mono HB1.out.size))
  clear hb HB1
  go_wp2_with fail
  refine (R2.out _).mono ?_
  rintro e w3 ⟨⟨v, rfl, hm⟩, hb⟩
  have HB3 := Aside0.mk (below_step HB2.out hb)
  have HM := hm
  obtain ⟨A2, c2, A3, c3, A4, c4, A5, c5, rfl, h2, g2, h3, g3, h4, g4, h5, g5⟩ := hm
  clear hb HB2 h2 g2 h3 g3 h4 g4 h5 g5
  unfold Key.v
  simp only []
  go_upto_region 6 with fail
  obtain ⟨HX, HK, hb⟩ := two_at w3 #[.int .u16 m.id, .int .u16 m.flags, .slice A2 m.qs.length c2, .slice A3 m.ans.length c3, .slice A4 m.auth.length c4, .slice A5 m.add.length c5] #[.string k.name, .int .u16 k.ty, .int .u16 k.cl, .bool k.dO] 35 37
  have HM4 := Aside0.mk (HM.below hb)
  have HX4 := Aside0.mk HX
  have HK4 := Aside0.mk HK
  have HB4 := Aside0.mk (below_step HB3.out hb)
  clear HX HK hb HB3 HM
  generalize (w3.alloc (.cells #[.int .u16 m.id, .int .u16 m.flags, .slice A2 m.qs.length c2, .slice A3 m.ans.length c3, .slice A4 m.auth.length c4, .slice A5 m.add.length c5] 35 (0, 0))).alloc (.cells #[.string k.name, .int .u16 k.ty, .int .u16 k.cl, .bool k.dO] 37 (0, 0)) = w4 at *
  generalize w3.heap.size + 1 = b1 at *
  generalize w3.heap.size = a1 at *
  go_wp2_with fail
  refine (R3.out _).mono ?_
  rintro e w5 ⟨⟨v, rfl, hm⟩, hb⟩
  have HB5 := Aside0.mk (below_step HB4.out hb)
  have HM5 := Aside0.mk (HM4.out.below hb)
  have HX5 := Aside0.mk (HX4.out.below hb)
  have HK5 := Aside0.mk (HK4.out.below hb)
  have HN := hm
  obtain ⟨B2, d2, B3, d3, B4, d4, B5, d5, rfl, h2, g2, h3, g3, h4, g4, h5, g5⟩ := hm
  clear hb h2 g2 h3 g3 h4 g4 h5 g5 HB4 HM4 HX4 HK4
  unfold Key.v
  simp only []
  go_upto_region 7 with fail
  obtain ⟨HX, HK, hb⟩ := two_at w5 #[.int .u16 m.id, .int .u16 m.flags, .slice B2 m.qs.length d2, .slice B3 m.ans.length d3, .slice B4 m.auth.length d4, .slice B5 m.add.length d5] #[.string k.name, .int .u16 k.ty, .int .u16 k.cl, .bool k.dO] 35 37
  have HN6 := Aside0.mk (HN.below hb)
  have HY6 := Aside0.mk HX
  have HJ6 := Aside0.mk HK
  have HM6 := Aside0.mk (HM5.out.below hb)
  have HX6 := Aside0.mk (HX5.out.below hb)
  have HK6 := Aside0.mk (HK5.out.below hb)
  have HB6 := Aside0.mk (below_step HB5.out hb)
  clear HX HK hb HB5 HN HM5 HX5 HK5
  generalize (w5.alloc (.cells #[.int .u16 m.id, .int .u16 m.flags, .slice B2 m.qs.length d2, .slice B3 m.ans.length d3, .slice B4 m.auth.length d4, .slice B5 m.add.length d5] 35 (0, 0))).alloc (.cells #[.string k.name, .int .u16 k.ty, .int .u16 k.cl, .bool k.dO] 37 (0, 0)) = w6 at *
  generalize w5.heap.size + 1 = b2 at *
  generalize w5.heap.size = a2 at *
  have x0 := HX6.out.is 0 rfl
  have x1 := HX6.out.is 1 rfl
  have x2 := HX6.out.is 2 rfl
  have x3 := HX6.out.is 3 rfl
  have x4 := HX6.out.is 4 rfl
  have x5 := HX6.out.is 5 rfl
  have y0 := HY6.out.is 0 rfl
  have y1 := HY6.out.is 1 rfl
  have y2 := HY6.out.is 2 rfl
  have y3 := HY6.out.is 3 rfl
  have y4 := HY6.out.is 4 rfl
  have y5 := HY6.out.is 5 rfl
  have k0 : World.cell? _ ⟨_, 0, none⟩ = some (.string k.name) := HK6.out.is 0 rfl
  have k1 : World.cell? _ ⟨_, 1, none⟩ = some (.int .u16 k.ty) := HK6.out.is 1 rfl
  have k2 : World.cell? _ ⟨_, 2, none⟩ = some (.int .u16 k.cl) := HK6.out.is 2 rfl
  have k3 : World.cell? _ ⟨_, 3, none⟩ = some (.bool k.dO) := HK6.out.is 3 rfl
  have j0 : World.cell? _ ⟨_, 0, none⟩ = some (.string k.name) := HJ6.out.is 0 rfl
  have j1 : World.cell? _ ⟨_, 1, none⟩ = some (.int .u16 k.ty) := HJ6.out.is 1 rfl
  have j2 : World.cell? _ ⟨_, 2, none⟩ = some (.int .u16 k.cl) := HJ6.out.is 2 rfl
  have j3 : World.cell? _ ⟨_, 3, none⟩ = some (.bool k.dO) := HJ6.out.is 3 rfl
  have e1 := text_eq k.name
  rcases HC.out with hc | ⟨m', k', hr, ha, hc⟩
  · injection hc with q1 q2
    injection q2 with q2 q3
    subst q3
    have Q1 := Lib.hid q1
    have Q2 := Lib.hid q2
    clear q1 q2 HC
    go_wp2_with fail
    refine (same6_yes HM6.out HN6.out).mono ?_
    rintro e w7 ⟨rfl, hb⟩
    have HX7 := HX6.out.below hb
    have HK7 := HK6.out.below hb
    have HB7 := Aside0.mk (below_step HB6.out hb)
    have n1 : m.qs.length = 0 := by rw [Q1.out]; rfl
    have n2 : k.name = ⟨#[]⟩ := by rw [Q2.out]; rfl
    clear x0 x1 x2 x3 x4 x5 y0 y1 y2 y3 y4 y5 k0 k1 k2 k3 j0 j1 j2 j3 hb
    have x2 : World.cell? _ ⟨_, 2, none⟩ = some (.slice A2 m.qs.length c2) := HX7.is 2 rfl
    have k0 : World.cell? _ ⟨_, 0, none⟩ = some (.string k.name) := HK7.is 0 rfl
    rw [n1] at x2
    rw [n2] at k0
    clear HX7 HK7 n1 n2
    go_wp2_with fail
    go_ret
    exact ⟨rfl, HB7.out⟩
  · injection hc with q1 q2
    injection q2 with q2 q3
    subst q1 q2 q3
    subst hr
    have HA := Lib.hid ha
    clear ha HC
    go_wp2_with fail
    refine (same6_yes HM6.out HN6.out).mono ?_
    rintro e w7 ⟨rfl, hb⟩
    have HM7 := Aside0.mk (HM6.out.below hb)
    have HX7 := Aside0.mk (HX6.out.below hb)
    have HK7 := Aside0.mk (HK6.out.below hb)
    have HB7 := Aside0.mk (below_step HB6.out hb)
    clear x0 x1 x2 x3 x4 x5 y0 y1 y2 y3 y4 y5 k0 k1 k2 k3 j0 j1 j2 j3 hb HM6 HN6 HX6 HY6 HK6 HJ6 HB6
    go_wp2_with fail
    refine (R4.out _).mono ?_
    rintro e w8 ⟨⟨v, rfl, hm⟩, hb⟩
    have HM8 := Aside0.mk (HM7.out.below hb)
    have HX8 := Aside0.mk (HX7.out.below hb)
    have HK8 := Aside0.mk (HK7.out.below hb)
    have HB8 := Aside0.mk (below_step HB7.out hb)
    have HN := hm
    obtain ⟨D2, l2, D3, l3, D4, l4, D5, l5, rfl, h2, g2, h3, g3, h4, g4, h5, g5⟩ := hm
    clear hb h2 g2 h3 g3 h4 g4 h5 g5 HM7 HX7 HK7 HB7
    go_upto_region 12 with fail
    have hb := below_alloc (Below.refl w8.heap.size w8) (.cells #[.int .u16 m.id, .int .u16 m.flags, .slice D2 m.qs.length l2, .slice D3 m.ans.length l3, .slice D4 m.auth.length l4, .slice D5 m.add.length l5] 35 (0, 0))
    have HY9 := Aside0.mk (SAt.new w8 #[.int .u16 m.id, .int .u16 m.flags, .slice D2 m.qs.length l2, .slice D3 m.ans.length l3, .slice D4 m.auth.length l4, .slice D5 m.add.length l5] 35)
    have HN9 := Aside0.mk (HN.below hb)
    have HM9 := Aside0.mk (HM8.out.below hb)
    have HX9 := Aside0.mk (HX8.out.below hb)
    have HK9 := Aside0.mk (HK8.out.below hb)
    have HB9 := Aside0.mk (below_step HB8.out hb)
    clear hb HN HM8 HX8 HK8 HB8
    generalize w8.alloc (.cells #[.int .u16 m.id, .int .u16 m.flags, .slice D2 m.qs.length l2, .slice D3 m.ans.length l3, .slice D4 m.auth.length l4, .slice D5 m.add.length l5] 35 (0, 0)) = w9 at *
    generalize w8.heap.size = a3 at *
    have y0 := HY9.out.is 0 rfl
    have y1 := HY9.out.is 1 rfl
    have y2 := HY9.out.is 2 rfl
    have y3 := HY9.out.is 3 rfl
    have y4 := HY9.out.is 4 rfl
    have y5 := HY9.out.is 5 rfl
    go_wp2_with fail
    refine (ask_calls m _ _ HN9.out HSM.out).mono ?_
    rw [HA.out]
    rintro e w10 ⟨rfl, hb⟩
    unfold askE Key.v
    simp only []
    have HY10 := Aside0.mk (HY9.out.below hb)
    have HN10 := Aside0.mk (HN9.out.below hb)
    have HM10 := Aside0.mk (HM9.out.below hb)
    have HX10 := Aside0.mk (HX9.out.below hb)
    have HK10 := Aside0.mk (HK9.out.below hb)
    have HB10 := Aside0.mk (below_step HB9.out hb)
    clear hb y0 y1 y2 y3 y4 y5 HY9 HN9 HM9 HX9 HK9 HB9
    go_upto_region 13 with fail
    have hb := below_alloc (Below.refl w10.heap.size w10) (.cells #[.string k.name, .int .u16 k.ty, .int .u16 k.cl, .bool k.dO] 37 (0, 0))
    have HJ11 := SAt.new w10 #[.string k.name, .int .u16 k.ty, .int .u16 k.cl, .bool k.dO] 37
    have HY11 := HY10.out.below hb
    have HN11 := Aside0.mk (HN10.out.below hb)
    have HM11 := Aside0.mk (HM10.out.below hb)
    have HX11 := HX10.out.below hb
    have HK11 := HK10.out.below hb
    have HB11 := Aside0.mk (below_step HB10.out hb)
    clear hb HY10 HN10 HM10 HX10 HK10 HB10
    generalize w10.alloc (.cells #[.string k.name, .int .u16 k.ty, .int .u16 k.cl, .bool k.dO] 37 (0, 0)) = w11 at *
    generalize w10.heap.size = b3 at *
    have x0 := HX11.is 0 rfl
    have x1 := HX11.is 1 rfl
    have x2 := HX11.is 2 rfl
    have x3 := HX11.is 3 rfl
    have x4 := HX11.is 4 rfl
    have x5 := HX11.is 5 rfl
    have y0 := HY11.is 0 rfl
    have y1 := HY11.is 1 rfl
    have y2 := HY11.is 2 rfl
    have y3 := HY11.is 3 rfl
    have y4 := HY11.is 4 rfl
    have y5 := HY11.is 5 rfl
    have k0 : World.cell? _ ⟨_, 0, none⟩ = some (.string k.name) := HK11.is 0 rfl
    have k1 : World.cell? _ ⟨_, 1, none⟩ = some (.int .u16 k.ty) := HK11.is 1 rfl
    have k2 : World.cell? _ ⟨_, 2, none⟩ = some (.int .u16 k.cl) := HK11.is 2 rfl
    have k3 : World.cell? _ ⟨_, 3, none⟩ = some (.bool k.dO) := HK11.is 3 rfl
    have j0 : World.cell? _ ⟨_, 0, none⟩ = some (.string k.name) := HJ11.is 0 rfl
    have j1 : World.cell? _ ⟨_, 1, none⟩ = some (.int .u16 k.ty) := HJ11.is 1 rfl
    have j2 : World.cell? _ ⟨_, 2, none⟩ = some (.int .u16 k.cl) := HJ11.is 2 rfl
    have j3 : World.cell? _ ⟨_, 3, none⟩ = some (.bool k.dO) := HJ11.is 3 rfl
    clear HX11 HY11 HK11 HJ11
    go_wp2_with fail
    refine (same6_yes HN11.out HM11.out).mono ?_
    rintro e w12 ⟨rfl, hb⟩
    have HB12 := Aside0.mk (below_step HB11.out hb)
    clear hb
    go_wp2_with fail
    go_ret
    exact ⟨rfl, HB12.out⟩
end Go.Proofs.Ytfoflodgegehfaa.M
