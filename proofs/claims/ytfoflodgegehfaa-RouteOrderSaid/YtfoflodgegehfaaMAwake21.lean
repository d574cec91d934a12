/- Walk of nunciolaw21.awake. -/
import Derived.Test.YtfoflodgegehfaaMRoute
set_option linter.unusedVariables false
set_option linter.unusedSimpArgs false
namespace Go.Proofs.Ytfoflodgegehfaa.M
open Go.RowKit Go.Maps Go.Proofs.YtfoflodgegehfaaW.PrintWords Go.Proofs.YtfoflodgegehfaaW.PrintLast Go.Proofs.YtfoflodgegehfaaW.PrintMore
attribute [local go_sem] max2_int min2_int max_two min_two max_three min_three max_four min_four
attribute [local go_sem ↓] Go.wp_at_zero Go.wp_at_succ
def wakeT : ByteArray := ⟨#[47, 100, 110, 115, 45, 113, 117, 101, 114, 121, 63, 100, 110, 115, 61, 65, 65, 65, 66, 65, 65, 65, 66, 65, 65, 65, 65, 65, 65, 65, 65, 65, 51, 100, 51, 100, 119, 100, 108, 101, 71, 70, 116, 99, 71, 120, 108, 65, 50, 78, 118, 98, 81, 65, 65, 65, 81, 65, 66]⟩
def putT : ByteArray := ⟨#[80, 85, 84]⟩
def getR (p : ByteArray) : Req := ⟨getT, p, ⟨#[]⟩, ⟨#[]⟩, false, 0⟩
theorem wake1 : (routeF (getR wakeT) ⟨#[]⟩).2.2 = 200 ∧ (routeF (getR wakeT) ⟨#[]⟩).2.1.ty = 1 ∧ (routeF (getR wakeT) ⟨#[]⟩).1.qs.length = 1 := by decide +kernel
theorem wake2 : (routeF ⟨putT, epT, ⟨#[]⟩, ⟨#[]⟩, false, 0⟩ ⟨#[]⟩).2.2 = 405 := by decide +kernel
theorem wake3 : paramF ⟨#[97, 61, 98, 38, 100, 110, 115, 61, 99, 61, 100]⟩ dnsT = (⟨#[99, 61, 100]⟩, true) := by decide +kernel
theorem wake4 : targetF ⟨#[0]⟩ = ⟨#[47, 100, 110, 115, 45, 113, 117, 101, 114, 121, 63, 100, 110, 115, 61, 65, 65]⟩ := by decide +kernel
/-- What a message and a key hold in two new boxes. -/
theorem two_new' (w : World) (cs ds : Array Value) (T U : Nat) :
    SAt ((w.alloc (.cells cs T (0, 0))).alloc (.cells ds U (0, 0))) w.heap.size cs T ∧ SAt ((w.alloc (.cells cs T (0, 0))).alloc (.cells ds U (0, 0))) (w.heap.size + 1) ds U ∧ Below w.heap.size w ((w.alloc (.cells cs T (0, 0))).alloc (.cells ds U (0, 0))) := two_at w cs ds T U
set_option maxHeartbeats 8000000 in
set_option maxRecDepth 100000 in
theorem awake21_calls (w : World) : Calls Try.prog 8 #[] w fun e w' => e = .returned (.bool true) ∧ Below w.heap.size w w' := by
  have h1 := fun W => route_calls (getR wakeT) ⟨#[]⟩ W (by decide) (by decide)
  have h2 := fun W => route_calls ⟨putT, epT, ⟨#[]⟩, ⟨#[]⟩, false, 0⟩ ⟨#[]⟩ W (by decide) (by decide)
  have h3 := fun W => param_calls ⟨#[97, 61, 98, 38, 100, 110, 115, 61, 99, 61, 100]⟩ dnsT W (by decide)
  have h4 := fun W => target_calls ⟨#[0]⟩ W (by decide)
  rw [wake3] at h3
  rw [wake4] at h4
  have k1 := wake1
  have k2 := wake2
  generalize routeF (getR wakeT) ⟨#[]⟩ = x1 at *
  generalize routeF ⟨putT, epT, ⟨#[]⟩, ⟨#[]⟩, false, 0⟩ ⟨#[]⟩ = x2 at *
  obtain ⟨m1, y1, s1⟩ := x1
  obtain ⟨m2, y2, s2⟩ := x2
  simp only [] at k1 k2
  obtain ⟨rfl, k1, k3⟩ := k1
  subst k2
  have K1 := Lib.hid k1
  have K3 := Lib.hid k3
  clear k1 k3
  have H1 := Aside0.mk h1
  have H2 := Aside0.mk h2
  have H3 := Aside0.mk h3
  have H4 := Aside0.mk h4
  clear h1 h2 h3 h4
  go_enter Try.func8, Try.ntmps8
  go_wp2_with fail
  refine (H1.out _).mono ?_
  rintro e w1 ⟨⟨v, rfl, hm⟩, hb⟩
  have HB1 := Aside0.mk hb
  obtain ⟨A2, c2, A3, c3, A4, c4, A5, c5, rfl, h2, g2, h3, g3, h4, g4, h5, g5⟩ := hm
  clear hb h2 g2 h3 g3 h4 g4 h5 g5 H1
  unfold Key.v
  simp only []
  go_upto_region 2 with fail
  obtain ⟨HX, HK, hb⟩ := two_at w1 #[.int .u16 m1.id, .int .u16 m1.flags, .slice A2 m1.qs.length c2, .slice A3 m1.ans.length c3, .slice A4 m1.auth.length c4, .slice A5 m1.add.length c5] #[.string y1.name, .int .u16 y1.ty, .int .u16 y1.cl, .bool y1.dO] 35 37
  have HX2 := Aside0.mk HX
  have HK2 := Aside0.mk HK
  have HB2 := Aside0.mk (below_step HB1.out hb)
  clear HX HK hb HB1
  generalize (w1.alloc (.cells #[.int .u16 m1.id, .int .u16 m1.flags, .slice A2 m1.qs.length c2, .slice A3 m1.ans.length c3, .slice A4 m1.auth.length c4, .slice A5 m1.add.length c5] 35 (0, 0))).alloc (.cells #[.string y1.name, .int .u16 y1.ty, .int .u16 y1.cl, .bool y1.dO] 37 (0, 0)) = w2 at *
  generalize w1.heap.size + 1 = b1 at *
  generalize w1.heap.size = a1 at *
  go_wp2_with fail
  refine (H2.out _).mono ?_
  rintro e w3 ⟨⟨v, rfl, hm⟩, hb⟩
  have HX3 := Aside0.mk (HX2.out.below hb)
  have HK3 := Aside0.mk (HK2.out.below hb)
  have HB3 := Aside0.mk (below_step HB2.out hb)
  obtain ⟨B2, d2, B3, d3, B4, d4, B5, d5, rfl, h2, g2, h3, g3, h4, g4, h5, g5⟩ := hm
  clear hb h2 g2 h3 g3 h4 g4 h5 g5 H2 HX2 HK2 HB2
  unfold Key.v
  simp only []
  go_upto_region 3 with fail
  obtain ⟨HX, HK, hb⟩ := two_at w3 #[.int .u16 m2.id, .int .u16 m2.flags, .slice B2 m2.qs.length d2, .slice B3 m2.ans.length d3, .slice B4 m2.auth.length d4, .slice B5 m2.add.length d5] #[.string y2.name, .int .u16 y2.ty, .int .u16 y2.cl, .bool y2.dO] 35 37
  have HX4 := Aside0.mk (HX3.out.below hb)
  have HK4 := Aside0.mk (HK3.out.below hb)
  have HB4 := Aside0.mk (below_step HB3.out hb)
  clear HX HK hb HX3 HK3 HB3
  generalize (w3.alloc (.cells #[.int .u16 m2.id, .int .u16 m2.flags, .slice B2 m2.qs.length d2, .slice B3 m2.ans.length d3, .slice B4 m2.auth.length d4, .slice B5 m2.add.length d5] 35 (0, 0))).alloc (.cells #[.string y2.name, .int .u16 y2.ty, .int .u16 y2.cl, .bool y2.dO] 37 (0, 0)) = w4 at *
  go_wp2_with fail
  refine (H3.out _).mono ?_
  rintro e w5 ⟨rfl, hb⟩
  have HX5 := HX4.out.below hb
  have HK5 := HK4.out.below hb
  have HB5 := Aside0.mk (below_step HB4.out hb)
  clear hb HX4 HK4 HB4 H3
  have z2 : w5.cell? ⟨a1, 2, none⟩ = some (.slice A2 m1.qs.length c2) := HX5.is 2 rfl
  have z1 : w5.cell? ⟨b1, 1, none⟩ = some (.int .u16 y1.ty) := HK5.is 1 rfl
  rw [K3.out] at z2
  rw [K1.out] at z1
  clear HX5 HK5
  obtain ⟨d1, d2, d3⟩ := const_yes (s := ⟨#[99, 61, 100]⟩) rfl (L := [99, 61, 100]) rfl
  go_wp2_with fail
  refine (H4.out _).mono ?_
  rintro e w6 ⟨rfl, hb⟩
  have HB6 := Aside0.mk (below_step HB5.out hb)
  clear hb
  go_wp2_with fail
  go_ret
  exact ⟨rfl, HB6.out⟩
end Go.Proofs.Ytfoflodgegehfaa.M
