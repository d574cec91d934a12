/- The law RouteOrder, whole. -/
import Derived.Test.YtfoflodgegehfaaMOrder0
import Derived.Test.YtfoflodgegehfaaMRowReq
set_option linter.unusedVariables false
set_option linter.unusedSimpArgs false
namespace Go.Proofs.Ytfoflodgegehfaa.M
open Go.RowKit Go.Maps Go.Proofs.YtfoflodgegehfaaW.PrintWords Go.Proofs.YtfoflodgegehfaaW.PrintLast Go.Proofs.YtfoflodgegehfaaW.PrintMore
attribute [local go_sem] max2_int min2_int max_two min_two max_three min_three max_four min_four
attribute [local go_sem ↓] Go.wp_at_zero Go.wp_at_succ
def Aggs (vm vk : Value) : Prop := ∃ (i0 i1 : Int) (A2 A3 A4 A5 : Option Addr) (n2 n3 n4 n5 c2 c3 c4 c5 : Nat) (s0 : ByteArray) (j1 j2 : Int) (b3 : Bool), vm = .agg #[.int .u16 i0, .int .u16 i1, .slice A2 n2 c2, .slice A3 n3 c3, .slice A4 n4 c4, .slice A5 n5 c5] ∧ vk = .agg #[.string s0, .int .u16 j1, .int .u16 j2, .bool b3]
theorem lcast {P : Program} {ops : Array Oper} {Q : Exit → Act → World → Prop} {S : World → Prop} {ds : List Nat} {n : Nat} {l l' : Array Bool} {a : Act} {w : World} (hl : l = l') (h : wpAnyLast P .any ops Q S ds n l' a w) : wpAnyLast P .any ops Q S ds n l a w := hl ▸ h
theorem SAt.grown {w w1 : World} {g : Nat} {cs : Array Value} {T : Nat} (h : SAt w g cs T) (hg : w.grownBy w1 none) : SAt w1 g cs T := (hg.block g h.lt (by simp)).trans h
theorem req_s {W w : World} {g : Nat} {x0 x1 x2 x3 x4 x5 : Value} (h : SAt w g #[x0, x1, x2, x3, x4, x5] 30 ∧ Below W.heap.size W w) :
    (w.cell? ⟨g, 0, none⟩ = some x0 ∧ w.cell? ⟨g, 1, none⟩ = some x1 ∧ w.cell? ⟨g, 2, none⟩ = some x2 ∧ w.cell? ⟨g, 3, none⟩ = some x3 ∧ w.cell? ⟨g, 4, none⟩ = some x4 ∧ w.cell? ⟨g, 5, none⟩ = some x5) ∧ Aside0 (SAt w g #[x0, x1, x2, x3, x4, x5] 30 ∧ Below W.heap.size W w) :=
  ⟨⟨h.1.is 0 rfl, h.1.is 1 rfl, h.1.is 2 rfl, h.1.is 3 rfl, h.1.is 4 rfl, h.1.is 5 rfl⟩, ⟨h⟩⟩
set_option maxHeartbeats 40000000 in
set_option maxRecDepth 100000 in
theorem order_all (W : World) (v : Value) (r : Req) (hv : v = r.v) (hi : ReqIn r) (body : ByteArray) (hb : body.size ≤ 140737488351232) (more : Int) (hm : (Lit.int .u8 more).wf = true) :
    Calls Try.prog 6 #[v, .string body, .int .u8 more] W fun e w' => e = .returned (.bool true) ∧ Below W.heap.size W w' := by
  subst hv
  obtain ⟨m0, m1⟩ := wf_u8 hm
  clear hm
  obtain ⟨me, pa, te, md, ha, le⟩ := r
  have hip : pa.size ≤ 140737488351232 := hi.path
  clear hi
  by_cases c1 : 5000 < pa.size
  · have d1 : decide (5000 < pa.size) = true := decide_eq_true c1
    have d1' : decide ((5000 : Int) < (pa.size : Int)) = true := decide_eq_true (by omega)
    simp only [Req.v, Req.cs]
    clear c1 hip hb m0 m1
    go_enter Try.func6, Try.ntmps6
    go_upto_region 1 with fail
    have HX1 := Aside0.mk (SAt.new W #[.string me, .string pa, .string te, .string md, .bool ha, .int .i64 le] 30)
    have HB1 := Aside0.mk (below_alloc (Below.refl W.heap.size W) (.cells #[.string me, .string pa, .string te, .string md, .bool ha, .int .i64 le] 30 (0, 0)))
    generalize hW : W.alloc (.cells #[.string me, .string pa, .string te, .string md, .bool ha, .int .i64 le] 30 (0, 0)) = w1 at *
    clear hW
    go_wp2_with fail
    refine (awake21_calls _).mono ?_
    rintro e w2 ⟨rfl, hb⟩
    have HX2 := Aside0.mk (HX1.out.below hb)
    have HB2 := Aside0.mk (below_step HB1.out hb)
    clear hb HX1 HB1
    have z0 := HX2.out.is 0 rfl
    have z1 := HX2.out.is 1 rfl
    have z2 := HX2.out.is 2 rfl
    have z3 := HX2.out.is 3 rfl
    have z4 := HX2.out.is 4 rfl
    have z5 := HX2.out.is 5 rfl
    go_wp2_with fail
    go_ret
    exact ⟨rfl, HB2.out⟩
  have d1 : decide (5000 < pa.size) = false := decide_eq_false c1
  have d1' : decide ((5000 : Int) < (pa.size : Int)) = false := decide_eq_false (by omega)
  by_cases c2 : 5000 < body.size
  · have d2 : decide (5000 < body.size) = true := decide_eq_true c2
    have d2' : decide ((5000 : Int) < (body.size : Int)) = true := decide_eq_true (by omega)
    simp only [Req.v, Req.cs]
    clear c1 hip hb m0 m1 c2
    go_enter Try.func6, Try.ntmps6
    go_upto_region 1 with fail
    have HX1 := Aside0.mk (SAt.new W #[.string me, .string pa, .string te, .string md, .bool ha, .int .i64 le] 30)
    have HB1 := Aside0.mk (below_alloc (Below.refl W.heap.size W) (.cells #[.string me, .string pa, .string te, .string md, .bool ha, .int .i64 le] 30 (0, 0)))
    generalize hW : W.alloc (.cells #[.string me, .string pa, .string te, .string md, .bool ha, .int .i64 le] 30 (0, 0)) = w1 at *
    clear hW
    go_wp2_with fail
    refine (awake21_calls _).mono ?_
    rintro e w2 ⟨rfl, hb⟩
    have HX2 := Aside0.mk (HX1.out.below hb)
    have HB2 := Aside0.mk (below_step HB1.out hb)
    clear hb HX1 HB1
    have z0 := HX2.out.is 0 rfl
    have z1 := HX2.out.is 1 rfl
    have z2 := HX2.out.is 2 rfl
    have z3 := HX2.out.is 3 rfl
    have z4 := HX2.out.is 4 rfl
    have z5 := HX2.out.is 5 rfl
    go_wp2_with fail
    go_ret
    exact ⟨rfl, HB2.out⟩
  have d2 : decide (5000 < body.size) = false := decide_eq_false c2
  have d2' : decide ((5000 : Int) < (body.size : Int)) = false := decide_eq_false (by omega)
  have r1 := fun w => split_ref_calls pa w (by omega)
  have r2 := fun w => route_calls ⟨me, pa, te, md, ha, le⟩ body w (by show pa.size ≤ _; omega) (by omega)
  have r3 := fun w s (hs : s.size ≤ 100000) => route_calls ⟨me, pa, te, md, ha, le⟩ s w (by show pa.size ≤ _; omega) hs
  have s404 := @route_404 ⟨me, pa, te, md, ha, le⟩ body
  have s405 := @route_405 ⟨me, pa, te, md, ha, le⟩ body
  have s415 := @route_415 ⟨me, pa, te, md, ha, le⟩ body
  have spost := @route_post ⟨me, pa, te, md, ha, le⟩
  have sget := fun h h1 => @route_get_status ⟨me, pa, te, md, ha, le⟩ body h h1 (by show pa.size ≤ _; omega)
  have hbz : (routeS body).2.2 = 200 ∨ (routeS body).2.2 = 400 := routeS_status (by omega)
  simp only [] at s404 s405 s415 spost sget
  generalize cutA pa 63 = a at *
  generalize cutB pa 63 = q at *
  have hlong := fun s hs => @routeS_long s hs
  have R3 := Aside0.mk r3
  have SP := Aside0.mk (@spost)
  obtain ⟨x, hx⟩ : ∃ x, routeF ⟨me, pa, te, md, ha, le⟩ body = x := ⟨_, rfl⟩
  have hst : a = epT → me = postT → md = mediaT → x.2.2 = 200 ∨ x.2.2 = 400 := by
    intro h h1 h2
    rw [← hx, SP.out h h1 h2]
    exact hbz
  rw [hx] at r2 s404 s405 s415 sget
  clear hx hbz r3 spost c1 c2 hip hb
  obtain ⟨m, k, st⟩ := x
  simp only [Req.v, Req.cs] at *
  go_enter Try.func6, Try.ntmps6
  go_upto_region 1 with fail
  have HX1 := Aside0.mk (SAt.new W #[.string me, .string pa, .string te, .string md, .bool ha, .int .i64 le] 30)
  have HB1 := Aside0.mk (below_alloc (Below.refl W.heap.size W) (.cells #[.string me, .string pa, .string te, .string md, .bool ha, .int .i64 le] 30 (0, 0)))
  generalize hW : W.alloc (.cells #[.string me, .string pa, .string te, .string md, .bool ha, .int .i64 le] 30 (0, 0)) = w1 at *
  clear hW
  go_wp2_with fail
  refine (awake21_calls _).mono ?_
  rintro e w2 ⟨rfl, hb⟩
  have HX2 := Aside0.mk (HX1.out.below hb)
  have HB2 := Aside0.mk (below_step HB1.out hb)
  clear hb HX1 HB1
  have z0 := HX2.out.is 0 rfl
  have z1 := HX2.out.is 1 rfl
  have z2 := HX2.out.is 2 rfl
  have z3 := HX2.out.is 3 rfl
  have z4 := HX2.out.is 4 rfl
  have z5 := HX2.out.is 5 rfl
  go_wp2_with fail
  refine (r1 _).mono ?_
  rintro e w3 ⟨rfl, hb⟩
  have HX3 := Aside0.mk (HX2.out.below hb)
  have HB3 := Aside0.mk (below_step HB2.out hb)
  clear hb HX2 HB2 r1 z0 z1 z2 z3 z4 z5
  have z0 := HX3.out.is 0 rfl
  have z1 := HX3.out.is 1 rfl
  have z2 := HX3.out.is 2 rfl
  have z3 := HX3.out.is 3 rfl
  have z4 := HX3.out.is 4 rfl
  have z5 := HX3.out.is 5 rfl
  go_wp2_with fail
  refine (r2 _).mono ?_
  rintro e w4 ⟨⟨v, rfl, hm⟩, hb⟩
  have HX4 := Aside0.mk (HX3.out.below hb)
  have HB4 := Aside0.mk (below_step HB3.out hb)
  obtain ⟨A2, c2, A3, c3, A4, c4, A5, c5, rfl, h2, g2, h3, g3, h4, g4, h5, g5⟩ := hm
  clear hb HX3 HB3 r2 z0 z1 z2 z3 z4 z5 h2 g2 h3 g3 h4 g4 h5 g5
  unfold Key.v
  simp only []
  go_upto_region 7 with fail
  obtain ⟨-, -, hb⟩ := two_at w4 #[.int .u16 m.id, .int .u16 m.flags, .slice A2 m.qs.length c2, .slice A3 m.ans.length c3, .slice A4 m.auth.length c4, .slice A5 m.add.length c5] #[.string k.name, .int .u16 k.ty, .int .u16 k.cl, .bool k.dO] 35 37
  have HX5 := Aside0.mk (HX4.out.below hb)
  have HB5 := Aside0.mk (below_step HB4.out hb)
  clear hb HX4 HB4
  generalize (w4.alloc (.cells #[.int .u16 m.id, .int .u16 m.flags, .slice A2 m.qs.length c2, .slice A3 m.ans.length c3, .slice A4 m.auth.length c4, .slice A5 m.add.length c5] 35 (0, 0))).alloc (.cells #[.string k.name, .int .u16 k.ty, .int .u16 k.cl, .bool k.dO] 37 (0, 0)) = w5 at *
  have z0 := HX5.out.is 0 rfl
  have z1 := HX5.out.is 1 rfl
  have z2 := HX5.out.is 2 rfl
  have z3 := HX5.out.is 3 rfl
  have z4 := HX5.out.is 4 rfl
  have z5 := HX5.out.is 5 rfl
  by_cases c3 : a ≠ epT
  · obtain rfl := s404 c3
    obtain ⟨d3, d4, d5⟩ := const_no c3 (L := [47, 100, 110, 115, 45, 113, 117, 101, 114, 121]) rfl
    clear s404 s405 s415 sget hst
    go_wp2_with fail
    go_ret
    exact ⟨rfl, HB5.out⟩
  have c3 := Decidable.not_not.mp c3
  obtain ⟨d3, d4, d5⟩ := const_yes c3 (L := [47, 100, 110, 115, 45, 113, 117, 101, 114, 121]) rfl
  by_cases c4 : me = getT
  · have hs := sget c3 c4
    obtain ⟨d6, d7, d8⟩ := const_yes c4 (L := [71, 69, 84]) rfl
    clear s404 s405 s415 sget hst c3 c4
    rcases hs with rfl | rfl
    · go_wp2_with fail
      go_ret
      exact ⟨rfl, HB5.out⟩
    · go_wp2_with fail
      go_ret
      exact ⟨rfl, HB5.out⟩
  obtain ⟨d6, d7, d8⟩ := const_no c4 (L := [71, 69, 84]) rfl
  by_cases c5 : me ≠ postT
  · obtain rfl := s405 c3 c5 c4
    obtain ⟨d9, d10, d11⟩ := const_no c5 (L := [80, 79, 83, 84]) rfl
    clear s404 s405 s415 sget hst c3 c4 c5
    go_wp2_with fail
    go_ret
    exact ⟨rfl, HB5.out⟩
  have c5 := Decidable.not_not.mp c5
  obtain ⟨d9, d10, d11⟩ := const_yes c5 (L := [80, 79, 83, 84]) rfl
  by_cases c6 : md ≠ mediaT
  · obtain rfl := s415 c3 c5 c6
    obtain ⟨d12, d13, d14⟩ := const_no c6 (L := [97, 112, 112, 108, 105, 99, 97, 116, 105, 111, 110, 47, 100, 110, 115, 45, 109, 101, 115, 115, 97, 103, 101]) rfl
    clear s404 s405 s415 sget hst c3 c4 c5 c6
    go_wp2_with fail
    go_ret
    exact ⟨rfl, HB5.out⟩
  have c6 := Decidable.not_not.mp c6
  obtain ⟨d12, d13, d14⟩ := const_yes c6 (L := [97, 112, 112, 108, 105, 99, 97, 116, 105, 111, 110, 47, 100, 110, 115, 45, 109, 101, 115, 115, 97, 103, 101]) rfl
  have hs := hst c3 c5 c6
  have SP2 := Aside0.mk (fun s => @SP.out s c3 c5 c6)
  clear s404 s405 s415 sget hst c3 c4 c5 c6 SP
  go_upto_region 15 with fail
  clear z0 z1 z2 z3 z4 z5 d3 d4 d5 d6 d7 d8 d9 d10 d11 d12 d13 d14
  obtain ⟨sL, hSl⟩ : ∃ sL, strOfNums (List.replicate (65536 + more).toNat (0 : Int)) = sL := ⟨_, rfl⟩
  have hsz : sL.size = (65536 + more).toNat := by rw [← hSl, strOfNums_size, List.length_replicate]
  have RL : Aside0 (∀ w, Calls Try.prog 15 #[.agg #[.string me, .string pa, .string te, .string md, .bool ha, .int .i64 le], .string sL] w fun e w' => ∃ vm' vk', e = .returned (.tuple #[vm', vk', .int .i64 413]) ∧ Aggs vm' vk' ∧ Below w.heap.size w w') := by
    refine ⟨fun w => (R3.out w sL (by omega)).mono ?_⟩
    rw [SP2.out sL]
    rintro e w' ⟨⟨v, rfl, hm⟩, hb⟩
    rw [hlong sL (by omega)]
    obtain ⟨B2, l2, B3, l3, B4, l4, B5, l5, rfl, -⟩ := hm
    exact ⟨_, _, rfl, ⟨_, _, _, _, _, _, _, _, _, _, _, _, _, _, _, _, _, _, rfl, rfl⟩, hb⟩
  clear R3 SP2 hsz hlong
  have w8 : IntKind.i64.wrap more = more := by rw [IntKind.wrap_i64]; omega
  have w9 : IntKind.i64.wrap (65536 + more) = 65536 + more := by rw [IntKind.wrap_i64]; omega
  refine start_ (n := 16) (S := fun w' => (w'.cell? ⟨W.heap.size, 0, none⟩ = some (.string me) ∧ w'.cell? ⟨W.heap.size, 1, none⟩ = some (.string pa) ∧ w'.cell? ⟨W.heap.size, 2, none⟩ = some (.string te) ∧ w'.cell? ⟨W.heap.size, 3, none⟩ = some (.string md) ∧ w'.cell? ⟨W.heap.size, 4, none⟩ = some (.bool ha) ∧ w'.cell? ⟨W.heap.size, 5, none⟩ = some (.int .i64 le)) ∧ Aside0 (SAt w' W.heap.size #[.string me, .string pa, .string te, .string md, .bool ha, .int .i64 le] 30 ∧ Below W.heap.size W w')) (ds := [13, 14]) (Array.replicate 16 false) (by kernel_rfl) (by kernel_rfl) rfl (req_s ⟨HX5.out, HB5.out.drew⟩) (fun hS => ?_)
  have HI0 := Aside0.mk (And.intro (show SAt w5.drew _ _ _ from HX5.out) HB5.out.drew)
  clear HX5 HB5
  generalize w5.drew = w0 at *
  refine dtake 0 (some 68) rfl rfl (by kernel_rfl) (fun _ _ _ h => h) (by rfl) hS (v := ?_) (a' := ?_) ?_ ?_ ?_
  rotate_left 2
  · rintro w' ⟨⟨s0,s1,s2,s3,s4,s5⟩,_⟩; go_simp; with_reducible rfl
  · simp only [Act.put, List.setIfInBounds_toArray, List.set_cons_zero, List.set_cons_succ]; rfl
  refine dpure 1 (some 69) rfl rfl (by kernel_rfl) (fun _ _ _ h => h) (by rfl) (v := ?_) (a' := ?_) ?_ ?_ ?_
  rotate_left 2
  · intro w'; go_simp; with_reducible rfl
  · simp only [Act.put, List.setIfInBounds_toArray, List.set_cons_zero, List.set_cons_succ]; rfl
  refine dpure 2 (some 70) rfl rfl (by kernel_rfl) (fun _ _ _ h => h) (by rfl) (v := ?_) (a' := ?_) ?_ ?_ ?_
  rotate_left 2
  · intro w'; go_simp; with_reducible rfl
  · simp only [Act.put, List.setIfInBounds_toArray, List.set_cons_zero, List.set_cons_succ]; rfl
  refine dpure 3 (some 71) rfl rfl (by kernel_rfl) (fun _ _ _ h => h) (by rfl) (v := ?_) (a' := ?_) ?_ ?_ ?_
  rotate_left 2
  · intro w'; go_simp; with_reducible rfl
  · simp only [Act.put, List.setIfInBounds_toArray, List.set_cons_zero, List.set_cons_succ]; rfl
  clear hS
  refine join_ (σ := Value × Value × Value × Nat × Nat) 3 #[true, true, true, true, true, true, true, true, true, true, true, true, true, false, false, false]
    (fun s => [(72, s.1), (73, .string sL), (74, .tuple #[s.2.1, s.2.2.1, .int .i64 413]), (67, .tuple #[s.2.1, s.2.2.1, .int .i64 413]), (75, s.2.1), (76, s.2.2.1), (77, .int .i64 413), (12, .pointer (some ⟨s.2.2.2.1, 0, none⟩)), (13, .pointer (some ⟨s.2.2.2.2, 0, none⟩))])
    (fun s w' => SAt w' s.2.2.2.1 #[.int .u16 0, .int .u16 0, .slice none 0 0, .slice none 0 0, .slice none 0 0, .slice none 0 0] 35 ∧ SAt w' s.2.2.2.2 #[.string ⟨#[]⟩, .int .u16 0, .int .u16 0, .bool false] 37 ∧ s.2.2.2.1 ≠ s.2.2.2.2 ∧ Below W.heap.size W w' ∧ W.heap.size ≤ s.2.2.2.1 ∧ W.heap.size ≤ s.2.2.2.2 ∧ Aggs s.2.1 s.2.2.1) ?_ (fun JT => ?_)
  · rintro ⟨vm, vm', vk', pa', pb'⟩ wq ⟨hA, hK', hne, hbl, hla, hlb, hag⟩
    simp only [] at hA hK' hne hbl hla hlb hag
    obtain ⟨i0, i1, A2, A3, A4, A5, n2, n3, n4, n5, c2, c3, c4, c5, s0, j1, j2, b3, rfl, rfl⟩ := hag
    refine norm_ (a' := ?_) ?_ ?_
    rotate_left
    · simp only [putAll, Act.put, List.setIfInBounds_toArray, List.set_cons_zero, List.set_cons_succ]; rfl
    have x0 := hA.is 0 rfl
    have x1 := hA.is 1 rfl
    have x2 := hA.is 2 rfl
    have x3 := hA.is 3 rfl
    have x4 := hA.is 4 rfl
    have x5 := hA.is 5 rfl
    have u0 := hA.frozen 0
    have u1 := hA.frozen 1
    have u2 := hA.frozen 2
    have u3 := hA.frozen 3
    have u4 := hA.frozen 4
    have u5 := hA.frozen 5
    refine dlast 13 (Array.getElem?_eq_getElem (by decide)) (by kernel_rfl) (by decide) (fun K hK => ?_)
    refine dskip (w1 := ((((((wq.setCell ⟨pa', 0, none⟩ (.int .u16 i0)).setCell ⟨pa', 1, none⟩ (.int .u16 i1)).setCell ⟨pa', 2, none⟩ (.slice A2 n2 c2)).setCell ⟨pa', 3, none⟩ (.slice A3 n3 c3)).setCell ⟨pa', 4, none⟩ (.slice A4 n4 c4)).setCell ⟨pa', 5, none⟩ (.slice A5 n5 c5))) (by rfl) rfl (by go_simp) ?_
    refine hK.out _ _ ?_
    clear x0 x1 x2 x3 x4 x5 u0 u1 u2 u3 u4 u5 hK K
    have hJ := (((((hK'.far (Ne.symm hne) 0 (.int .u16 i0)).far (Ne.symm hne) 1 (.int .u16 i1)).far (Ne.symm hne) 2 (.slice A2 n2 c2)).far (Ne.symm hne) 3 (.slice A3 n3 c3)).far (Ne.symm hne) 4 (.slice A4 n4 c4)).far (Ne.symm hne) 5 (.slice A5 n5 c5)
    have hbl2 := (((((hbl.setCell (p := ⟨pa', 0, none⟩) hla (.int .u16 i0)).setCell (p := ⟨pa', 1, none⟩) hla (.int .u16 i1)).setCell (p := ⟨pa', 2, none⟩) hla (.slice A2 n2 c2)).setCell (p := ⟨pa', 3, none⟩) hla (.slice A3 n3 c3)).setCell (p := ⟨pa', 4, none⟩) hla (.slice A4 n4 c4)).setCell (p := ⟨pa', 5, none⟩) hla (.slice A5 n5 c5)
    clear hA hK' hbl
    generalize ((((((wq.setCell ⟨pa', 0, none⟩ (.int .u16 i0)).setCell ⟨pa', 1, none⟩ (.int .u16 i1)).setCell ⟨pa', 2, none⟩ (.slice A2 n2 c2)).setCell ⟨pa', 3, none⟩ (.slice A3 n3 c3)).setCell ⟨pa', 4, none⟩ (.slice A4 n4 c4)).setCell ⟨pa', 5, none⟩ (.slice A5 n5 c5)) = wq2 at *
    have k0 := hJ.is 0 rfl
    have k1 := hJ.is 1 rfl
    have k2 := hJ.is 2 rfl
    have k3 := hJ.is 3 rfl
    have fk0 := hJ.frozen 0
    have fk1 := hJ.frozen 1
    have fk2 := hJ.frozen 2
    have fk3 := hJ.frozen 3
    refine dlast 14 (Array.getElem?_eq_getElem (by decide)) (by kernel_rfl) (by decide) (fun K hK => ?_)
    refine dskip (w1 := ((((wq2.setCell ⟨pb', 0, none⟩ (.string s0)).setCell ⟨pb', 1, none⟩ (.int .u16 j1)).setCell ⟨pb', 2, none⟩ (.int .u16 j2)).setCell ⟨pb', 3, none⟩ (.bool b3))) (by rfl) rfl (by go_simp) ?_
    refine hK.out _ _ ?_
    clear k0 k1 k2 k3 fk0 fk1 fk2 fk3
    clear hK K
    have HB9 := Aside0.mk ((((hbl2.setCell (p := ⟨pb', 0, none⟩) hlb (.string s0)).setCell (p := ⟨pb', 1, none⟩) hlb (.int .u16 j1)).setCell (p := ⟨pb', 2, none⟩) hlb (.int .u16 j2)).setCell (p := ⟨pb', 3, none⟩) hlb (.bool b3))
    clear hJ hbl2
    generalize ((((wq2.setCell ⟨pb', 0, none⟩ (.string s0)).setCell ⟨pb', 1, none⟩ (.int .u16 j1)).setCell ⟨pb', 2, none⟩ (.int .u16 j2)).setCell ⟨pb', 3, none⟩ (.bool b3)) = wq3 at *
    refine dpure 15 (some 14) rfl rfl (by kernel_rfl) (fun _ _ _ h => h) (by rfl) (v := ?_) (a' := ?_) ?_ ?_ ?_
    rotate_left 2
    · intro w'; go_simp; with_reducible rfl
    · simp only [Act.put, List.setIfInBounds_toArray, List.set_cons_zero, List.set_cons_succ]; rfl
    refine done_ (by kernel_rfl) ?_
    clear RL HI0 hSl
    rcases hs with rfl | rfl
    · go_wp2_with fail
      go_ret
      exact ⟨rfl, HB9.out⟩
    · go_wp2_with fail
      go_ret
      exact ⟨rfl, HB9.out⟩
  simp only [putAll, Act.put, List.setIfInBounds_toArray, List.set_cons_zero, List.set_cons_succ] at JT
  refine wpAnyLast_ready (rs := [4, 11, 12]) (by kernel_rfl) (by simp) (AllReadyL.cons rfl (by decide) (fun K hK => ?_) (AllReadyL.cons rfl (by decide) (fun K hK => ?_) (AllReadyL.cons rfl (by decide) (fun K hK => ?_) AllReadyL.nil)))
  · skip
    refine Kd.R_make_step (Kd.int .u8) (w0 := W) W.heap.size 5 (by kernel_rfl) rfl 48 (.tmp 71) (.tmp 71) rfl (65536 + more) (by rfl) (by rfl) Try.underlying48 (.int .u8 0) 1 info8 rfl (by decide) (by decide) 0 (ok := fun _ => True) (okp := fun _ => True) rfl (fun _ h => h) trivial (by omega) (by omega) HI0.out.2 HI0.out.2.size ?_
    intro vm w1 hr hbB hg hat
    obtain ⟨As, cs, rfl⟩ := Kd.R_slice hr
    have HI1 := Aside0.mk (And.intro (HI0.out.1.grown hg) (hbB))
    have HR1 := Aside0.mk hr
    obtain ⟨vm, hvm⟩ : ∃ vm, Value.slice As (List.replicate (65536 + more).toNat (0 : Int)).length cs = vm := ⟨_, rfl⟩
    rw [hvm] at HR1 ⊢
    clear hr hbB hg hat
    refine hK _ _ (req_s HI1.out) (fun hS => ?_)
    clear hK K
    refine norm_ (a' := Act.put _ (some 72) vm) rfl ?_
    refine norm_ (a' := ?_) ?_ ?_
    rotate_left
    · simp only [Act.put, List.setIfInBounds_toArray, List.set_cons_zero, List.set_cons_succ]; rfl
    clear hvm
    refine wpAnyLast_ready (rs := [5, 11, 12]) (by kernel_rfl) (by simp) (AllReadyL.cons rfl (by decide) (fun K hK => ?_) (AllReadyL.cons rfl (by decide) (fun K hK => ?_) (AllReadyL.cons rfl (by decide) (fun K hK => ?_) AllReadyL.nil)))
    · skip
      have hcv := strOf HR1.out
      rw [hSl] at hcv
      refine event_step (by kernel_rfl) (v := .string sL) (w1 := w1) (by go_simp; done) ?_
      refine hK _ _ (req_s HI1.out) (fun hS => ?_)
      clear hK K
      refine norm_ (a' := Act.put _ (some 73) (.string sL)) rfl ?_
      refine norm_ (a' := ?_) ?_ ?_
      rotate_left
      · simp only [Act.put, List.setIfInBounds_toArray, List.set_cons_zero, List.set_cons_succ]; rfl
      clear hcv
      refine wpAnyLast_ready (rs := [6, 11, 12]) (by kernel_rfl) (by simp) (AllReadyL.cons rfl (by decide) (fun K hK => ?_) (AllReadyL.cons rfl (by decide) (fun K hK => ?_) (AllReadyL.cons rfl (by decide) (fun K hK => ?_) AllReadyL.nil)))
      · skip
        refine goes_ Try.func15 (by kernel_rfl) rfl #[.agg #[.string me, .string pa, .string te, .string md, .bool ha, .int .i64 le], .string sL] (by rfl) rfl rfl (by kernel_rfl) ?_
        refine (RL.out _).mono ?_
        rintro e w2 ⟨vm', vk', rfl, hT, hb⟩
        refine ⟨_, rfl, ?_⟩
        have HT := Aside0.mk hT
        have HI2 := Aside0.mk (And.intro (HI1.out.1.below hb) (below_step HI1.out.2 hb))
        refine hK _ _ (req_s HI2.out) (fun hS => ?_)
        clear hK K
        refine norm_ (a' := Act.put _ (some 74) (.tuple #[vm', vk', .int .i64 413])) rfl ?_
        refine norm_ (a' := ?_) ?_ ?_
        rotate_left
        · simp only [Act.put, List.setIfInBounds_toArray, List.set_cons_zero, List.set_cons_succ]; rfl
        refine dpure 7 (some 67) rfl rfl (by kernel_rfl) (fun _ _ _ h => h) (by rfl) (v := ?_) (a' := ?_) ?_ ?_ ?_
        rotate_left 2
        · intro w'; go_simp; with_reducible rfl
        · simp only [Act.put, List.setIfInBounds_toArray, List.set_cons_zero, List.set_cons_succ]; rfl
        refine dpure 8 (some 75) rfl rfl (by kernel_rfl) (fun _ _ _ h => h) (by rfl) (v := ?_) (a' := ?_) ?_ ?_ ?_
        rotate_left 2
        · intro w'; go_simp; with_reducible rfl
        · simp only [Act.put, List.setIfInBounds_toArray, List.set_cons_zero, List.set_cons_succ]; rfl
        refine dpure 9 (some 76) rfl rfl (by kernel_rfl) (fun _ _ _ h => h) (by rfl) (v := ?_) (a' := ?_) ?_ ?_ ?_
        rotate_left 2
        · intro w'; go_simp; with_reducible rfl
        · simp only [Act.put, List.setIfInBounds_toArray, List.set_cons_zero, List.set_cons_succ]; rfl
        refine dpure 10 (some 77) rfl rfl (by kernel_rfl) (fun _ _ _ h => h) (by rfl) (v := ?_) (a' := ?_) ?_ ?_ ?_
        rotate_left 2
        · intro w'; go_simp; with_reducible rfl
        · simp only [Act.put, List.setIfInBounds_toArray, List.set_cons_zero, List.set_cons_succ]; rfl
        clear hb hT
        refine wpAnyLast_ready (rs := [11, 12]) (by kernel_rfl) (by simp) (AllReadyL.cons rfl (by decide) (fun K hK => ?_) (AllReadyL.cons rfl (by decide) (fun K hK => ?_) AllReadyL.nil))
        · skip
          have hla := below_size HI2.out.2
          have hb := below_alloc (Below.refl w2.heap.size w2) (.cells #[.int .u16 0, .int .u16 0, .slice none 0 0, .slice none 0 0, .slice none 0 0, .slice none 0 0] 35 (0, 0))
          have HI3 := Aside0.mk (And.intro (HI2.out.1.below hb) (below_step HI2.out.2 hb))
          have HA3 := Aside0.mk (SAt.new w2 #[.int .u16 0, .int .u16 0, .slice none 0 0, .slice none 0 0, .slice none 0 0, .slice none 0 0] 35)
          refine event_step (by kernel_rfl) (v := .pointer (some ⟨w2.heap.size, 0, none⟩)) (w1 := w2.alloc (.cells #[.int .u16 0, .int .u16 0, .slice none 0 0, .slice none 0 0, .slice none 0 0, .slice none 0 0] 35 (0, 0))) (by go_simp; done) ?_
          refine hK _ _ (req_s HI3.out) (fun hS => ?_)
          clear hK K
          refine norm_ (a' := Act.put _ (some 12) (.pointer (some ⟨w2.heap.size, 0, none⟩))) rfl ?_
          refine norm_ (a' := ?_) ?_ ?_
          rotate_left
          · simp only [Act.put, List.setIfInBounds_toArray, List.set_cons_zero, List.set_cons_succ]; rfl
          clear hb
          generalize w2.alloc (.cells #[.int .u16 0, .int .u16 0, .slice none 0 0, .slice none 0 0, .slice none 0 0, .slice none 0 0] 35 (0, 0)) = w3 at *
          generalize w2.heap.size = ba at *
          refine wpAnyLast_ready (rs := [12]) (by kernel_rfl) (by simp) (AllReadyL.cons rfl (by decide) (fun K hK => ?_) AllReadyL.nil)
          · skip
            have hlb := below_size HI3.out.2
            have hb := below_alloc (Below.refl w3.heap.size w3) (.cells #[.string ⟨#[]⟩, .int .u16 0, .int .u16 0, .bool false] 37 (0, 0))
            have HI4 := Aside0.mk (And.intro (HI3.out.1.below hb) (below_step HI3.out.2 hb))
            have HA4 := Aside0.mk (HA3.out.below hb)
            have HK4 := Aside0.mk (SAt.new w3 #[.string ⟨#[]⟩, .int .u16 0, .int .u16 0, .bool false] 37)
            have HN4 := Nat.ne_of_lt HA3.out.lt
            refine event_step (by kernel_rfl) (v := .pointer (some ⟨w3.heap.size, 0, none⟩)) (w1 := w3.alloc (.cells #[.string ⟨#[]⟩, .int .u16 0, .int .u16 0, .bool false] 37 (0, 0))) (by go_simp; done) ?_
            refine hK _ _ (req_s HI4.out) (fun hS => ?_)
            clear hK K
            refine norm_ (a' := Act.put _ (some 13) (.pointer (some ⟨w3.heap.size, 0, none⟩))) rfl ?_
            refine norm_ (a' := ?_) ?_ ?_
            rotate_left
            · simp only [Act.put, List.setIfInBounds_toArray, List.set_cons_zero, List.set_cons_succ]; rfl
            clear hb
            generalize w3.alloc (.cells #[.string ⟨#[]⟩, .int .u16 0, .int .u16 0, .bool false] 37 (0, 0)) = w4 at *
            generalize w3.heap.size = bb at *
            refine lcast (l' := #[true, true, true, true, true, true, true, true, true, true, true, true, true, false, false, false]) (by kernel_rfl) ?_
            exact JT (vm, vm', vk', ba, bb) w4 ⟨HA4.out, HK4.out, HN4, HI4.out.2, hla, hlb, HT.out⟩
        · skip
          have hlb := below_size HI2.out.2
          have hb := below_alloc (Below.refl w2.heap.size w2) (.cells #[.string ⟨#[]⟩, .int .u16 0, .int .u16 0, .bool false] 37 (0, 0))
          have HI3 := Aside0.mk (And.intro (HI2.out.1.below hb) (below_step HI2.out.2 hb))
          have HK3 := Aside0.mk (SAt.new w2 #[.string ⟨#[]⟩, .int .u16 0, .int .u16 0, .bool false] 37)
          refine event_step (by kernel_rfl) (v := .pointer (some ⟨w2.heap.size, 0, none⟩)) (w1 := w2.alloc (.cells #[.string ⟨#[]⟩, .int .u16 0, .int .u16 0, .bool false] 37 (0, 0))) (by go_simp; done) ?_
          refine hK _ _ (req_s HI3.out) (fun hS => ?_)
          clear hK K
          refine norm_ (a' := Act.put _ (some 13) (.pointer (some ⟨w2.heap.size, 0, none⟩))) rfl ?_
          refine norm_ (a' := ?_) ?_ ?_
          rotate_left
          · simp only [Act.put, List.setIfInBounds_toArray, List.set_cons_zero, List.set_cons_succ]; rfl
          clear hb
          generalize w2.alloc (.cells #[.string ⟨#[]⟩, .int .u16 0, .int .u16 0, .bool false] 37 (0, 0)) = w3 at *
          generalize w2.heap.size = bb at *
          refine wpAnyLast_ready (rs := [11]) (by kernel_rfl) (by simp) (AllReadyL.cons rfl (by decide) (fun K hK => ?_) AllReadyL.nil)
          · skip
            have hla := below_size HI3.out.2
            have hb := below_alloc (Below.refl w3.heap.size w3) (.cells #[.int .u16 0, .int .u16 0, .slice none 0 0, .slice none 0 0, .slice none 0 0, .slice none 0 0] 35 (0, 0))
            have HI4 := Aside0.mk (And.intro (HI3.out.1.below hb) (below_step HI3.out.2 hb))
            have HK4 := Aside0.mk (HK3.out.below hb)
            have HA4 := Aside0.mk (SAt.new w3 #[.int .u16 0, .int .u16 0, .slice none 0 0, .slice none 0 0, .slice none 0 0, .slice none 0 0] 35)
            have HN4 := Nat.ne_of_gt HK3.out.lt
            refine event_step (by kernel_rfl) (v := .pointer (some ⟨w3.heap.size, 0, none⟩)) (w1 := w3.alloc (.cells #[.int .u16 0, .int .u16 0, .slice none 0 0, .slice none 0 0, .slice none 0 0, .slice none 0 0] 35 (0, 0))) (by go_simp; done) ?_
            refine hK _ _ (req_s HI4.out) (fun hS => ?_)
            clear hK K
            refine norm_ (a' := Act.put _ (some 12) (.pointer (some ⟨w3.heap.size, 0, none⟩))) rfl ?_
            refine norm_ (a' := ?_) ?_ ?_
            rotate_left
            · simp only [Act.put, List.setIfInBounds_toArray, List.set_cons_zero, List.set_cons_succ]; rfl
            clear hb
            generalize w3.alloc (.cells #[.int .u16 0, .int .u16 0, .slice none 0 0, .slice none 0 0, .slice none 0 0, .slice none 0 0] 35 (0, 0)) = w4 at *
            generalize w3.heap.size = ba at *
            refine lcast (l' := #[true, true, true, true, true, true, true, true, true, true, true, true, true, false, false, false]) (by kernel_rfl) ?_
            exact JT (vm, vm', vk', ba, bb) w4 ⟨HA4.out, HK4.out, HN4, HI4.out.2, hla, hlb, HT.out⟩
      · skip
        have hla := below_size HI1.out.2
        have hb := below_alloc (Below.refl w1.heap.size w1) (.cells #[.int .u16 0, .int .u16 0, .slice none 0 0, .slice none 0 0, .slice none 0 0, .slice none 0 0] 35 (0, 0))
        have HI2 := Aside0.mk (And.intro (HI1.out.1.below hb) (below_step HI1.out.2 hb))
        have HR2 := Aside0.mk (Kd.R_below HR1.out hb)
        have HA2 := Aside0.mk (SAt.new w1 #[.int .u16 0, .int .u16 0, .slice none 0 0, .slice none 0 0, .slice none 0 0, .slice none 0 0] 35)
        refine event_step (by kernel_rfl) (v := .pointer (some ⟨w1.heap.size, 0, none⟩)) (w1 := w1.alloc (.cells #[.int .u16 0, .int .u16 0, .slice none 0 0, .slice none 0 0, .slice none 0 0, .slice none 0 0] 35 (0, 0))) (by go_simp; done) ?_
        refine hK _ _ (req_s HI2.out) (fun hS => ?_)
        clear hK K
        refine norm_ (a' := Act.put _ (some 12) (.pointer (some ⟨w1.heap.size, 0, none⟩))) rfl ?_
        refine norm_ (a' := ?_) ?_ ?_
        rotate_left
        · simp only [Act.put, List.setIfInBounds_toArray, List.set_cons_zero, List.set_cons_succ]; rfl
        clear hb
        generalize w1.alloc (.cells #[.int .u16 0, .int .u16 0, .slice none 0 0, .slice none 0 0, .slice none 0 0, .slice none 0 0] 35 (0, 0)) = w2 at *
        generalize w1.heap.size = ba at *
        refine wpAnyLast_ready (rs := [6, 12]) (by kernel_rfl) (by simp) (AllReadyL.cons rfl (by decide) (fun K hK => ?_) (AllReadyL.cons rfl (by decide) (fun K hK => ?_) AllReadyL.nil))
        · skip
          refine goes_ Try.func15 (by kernel_rfl) rfl #[.agg #[.string me, .string pa, .string te, .string md, .bool ha, .int .i64 le], .string sL] (by rfl) rfl rfl (by kernel_rfl) ?_
          refine (RL.out _).mono ?_
          rintro e w3 ⟨vm', vk', rfl, hT, hb⟩
          refine ⟨_, rfl, ?_⟩
          have HT := Aside0.mk hT
          have HI3 := Aside0.mk (And.intro (HI2.out.1.below hb) (below_step HI2.out.2 hb))
          have HA3 := Aside0.mk (HA2.out.below hb)
          refine hK _ _ (req_s HI3.out) (fun hS => ?_)
          clear hK K
          refine norm_ (a' := Act.put _ (some 74) (.tuple #[vm', vk', .int .i64 413])) rfl ?_
          refine norm_ (a' := ?_) ?_ ?_
          rotate_left
          · simp only [Act.put, List.setIfInBounds_toArray, List.set_cons_zero, List.set_cons_succ]; rfl
          refine dpure 7 (some 67) rfl rfl (by kernel_rfl) (fun _ _ _ h => h) (by rfl) (v := ?_) (a' := ?_) ?_ ?_ ?_
          rotate_left 2
          · intro w'; go_simp; with_reducible rfl
          · simp only [Act.put, List.setIfInBounds_toArray, List.set_cons_zero, List.set_cons_succ]; rfl
          refine dpure 8 (some 75) rfl rfl (by kernel_rfl) (fun _ _ _ h => h) (by rfl) (v := ?_) (a' := ?_) ?_ ?_ ?_
          rotate_left 2
          · intro w'; go_simp; with_reducible rfl
          · simp only [Act.put, List.setIfInBounds_toArray, List.set_cons_zero, List.set_cons_succ]; rfl
          refine dpure 9 (some 76) rfl rfl (by kernel_rfl) (fun _ _ _ h => h) (by rfl) (v := ?_) (a' := ?_) ?_ ?_ ?_
          rotate_left 2
          · intro w'; go_simp; with_reducible rfl
          · simp only [Act.put, List.setIfInBounds_toArray, List.set_cons_zero, List.set_cons_succ]; rfl
          refine dpure 10 (some 77) rfl rfl (by kernel_rfl) (fun _ _ _ h => h) (by rfl) (v := ?_) (a' := ?_) ?_ ?_ ?_
          rotate_left 2
          · intro w'; go_simp; with_reducible rfl
          · simp only [Act.put, List.setIfInBounds_toArray, List.set_cons_zero, List.set_cons_succ]; rfl
          clear hb hT
          refine wpAnyLast_ready (rs := [12]) (by kernel_rfl) (by simp) (AllReadyL.cons rfl (by decide) (fun K hK => ?_) AllReadyL.nil)
          · skip
            have hlb := below_size HI3.out.2
            have hb := below_alloc (Below.refl w3.heap.size w3) (.cells #[.string ⟨#[]⟩, .int .u16 0, .int .u16 0, .bool false] 37 (0, 0))
            have HI4 := Aside0.mk (And.intro (HI3.out.1.below hb) (below_step HI3.out.2 hb))
            have HA4 := Aside0.mk (HA3.out.below hb)
            have HK4 := Aside0.mk (SAt.new w3 #[.string ⟨#[]⟩, .int .u16 0, .int .u16 0, .bool false] 37)
            have HN4 := Nat.ne_of_lt HA3.out.lt
            refine event_step (by kernel_rfl) (v := .pointer (some ⟨w3.heap.size, 0, none⟩)) (w1 := w3.alloc (.cells #[.string ⟨#[]⟩, .int .u16 0, .int .u16 0, .bool false] 37 (0, 0))) (by go_simp; done) ?_
            refine hK _ _ (req_s HI4.out) (fun hS => ?_)
            clear hK K
            refine norm_ (a' := Act.put _ (some 13) (.pointer (some ⟨w3.heap.size, 0, none⟩))) rfl ?_
            refine norm_ (a' := ?_) ?_ ?_
            rotate_left
            · simp only [Act.put, List.setIfInBounds_toArray, List.set_cons_zero, List.set_cons_succ]; rfl
            clear hb
            generalize w3.alloc (.cells #[.string ⟨#[]⟩, .int .u16 0, .int .u16 0, .bool false] 37 (0, 0)) = w4 at *
            generalize w3.heap.size = bb at *
            refine lcast (l' := #[true, true, true, true, true, true, true, true, true, true, true, true, true, false, false, false]) (by kernel_rfl) ?_
            exact JT (vm, vm', vk', ba, bb) w4 ⟨HA4.out, HK4.out, HN4, HI4.out.2, hla, hlb, HT.out⟩
        · skip
          have hlb := below_size HI2.out.2
          have hb := below_alloc (Below.refl w2.heap.size w2) (.cells #[.string ⟨#[]⟩, .int .u16 0, .int .u16 0, .bool false] 37 (0, 0))
          have HI3 := Aside0.mk (And.intro (HI2.out.1.below hb) (below_step HI2.out.2 hb))
          have HR3 := Aside0.mk (Kd.R_below HR2.out hb)
          have HA3 := Aside0.mk (HA2.out.below hb)
          have HK3 := Aside0.mk (SAt.new w2 #[.string ⟨#[]⟩, .int .u16 0, .int .u16 0, .bool false] 37)
          have HN3 := Nat.ne_of_lt HA2.out.lt
          refine event_step (by kernel_rfl) (v := .pointer (some ⟨w2.heap.size, 0, none⟩)) (w1 := w2.alloc (.cells #[.string ⟨#[]⟩, .int .u16 0, .int .u16 0, .bool false] 37 (0, 0))) (by go_simp; done) ?_
          refine hK _ _ (req_s HI3.out) (fun hS => ?_)
          clear hK K
          refine norm_ (a' := Act.put _ (some 13) (.pointer (some ⟨w2.heap.size, 0, none⟩))) rfl ?_
          refine norm_ (a' := ?_) ?_ ?_
          rotate_left
          · simp only [Act.put, List.setIfInBounds_toArray, List.set_cons_zero, List.set_cons_succ]; rfl
          clear hb
          generalize w2.alloc (.cells #[.string ⟨#[]⟩, .int .u16 0, .int .u16 0, .bool false] 37 (0, 0)) = w3 at *
          generalize w2.heap.size = bb at *
          refine wpAnyLast_ready (rs := [6]) (by kernel_rfl) (by simp) (AllReadyL.cons rfl (by decide) (fun K hK => ?_) AllReadyL.nil)
          · skip
            refine goes_ Try.func15 (by kernel_rfl) rfl #[.agg #[.string me, .string pa, .string te, .string md, .bool ha, .int .i64 le], .string sL] (by rfl) rfl rfl (by kernel_rfl) ?_
            refine (RL.out _).mono ?_
            rintro e w4 ⟨vm', vk', rfl, hT, hb⟩
            refine ⟨_, rfl, ?_⟩
            have HT := Aside0.mk hT
            have HI4 := Aside0.mk (And.intro (HI3.out.1.below hb) (below_step HI3.out.2 hb))
            have HA4 := Aside0.mk (HA3.out.below hb)
            have HK4 := Aside0.mk (HK3.out.below hb)
            have HN4 := HN3
            refine hK _ _ (req_s HI4.out) (fun hS => ?_)
            clear hK K
            refine norm_ (a' := Act.put _ (some 74) (.tuple #[vm', vk', .int .i64 413])) rfl ?_
            refine norm_ (a' := ?_) ?_ ?_
            rotate_left
            · simp only [Act.put, List.setIfInBounds_toArray, List.set_cons_zero, List.set_cons_succ]; rfl
            refine dpure 7 (some 67) rfl rfl (by kernel_rfl) (fun _ _ _ h => h) (by rfl) (v := ?_) (a' := ?_) ?_ ?_ ?_
            rotate_left 2
            · intro w'; go_simp; with_reducible rfl
            · simp only [Act.put, List.setIfInBounds_toArray, List.set_cons_zero, List.set_cons_succ]; rfl
            refine dpure 8 (some 75) rfl rfl (by kernel_rfl) (fun _ _ _ h => h) (by rfl) (v := ?_) (a' := ?_) ?_ ?_ ?_
            rotate_left 2
            · intro w'; go_simp; with_reducible rfl
            · simp only [Act.put, List.setIfInBounds_toArray, List.set_cons_zero, List.set_cons_succ]; rfl
            refine dpure 9 (some 76) rfl rfl (by kernel_rfl) (fun _ _ _ h => h) (by rfl) (v := ?_) (a' := ?_) ?_ ?_ ?_
            rotate_left 2
            · intro w'; go_simp; with_reducible rfl
            · simp only [Act.put, List.setIfInBounds_toArray, List.set_cons_zero, List.set_cons_succ]; rfl
            refine dpure 10 (some 77) rfl rfl (by kernel_rfl) (fun _ _ _ h => h) (by rfl) (v := ?_) (a' := ?_) ?_ ?_ ?_
            rotate_left 2
            · intro w'; go_simp; with_reducible rfl
            · simp only [Act.put, List.setIfInBounds_toArray, List.set_cons_zero, List.set_cons_succ]; rfl
            clear hb hT
            refine lcast (l' := #[true, true, true, true, true, true, true, true, true, true, true, true, true, false, false, false]) (by kernel_rfl) ?_
            exact JT (vm, vm', vk', ba, bb) w4 ⟨HA4.out, HK4.out, HN4, HI4.out.2, hla, hlb, HT.out⟩
      · skip
        have hlb := below_size HI1.out.2
        have hb := below_alloc (Below.refl w1.heap.size w1) (.cells #[.string ⟨#[]⟩, .int .u16 0, .int .u16 0, .bool false] 37 (0, 0))
        have HI2 := Aside0.mk (And.intro (HI1.out.1.below hb) (below_step HI1.out.2 hb))
        have HR2 := Aside0.mk (Kd.R_below HR1.out hb)
        have HK2 := Aside0.mk (SAt.new w1 #[.string ⟨#[]⟩, .int .u16 0, .int .u16 0, .bool false] 37)
        refine event_step (by kernel_rfl) (v := .pointer (some ⟨w1.heap.size, 0, none⟩)) (w1 := w1.alloc (.cells #[.string ⟨#[]⟩, .int .u16 0, .int .u16 0, .bool false] 37 (0, 0))) (by go_simp; done) ?_
        refine hK _ _ (req_s HI2.out) (fun hS => ?_)
        clear hK K
        refine norm_ (a' := Act.put _ (some 13) (.pointer (some ⟨w1.heap.size, 0, none⟩))) rfl ?_
        refine norm_ (a' := ?_) ?_ ?_
        rotate_left
        · simp only [Act.put, List.setIfInBounds_toArray, List.set_cons_zero, List.set_cons_succ]; rfl
        clear hb
        generalize w1.alloc (.cells #[.string ⟨#[]⟩, .int .u16 0, .int .u16 0, .bool false] 37 (0, 0)) = w2 at *
        generalize w1.heap.size = bb at *
        refine wpAnyLast_ready (rs := [6, 11]) (by kernel_rfl) (by simp) (AllReadyL.cons rfl (by decide) (fun K hK => ?_) (AllReadyL.cons rfl (by decide) (fun K hK => ?_) AllReadyL.nil))
        · skip
          refine goes_ Try.func15 (by kernel_rfl) rfl #[.agg #[.string me, .string pa, .string te, .string md, .bool ha, .int .i64 le], .string sL] (by rfl) rfl rfl (by kernel_rfl) ?_
          refine (RL.out _).mono ?_
          rintro e w3 ⟨vm', vk', rfl, hT, hb⟩
          refine ⟨_, rfl, ?_⟩
          have HT := Aside0.mk hT
          have HI3 := Aside0.mk (And.intro (HI2.out.1.below hb) (below_step HI2.out.2 hb))
          have HK3 := Aside0.mk (HK2.out.below hb)
          refine hK _ _ (req_s HI3.out) (fun hS => ?_)
          clear hK K
          refine norm_ (a' := Act.put _ (some 74) (.tuple #[vm', vk', .int .i64 413])) rfl ?_
          refine norm_ (a' := ?_) ?_ ?_
          rotate_left
          · simp only [Act.put, List.setIfInBounds_toArray, List.set_cons_zero, List.set_cons_succ]; rfl
          refine dpure 7 (some 67) rfl rfl (by kernel_rfl) (fun _ _ _ h => h) (by rfl) (v := ?_) (a' := ?_) ?_ ?_ ?_
          rotate_left 2
          · intro w'; go_simp; with_reducible rfl
          · simp only [Act.put, List.setIfInBounds_toArray, List.set_cons_zero, List.set_cons_succ]; rfl
          refine dpure 8 (some 75) rfl rfl (by kernel_rfl) (fun _ _ _ h => h) (by rfl) (v := ?_) (a' := ?_) ?_ ?_ ?_
          rotate_left 2
          · intro w'; go_simp; with_reducible rfl
          · simp only [Act.put, List.setIfInBounds_toArray, List.set_cons_zero, List.set_cons_succ]; rfl
          refine dpure 9 (some 76) rfl rfl (by kernel_rfl) (fun _ _ _ h => h) (by rfl) (v := ?_) (a' := ?_) ?_ ?_ ?_
          rotate_left 2
          · intro w'; go_simp; with_reducible rfl
          · simp only [Act.put, List.setIfInBounds_toArray, List.set_cons_zero, List.set_cons_succ]; rfl
          refine dpure 10 (some 77) rfl rfl (by kernel_rfl) (fun _ _ _ h => h) (by rfl) (v := ?_) (a' := ?_) ?_ ?_ ?_
          rotate_left 2
          · intro w'; go_simp; with_reducible rfl
          · simp only [Act.put, List.setIfInBounds_toArray, List.set_cons_zero, List.set_cons_succ]; rfl
          clear hb hT
          refine wpAnyLast_ready (rs := [11]) (by kernel_rfl) (by simp) (AllReadyL.cons rfl (by decide) (fun K hK => ?_) AllReadyL.nil)
          · skip
            have hla := below_size HI3.out.2
            have hb := below_alloc (Below.refl w3.heap.size w3) (.cells #[.int .u16 0, .int .u16 0, .slice none 0 0, .slice none 0 0, .slice none 0 0, .slice none 0 0] 35 (0, 0))
            have HI4 := Aside0.mk (And.intro (HI3.out.1.below hb) (below_step HI3.out.2 hb))
            have HK4 := Aside0.mk (HK3.out.below hb)
            have HA4 := Aside0.mk (SAt.new w3 #[.int .u16 0, .int .u16 0, .slice none 0 0, .slice none 0 0, .slice none 0 0, .slice none 0 0] 35)
            have HN4 := Nat.ne_of_gt HK3.out.lt
            refine event_step (by kernel_rfl) (v := .pointer (some ⟨w3.heap.size, 0, none⟩)) (w1 := w3.alloc (.cells #[.int .u16 0, .int .u16 0, .slice none 0 0, .slice none 0 0, .slice none 0 0, .slice none 0 0] 35 (0, 0))) (by go_simp; done) ?_
            refine hK _ _ (req_s HI4.out) (fun hS => ?_)
            clear hK K
            refine norm_ (a' := Act.put _ (some 12) (.pointer (some ⟨w3.heap.size, 0, none⟩))) rfl ?_
            refine norm_ (a' := ?_) ?_ ?_
            rotate_left
            · simp only [Act.put, List.setIfInBounds_toArray, List.set_cons_zero, List.set_cons_succ]; rfl
            clear hb
            generalize w3.alloc (.cells #[.int .u16 0, .int .u16 0, .slice none 0 0, .slice none 0 0, .slice none 0 0, .slice none 0 0] 35 (0, 0)) = w4 at *
            generalize w3.heap.size = ba at *
            refine lcast (l' := #[true, true, true, true, true, true, true, true, true, true, true, true, true, false, false, false]) (by kernel_rfl) ?_
            exact JT (vm, vm', vk', ba, bb) w4 ⟨HA4.out, HK4.out, HN4, HI4.out.2, hla, hlb, HT.out⟩
        · skip
          have hla := below_size HI2.out.2
          have hb := below_alloc (Below.refl w2.heap.size w2) (.cells #[.int .u16 0, .int .u16 0, .slice none 0 0, .slice none 0 0, .slice none 0 0, .slice none 0 0] 35 (0, 0))
          have HI3 := Aside0.mk (And.intro (HI2.out.1.below hb) (below_step HI2.out.2 hb))
          have HR3 := Aside0.mk (Kd.R_below HR2.out hb)
          have HK3 := Aside0.mk (HK2.out.below hb)
          have HA3 := Aside0.mk (SAt.new w2 #[.int .u16 0, .int .u16 0, .slice none 0 0, .slice none 0 0, .slice none 0 0, .slice none 0 0] 35)
          have HN3 := Nat.ne_of_gt HK2.out.lt
          refine event_step (by kernel_rfl) (v := .pointer (some ⟨w2.heap.size, 0, none⟩)) (w1 := w2.alloc (.cells #[.int .u16 0, .int .u16 0, .slice none 0 0, .slice none 0 0, .slice none 0 0, .slice none 0 0] 35 (0, 0))) (by go_simp; done) ?_
          refine hK _ _ (req_s HI3.out) (fun hS => ?_)
          clear hK K
          refine norm_ (a' := Act.put _ (some 12) (.pointer (some ⟨w2.heap.size, 0, none⟩))) rfl ?_
          refine norm_ (a' := ?_) ?_ ?_
          rotate_left
          · simp only [Act.put, List.setIfInBounds_toArray, List.set_cons_zero, List.set_cons_succ]; rfl
          clear hb
          generalize w2.alloc (.cells #[.int .u16 0, .int .u16 0, .slice none 0 0, .slice none 0 0, .slice none 0 0, .slice none 0 0] 35 (0, 0)) = w3 at *
          generalize w2.heap.size = ba at *
          refine wpAnyLast_ready (rs := [6]) (by kernel_rfl) (by simp) (AllReadyL.cons rfl (by decide) (fun K hK => ?_) AllReadyL.nil)
          · skip
            refine goes_ Try.func15 (by kernel_rfl) rfl #[.agg #[.string me, .string pa, .string te, .string md, .bool ha, .int .i64 le], .string sL] (by rfl) rfl rfl (by kernel_rfl) ?_
            refine (RL.out _).mono ?_
            rintro e w4 ⟨vm', vk', rfl, hT, hb⟩
            refine ⟨_, rfl, ?_⟩
            have HT := Aside0.mk hT
            have HI4 := Aside0.mk (And.intro (HI3.out.1.below hb) (below_step HI3.out.2 hb))
            have HA4 := Aside0.mk (HA3.out.below hb)
            have HK4 := Aside0.mk (HK3.out.below hb)
            have HN4 := HN3
            refine hK _ _ (req_s HI4.out) (fun hS => ?_)
            clear hK K
            refine norm_ (a' := Act.put _ (some 74) (.tuple #[vm', vk', .int .i64 413])) rfl ?_
            refine norm_ (a' := ?_) ?_ ?_
            rotate_left
            · simp only [Act.put, List.setIfInBounds_toArray, List.set_cons_zero, List.set_cons_succ]; rfl
            refine dpure 7 (some 67) rfl rfl (by kernel_rfl) (fun _ _ _ h => h) (by rfl) (v := ?_) (a' := ?_) ?_ ?_ ?_
            rotate_left 2
            · intro w'; go_simp; with_reducible rfl
            · simp only [Act.put, List.setIfInBounds_toArray, List.set_cons_zero, List.set_cons_succ]; rfl
            refine dpure 8 (some 75) rfl rfl (by kernel_rfl) (fun _ _ _ h => h) (by rfl) (v := ?_) (a' := ?_) ?_ ?_ ?_
            rotate_left 2
            · intro w'; go_simp; with_reducible rfl
            · simp only [Act.put, List.setIfInBounds_toArray, List.set_cons_zero, List.set_cons_succ]; rfl
            refine dpure 9 (some 76) rfl rfl (by kernel_rfl) (fun _ _ _ h => h) (by rfl) (v := ?_) (a' := ?_) ?_ ?_ ?_
            rotate_left 2
            · intro w'; go_simp; with_reducible rfl
            · simp only [Act.put, List.setIfInBounds_toArray, List.set_cons_zero, List.set_cons_succ]; rfl
            refine dpure 10 (some 77) rfl rfl (by kernel_rfl) (fun _ _ _ h => h) (by rfl) (v := ?_) (a' := ?_) ?_ ?_ ?_
            rotate_left 2
            · intro w'; go_simp; with_reducible rfl
            · simp only [Act.put, List.setIfInBounds_toArray, List.set_cons_zero, List.set_cons_succ]; rfl
            clear hb hT
            refine lcast (l' := #[true, true, true, true, true, true, true, true, true, true, true, true, true, false, false, false]) (by kernel_rfl) ?_
            exact JT (vm, vm', vk', ba, bb) w4 ⟨HA4.out, HK4.out, HN4, HI4.out.2, hla, hlb, HT.out⟩
    · skip
      have hla := below_size HI1.out.2
      have hb := below_alloc (Below.refl w1.heap.size w1) (.cells #[.int .u16 0, .int .u16 0, .slice none 0 0, .slice none 0 0, .slice none 0 0, .slice none 0 0] 35 (0, 0))
      have HI2 := Aside0.mk (And.intro (HI1.out.1.below hb) (below_step HI1.out.2 hb))
      have HR2 := Aside0.mk (Kd.R_below HR1.out hb)
      have HA2 := Aside0.mk (SAt.new w1 #[.int .u16 0, .int .u16 0, .slice none 0 0, .slice none 0 0, .slice none 0 0, .slice none 0 0] 35)
      refine event_step (by kernel_rfl) (v := .pointer (some ⟨w1.heap.size, 0, none⟩)) (w1 := w1.alloc (.cells #[.int .u16 0, .int .u16 0, .slice none 0 0, .slice none 0 0, .slice none 0 0, .slice none 0 0] 35 (0, 0))) (by go_simp; done) ?_
      refine hK _ _ (req_s HI2.out) (fun hS => ?_)
      clear hK K
      refine norm_ (a' := Act.put _ (some 12) (.pointer (some ⟨w1.heap.size, 0, none⟩))) rfl ?_
      refine norm_ (a' := ?_) ?_ ?_
      rotate_left
      · simp only [Act.put, List.setIfInBounds_toArray, List.set_cons_zero, List.set_cons_succ]; rfl
      clear hb
      generalize w1.alloc (.cells #[.int .u16 0, .int .u16 0, .slice none 0 0, .slice none 0 0, .slice none 0 0, .slice none 0 0] 35 (0, 0)) = w2 at *
      generalize w1.heap.size = ba at *
      refine wpAnyLast_ready (rs := [5, 12]) (by kernel_rfl) (by simp) (AllReadyL.cons rfl (by decide) (fun K hK => ?_) (AllReadyL.cons rfl (by decide) (fun K hK => ?_) AllReadyL.nil))
      · skip
        have hcv := strOf HR2.out
        rw [hSl] at hcv
        refine event_step (by kernel_rfl) (v := .string sL) (w1 := w2) (by go_simp; done) ?_
        refine hK _ _ (req_s HI2.out) (fun hS => ?_)
        clear hK K
        refine norm_ (a' := Act.put _ (some 73) (.string sL)) rfl ?_
        refine norm_ (a' := ?_) ?_ ?_
        rotate_left
        · simp only [Act.put, List.setIfInBounds_toArray, List.set_cons_zero, List.set_cons_succ]; rfl
        clear hcv
        refine wpAnyLast_ready (rs := [6, 12]) (by kernel_rfl) (by simp) (AllReadyL.cons rfl (by decide) (fun K hK => ?_) (AllReadyL.cons rfl (by decide) (fun K hK => ?_) AllReadyL.nil))
        · skip
          refine goes_ Try.func15 (by kernel_rfl) rfl #[.agg #[.string me, .string pa, .string te, .string md, .bool ha, .int .i64 le], .string sL] (by rfl) rfl rfl (by kernel_rfl) ?_
          refine (RL.out _).mono ?_
          rintro e w3 ⟨vm', vk', rfl, hT, hb⟩
          refine ⟨_, rfl, ?_⟩
          have HT := Aside0.mk hT
          have HI3 := Aside0.mk (And.intro (HI2.out.1.below hb) (below_step HI2.out.2 hb))
          have HA3 := Aside0.mk (HA2.out.below hb)
          refine hK _ _ (req_s HI3.out) (fun hS => ?_)
          clear hK K
          refine norm_ (a' := Act.put _ (some 74) (.tuple #[vm', vk', .int .i64 413])) rfl ?_
          refine norm_ (a' := ?_) ?_ ?_
          rotate_left
          · simp only [Act.put, List.setIfInBounds_toArray, List.set_cons_zero, List.set_cons_succ]; rfl
          refine dpure 7 (some 67) rfl rfl (by kernel_rfl) (fun _ _ _ h => h) (by rfl) (v := ?_) (a' := ?_) ?_ ?_ ?_
          rotate_left 2
          · intro w'; go_simp; with_reducible rfl
          · simp only [Act.put, List.setIfInBounds_toArray, List.set_cons_zero, List.set_cons_succ]; rfl
          refine dpure 8 (some 75) rfl rfl (by kernel_rfl) (fun _ _ _ h => h) (by rfl) (v := ?_) (a' := ?_) ?_ ?_ ?_
          rotate_left 2
          · intro w'; go_simp; with_reducible rfl
          · simp only [Act.put, List.setIfInBounds_toArray, List.set_cons_zero, List.set_cons_succ]; rfl
          refine dpure 9 (some 76) rfl rfl (by kernel_rfl) (fun _ _ _ h => h) (by rfl) (v := ?_) (a' := ?_) ?_ ?_ ?_
          rotate_left 2
          · intro w'; go_simp; with_reducible rfl
          · simp only [Act.put, List.setIfInBounds_toArray, List.set_cons_zero, List.set_cons_succ]; rfl
          refine dpure 10 (some 77) rfl rfl (by kernel_rfl) (fun _ _ _ h => h) (by rfl) (v := ?_) (a' := ?_) ?_ ?_ ?_
          rotate_left 2
          · intro w'; go_simp; with_reducible rfl
          · simp only [Act.put, List.setIfInBounds_toArray, List.set_cons_zero, List.set_cons_succ]; rfl
          clear hb hT
          refine wpAnyLast_ready (rs := [12]) (by kernel_rfl) (by simp) (AllReadyL.cons rfl (by decide) (fun K hK => ?_) AllReadyL.nil)
          · skip
            have hlb := below_size HI3.out.2
            have hb := below_alloc (Below.refl w3.heap.size w3) (.cells #[.string ⟨#[]⟩, .int .u16 0, .int .u16 0, .bool false] 37 (0, 0))
            have HI4 := Aside0.mk (And.intro (HI3.out.1.below hb) (below_step HI3.out.2 hb))
            have HA4 := Aside0.mk (HA3.out.below hb)
            have HK4 := Aside0.mk (SAt.new w3 #[.string ⟨#[]⟩, .int .u16 0, .int .u16 0, .bool false] 37)
            have HN4 := Nat.ne_of_lt HA3.out.lt
            refine event_step (by kernel_rfl) (v := .pointer (some ⟨w3.heap.size, 0, none⟩)) (w1 := w3.alloc (.cells #[.string ⟨#[]⟩, .int .u16 0, .int .u16 0, .bool false] 37 (0, 0))) (by go_simp; done) ?_
            refine hK _ _ (req_s HI4.out) (fun hS => ?_)
            clear hK K
            refine norm_ (a' := Act.put _ (some 13) (.pointer (some ⟨w3.heap.size, 0, none⟩))) rfl ?_
            refine norm_ (a' := ?_) ?_ ?_
            rotate_left
            · simp only [Act.put, List.setIfInBounds_toArray, List.set_cons_zero, List.set_cons_succ]; rfl
            clear hb
            generalize w3.alloc (.cells #[.string ⟨#[]⟩, .int .u16 0, .int .u16 0, .bool false] 37 (0, 0)) = w4 at *
            generalize w3.heap.size = bb at *
            refine lcast (l' := #[true, true, true, true, true, true, true, true, true, true, true, true, true, false, false, false]) (by kernel_rfl) ?_
            exact JT (vm, vm', vk', ba, bb) w4 ⟨HA4.out, HK4.out, HN4, HI4.out.2, hla, hlb, HT.out⟩
        · skip
          have hlb := below_size HI2.out.2
          have hb := below_alloc (Below.refl w2.heap.size w2) (.cells #[.string ⟨#[]⟩, .int .u16 0, .int .u16 0, .bool false] 37 (0, 0))
          have HI3 := Aside0.mk (And.intro (HI2.out.1.below hb) (below_step HI2.out.2 hb))
          have HR3 := Aside0.mk (Kd.R_below HR2.out hb)
          have HA3 := Aside0.mk (HA2.out.below hb)
          have HK3 := Aside0.mk (SAt.new w2 #[.string ⟨#[]⟩, .int .u16 0, .int .u16 0, .bool false] 37)
          have HN3 := Nat.ne_of_lt HA2.out.lt
          refine event_step (by kernel_rfl) (v := .pointer (some ⟨w2.heap.size, 0, none⟩)) (w1 := w2.alloc (.cells #[.string ⟨#[]⟩, .int .u16 0, .int .u16 0, .bool false] 37 (0, 0))) (by go_simp; done) ?_
          refine hK _ _ (req_s HI3.out) (fun hS => ?_)
          clear hK K
          refine norm_ (a' := Act.put _ (some 13) (.pointer (some ⟨w2.heap.size, 0, none⟩))) rfl ?_
          refine norm_ (a' := ?_) ?_ ?_
          rotate_left
          · simp only [Act.put, List.setIfInBounds_toArray, List.set_cons_zero, List.set_cons_succ]; rfl
          clear hb
          generalize w2.alloc (.cells #[.string ⟨#[]⟩, .int .u16 0, .int .u16 0, .bool false] 37 (0, 0)) = w3 at *
          generalize w2.heap.size = bb at *
          refine wpAnyLast_ready (rs := [6]) (by kernel_rfl) (by simp) (AllReadyL.cons rfl (by decide) (fun K hK => ?_) AllReadyL.nil)
          · skip
            refine goes_ Try.func15 (by kernel_rfl) rfl #[.agg #[.string me, .string pa, .string te, .string md, .bool ha, .int .i64 le], .string sL] (by rfl) rfl rfl (by kernel_rfl) ?_
            refine (RL.out _).mono ?_
            rintro e w4 ⟨vm', vk', rfl, hT, hb⟩
            refine ⟨_, rfl, ?_⟩
            have HT := Aside0.mk hT
            have HI4 := Aside0.mk (And.intro (HI3.out.1.below hb) (below_step HI3.out.2 hb))
            have HA4 := Aside0.mk (HA3.out.below hb)
            have HK4 := Aside0.mk (HK3.out.below hb)
            have HN4 := HN3
            refine hK _ _ (req_s HI4.out) (fun hS => ?_)
            clear hK K
            refine norm_ (a' := Act.put _ (some 74) (.tuple #[vm', vk', .int .i64 413])) rfl ?_
            refine norm_ (a' := ?_) ?_ ?_
            rotate_left
            · simp only [Act.put, List.setIfInBounds_toArray, List.set_cons_zero, List.set_cons_succ]; rfl
            refine dpure 7 (some 67) rfl rfl (by kernel_rfl) (fun _ _ _ h => h) (by rfl) (v := ?_) (a' := ?_) ?_ ?_ ?_
            rotate_left 2
            · intro w'; go_simp; with_reducible rfl
            · simp only [Act.put, List.setIfInBounds_toArray, List.set_cons_zero, List.set_cons_succ]; rfl
            refine dpure 8 (some 75) rfl rfl (by kernel_rfl) (fun _ _ _ h => h) (by rfl) (v := ?_) (a' := ?_) ?_ ?_ ?_
            rotate_left 2
            · intro w'; go_simp; with_reducible rfl
            · simp only [Act.put, List.setIfInBounds_toArray, List.set_cons_zero, List.set_cons_succ]; rfl
            refine dpure 9 (some 76) rfl rfl (by kernel_rfl) (fun _ _ _ h => h) (by rfl) (v := ?_) (a' := ?_) ?_ ?_ ?_
            rotate_left 2
            · intro w'; go_simp; with_reducible rfl
            · simp only [Act.put, List.setIfInBounds_toArray, List.set_cons_zero, List.set_cons_succ]; rfl
            refine dpure 10 (some 77) rfl rfl (by kernel_rfl) (fun _ _ _ h => h) (by rfl) (v := ?_) (a' := ?_) ?_ ?_ ?_
            rotate_left 2
            · intro w'; go_simp; with_reducible rfl
            · simp only [Act.put, List.setIfInBounds_toArray, List.set_cons_zero, List.set_cons_succ]; rfl
            clear hb hT
            refine lcast (l' := #[true, true, true, true, true, true, true, true, true, true, true, true, true, false, false, false]) (by kernel_rfl) ?_
            exact JT (vm, vm', vk', ba, bb) w4 ⟨HA4.out, HK4.out, HN4, HI4.out.2, hla, hlb, HT.out⟩
      · skip
        have hlb := below_size HI2.out.2
        have hb := below_alloc (Below.refl w2.heap.size w2) (.cells #[.string ⟨#[]⟩, .int .u16 0, .int .u16 0, .bool false] 37 (0, 0))
        have HI3 := Aside0.mk (And.intro (HI2.out.1.below hb) (below_step HI2.out.2 hb))
        have HR3 := Aside0.mk (Kd.R_below HR2.out hb)
        have HA3 := Aside0.mk (HA2.out.below hb)
        have HK3 := Aside0.mk (SAt.new w2 #[.string ⟨#[]⟩, .int .u16 0, .int .u16 0, .bool false] 37)
        have HN3 := Nat.ne_of_lt HA2.out.lt
        refine event_step (by kernel_rfl) (v := .pointer (some ⟨w2.heap.size, 0, none⟩)) (w1 := w2.alloc (.cells #[.string ⟨#[]⟩, .int .u16 0, .int .u16 0, .bool false] 37 (0, 0))) (by go_simp; done) ?_
        refine hK _ _ (req_s HI3.out) (fun hS => ?_)
        clear hK K
        refine norm_ (a' := Act.put _ (some 13) (.pointer (some ⟨w2.heap.size, 0, none⟩))) rfl ?_
        refine norm_ (a' := ?_) ?_ ?_
        rotate_left
        · simp only [Act.put, List.setIfInBounds_toArray, List.set_cons_zero, List.set_cons_succ]; rfl
        clear hb
        generalize w2.alloc (.cells #[.string ⟨#[]⟩, .int .u16 0, .int .u16 0, .bool false] 37 (0, 0)) = w3 at *
        generalize w2.heap.size = bb at *
        refine wpAnyLast_ready (rs := [5]) (by kernel_rfl) (by simp) (AllReadyL.cons rfl (by decide) (fun K hK => ?_) AllReadyL.nil)
        · skip
          have hcv := strOf HR3.out
          rw [hSl] at hcv
          refine event_step (by kernel_rfl) (v := .string sL) (w1 := w3) (by go_simp; done) ?_
          refine hK _ _ (req_s HI3.out) (fun hS => ?_)
          clear hK K
          refine norm_ (a' := Act.put _ (some 73) (.string sL)) rfl ?_
          refine norm_ (a' := ?_) ?_ ?_
          rotate_left
          · simp only [Act.put, List.setIfInBounds_toArray, List.set_cons_zero, List.set_cons_succ]; rfl
          clear hcv
          refine wpAnyLast_ready (rs := [6]) (by kernel_rfl) (by simp) (AllReadyL.cons rfl (by decide) (fun K hK => ?_) AllReadyL.nil)
          · skip
            refine goes_ Try.func15 (by kernel_rfl) rfl #[.agg #[.string me, .string pa, .string te, .string md, .bool ha, .int .i64 le], .string sL] (by rfl) rfl rfl (by kernel_rfl) ?_
            refine (RL.out _).mono ?_
            rintro e w4 ⟨vm', vk', rfl, hT, hb⟩
            refine ⟨_, rfl, ?_⟩
            have HT := Aside0.mk hT
            have HI4 := Aside0.mk (And.intro (HI3.out.1.below hb) (below_step HI3.out.2 hb))
            have HA4 := Aside0.mk (HA3.out.below hb)
            have HK4 := Aside0.mk (HK3.out.below hb)
            have HN4 := HN3
            refine hK _ _ (req_s HI4.out) (fun hS => ?_)
            clear hK K
            refine norm_ (a' := Act.put _ (some 74) (.tuple #[vm', vk', .int .i64 413])) rfl ?_
            refine norm_ (a' := ?_) ?_ ?_
            rotate_left
            · simp only [Act.put, List.setIfInBounds_toArray, List.set_cons_zero, List.set_cons_succ]; rfl
            refine dpure 7 (some 67) rfl rfl (by kernel_rfl) (fun _ _ _ h => h) (by rfl) (v := ?_) (a' := ?_) ?_ ?_ ?_
            rotate_left 2
            · intro w'; go_simp; with_reducible rfl
            · simp only [Act.put, List.setIfInBounds_toArray, List.set_cons_zero, List.set_cons_succ]; rfl
            refine dpure 8 (some 75) rfl rfl (by kernel_rfl) (fun _ _ _ h => h) (by rfl) (v := ?_) (a' := ?_) ?_ ?_ ?_
            rotate_left 2
            · intro w'; go_simp; with_reducible rfl
            · simp only [Act.put, List.setIfInBounds_toArray, List.set_cons_zero, List.set_cons_succ]; rfl
            refine dpure 9 (some 76) rfl rfl (by kernel_rfl) (fun _ _ _ h => h) (by rfl) (v := ?_) (a' := ?_) ?_ ?_ ?_
            rotate_left 2
            · intro w'; go_simp; with_reducible rfl
            · simp only [Act.put, List.setIfInBounds_toArray, List.set_cons_zero, List.set_cons_succ]; rfl
            refine dpure 10 (some 77) rfl rfl (by kernel_rfl) (fun _ _ _ h => h) (by rfl) (v := ?_) (a' := ?_) ?_ ?_ ?_
            rotate_left 2
            · intro w'; go_simp; with_reducible rfl
            · simp only [Act.put, List.setIfInBounds_toArray, List.set_cons_zero, List.set_cons_succ]; rfl
            clear hb hT
            refine lcast (l' := #[true, true, true, true, true, true, true, true, true, true, true, true, true, false, false, false]) (by kernel_rfl) ?_
            exact JT (vm, vm', vk', ba, bb) w4 ⟨HA4.out, HK4.out, HN4, HI4.out.2, hla, hlb, HT.out⟩
    · skip
      have hlb := below_size HI1.out.2
      have hb := below_alloc (Below.refl w1.heap.size w1) (.cells #[.string ⟨#[]⟩, .int .u16 0, .int .u16 0, .bool false] 37 (0, 0))
      have HI2 := Aside0.mk (And.intro (HI1.out.1.below hb) (below_step HI1.out.2 hb))
      have HR2 := Aside0.mk (Kd.R_below HR1.out hb)
      have HK2 := Aside0.mk (SAt.new w1 #[.string ⟨#[]⟩, .int .u16 0, .int .u16 0, .bool false] 37)
      refine event_step (by kernel_rfl) (v := .pointer (some ⟨w1.heap.size, 0, none⟩)) (w1 := w1.alloc (.cells #[.string ⟨#[]⟩, .int .u16 0, .int .u16 0, .bool false] 37 (0, 0))) (by go_simp; done) ?_
      refine hK _ _ (req_s HI2.out) (fun hS => ?_)
      clear hK K
      refine norm_ (a' := Act.put _ (some 13) (.pointer (some ⟨w1.heap.size, 0, none⟩))) rfl ?_
      refine norm_ (a' := ?_) ?_ ?_
      rotate_left
      · simp only [Act.put, List.setIfInBounds_toArray, List.set_cons_zero, List.set_cons_succ]; rfl
      clear hb
      generalize w1.alloc (.cells #[.string ⟨#[]⟩, .int .u16 0, .int .u16 0, .bool false] 37 (0, 0)) = w2 at *
      generalize w1.heap.size = bb at *
      refine wpAnyLast_ready (rs := [5, 11]) (by kernel_rfl) (by simp) (AllReadyL.cons rfl (by decide) (fun K hK => ?_) (AllReadyL.cons rfl (by decide) (fun K hK => ?_) AllReadyL.nil))
      · skip
        have hcv := strOf HR2.out
        rw [hSl] at hcv
        refine event_step (by kernel_rfl) (v := .string sL) (w1 := w2) (by go_simp; done) ?_
        refine hK _ _ (req_s HI2.out) (fun hS => ?_)
        clear hK K
        refine norm_ (a' := Act.put _ (some 73) (.string sL)) rfl ?_
        refine norm_ (a' := ?_) ?_ ?_
        rotate_left
        · simp only [Act.put, List.setIfInBounds_toArray, List.set_cons_zero, List.set_cons_succ]; rfl
        clear hcv
        refine wpAnyLast_ready (rs := [6, 11]) (by kernel_rfl) (by simp) (AllReadyL.cons rfl (by decide) (fun K hK => ?_) (AllReadyL.cons rfl (by decide) (fun K hK => ?_) AllReadyL.nil))
        · skip
          refine goes_ Try.func15 (by kernel_rfl) rfl #[.agg #[.string me, .string pa, .string te, .string md, .bool ha, .int .i64 le], .string sL] (by rfl) rfl rfl (by kernel_rfl) ?_
          refine (RL.out _).mono ?_
          rintro e w3 ⟨vm', vk', rfl, hT, hb⟩
          refine ⟨_, rfl, ?_⟩
          have HT := Aside0.mk hT
          have HI3 := Aside0.mk (And.intro (HI2.out.1.below hb) (below_step HI2.out.2 hb))
          have HK3 := Aside0.mk (HK2.out.below hb)
          refine hK _ _ (req_s HI3.out) (fun hS => ?_)
          clear hK K
          refine norm_ (a' := Act.put _ (some 74) (.tuple #[vm', vk', .int .i64 413])) rfl ?_
          refine norm_ (a' := ?_) ?_ ?_
          rotate_left
          · simp only [Act.put, List.setIfInBounds_toArray, List.set_cons_zero, List.set_cons_succ]; rfl
          refine dpure 7 (some 67) rfl rfl (by kernel_rfl) (fun _ _ _ h => h) (by rfl) (v := ?_) (a' := ?_) ?_ ?_ ?_
          rotate_left 2
          · intro w'; go_simp; with_reducible rfl
          · simp only [Act.put, List.setIfInBounds_toArray, List.set_cons_zero, List.set_cons_succ]; rfl
          refine dpure 8 (some 75) rfl rfl (by kernel_rfl) (fun _ _ _ h => h) (by rfl) (v := ?_) (a' := ?_) ?_ ?_ ?_
          rotate_left 2
          · intro w'; go_simp; with_reducible rfl
          · simp only [Act.put, List.setIfInBounds_toArray, List.set_cons_zero, List.set_cons_succ]; rfl
          refine dpure 9 (some 76) rfl rfl (by kernel_rfl) (fun _ _ _ h => h) (by rfl) (v := ?_) (a' := ?_) ?_ ?_ ?_
          rotate_left 2
          · intro w'; go_simp; with_reducible rfl
          · simp only [Act.put, List.setIfInBounds_toArray, List.set_cons_zero, List.set_cons_succ]; rfl
          refine dpure 10 (some 77) rfl rfl (by kernel_rfl) (fun _ _ _ h => h) (by rfl) (v := ?_) (a' := ?_) ?_ ?_ ?_
          rotate_left 2
          · intro w'; go_simp; with_reducible rfl
          · simp only [Act.put, List.setIfInBounds_toArray, List.set_cons_zero, List.set_cons_succ]; rfl
          clear hb hT
          refine wpAnyLast_ready (rs := [11]) (by kernel_rfl) (by simp) (AllReadyL.cons rfl (by decide) (fun K hK => ?_) AllReadyL.nil)
          · skip
            have hla := below_size HI3.out.2
            have hb := below_alloc (Below.refl w3.heap.size w3) (.cells #[.int .u16 0, .int .u16 0, .slice none 0 0, .slice none 0 0, .slice none 0 0, .slice none 0 0] 35 (0, 0))
            have HI4 := Aside0.mk (And.intro (HI3.out.1.below hb) (below_step HI3.out.2 hb))
            have HK4 := Aside0.mk (HK3.out.below hb)
            have HA4 := Aside0.mk (SAt.new w3 #[.int .u16 0, .int .u16 0, .slice none 0 0, .slice none 0 0, .slice none 0 0, .slice none 0 0] 35)
            have HN4 := Nat.ne_of_gt HK3.out.lt
            refine event_step (by kernel_rfl) (v := .pointer (some ⟨w3.heap.size, 0, none⟩)) (w1 := w3.alloc (.cells #[.int .u16 0, .int .u16 0, .slice none 0 0, .slice none 0 0, .slice none 0 0, .slice none 0 0] 35 (0, 0))) (by go_simp; done) ?_
            refine hK _ _ (req_s HI4.out) (fun hS => ?_)
            clear hK K
            refine norm_ (a' := Act.put _ (some 12) (.pointer (some ⟨w3.heap.size, 0, none⟩))) rfl ?_
            refine norm_ (a' := ?_) ?_ ?_
            rotate_left
            · simp only [Act.put, List.setIfInBounds_toArray, List.set_cons_zero, List.set_cons_succ]; rfl
            clear hb
            generalize w3.alloc (.cells #[.int .u16 0, .int .u16 0, .slice none 0 0, .slice none 0 0, .slice none 0 0, .slice none 0 0] 35 (0, 0)) = w4 at *
            generalize w3.heap.size = ba at *
            refine lcast (l' := #[true, true, true, true, true, true, true, true, true, true, true, true, true, false, false, false]) (by kernel_rfl) ?_
            exact JT (vm, vm', vk', ba, bb) w4 ⟨HA4.out, HK4.out, HN4, HI4.out.2, hla, hlb, HT.out⟩
        · skip
          have hla := below_size HI2.out.2
          have hb := below_alloc (Below.refl w2.heap.size w2) (.cells #[.int .u16 0, .int .u16 0, .slice none 0 0, .slice none 0 0, .slice none 0 0, .slice none 0 0] 35 (0, 0))
          have HI3 := Aside0.mk (And.intro (HI2.out.1.below hb) (below_step HI2.out.2 hb))
          have HR3 := Aside0.mk (Kd.R_below HR2.out hb)
          have HK3 := Aside0.mk (HK2.out.below hb)
          have HA3 := Aside0.mk (SAt.new w2 #[.int .u16 0, .int .u16 0, .slice none 0 0, .slice none 0 0, .slice none 0 0, .slice none 0 0] 35)
          have HN3 := Nat.ne_of_gt HK2.out.lt
          refine event_step (by kernel_rfl) (v := .pointer (some ⟨w2.heap.size, 0, none⟩)) (w1 := w2.alloc (.cells #[.int .u16 0, .int .u16 0, .slice none 0 0, .slice none 0 0, .slice none 0 0, .slice none 0 0] 35 (0, 0))) (by go_simp; done) ?_
          refine hK _ _ (req_s HI3.out) (fun hS => ?_)
          clear hK K
          refine norm_ (a' := Act.put _ (some 12) (.pointer (some ⟨w2.heap.size, 0, none⟩))) rfl ?_
          refine norm_ (a' := ?_) ?_ ?_
          rotate_left
          · simp only [Act.put, List.setIfInBounds_toArray, List.set_cons_zero, List.set_cons_succ]; rfl
          clear hb
          generalize w2.alloc (.cells #[.int .u16 0, .int .u16 0, .slice none 0 0, .slice none 0 0, .slice none 0 0, .slice none 0 0] 35 (0, 0)) = w3 at *
          generalize w2.heap.size = ba at *
          refine wpAnyLast_ready (rs := [6]) (by kernel_rfl) (by simp) (AllReadyL.cons rfl (by decide) (fun K hK => ?_) AllReadyL.nil)
          · skip
            refine goes_ Try.func15 (by kernel_rfl) rfl #[.agg #[.string me, .string pa, .string te, .string md, .bool ha, .int .i64 le], .string sL] (by rfl) rfl rfl (by kernel_rfl) ?_
            refine (RL.out _).mono ?_
            rintro e w4 ⟨vm', vk', rfl, hT, hb⟩
            refine ⟨_, rfl, ?_⟩
            have HT := Aside0.mk hT
            have HI4 := Aside0.mk (And.intro (HI3.out.1.below hb) (below_step HI3.out.2 hb))
            have HA4 := Aside0.mk (HA3.out.below hb)
            have HK4 := Aside0.mk (HK3.out.below hb)
            have HN4 := HN3
            refine hK _ _ (req_s HI4.out) (fun hS => ?_)
            clear hK K
            refine norm_ (a' := Act.put _ (some 74) (.tuple #[vm', vk', .int .i64 413])) rfl ?_
            refine norm_ (a' := ?_) ?_ ?_
            rotate_left
            · simp only [Act.put, List.setIfInBounds_toArray, List.set_cons_zero, List.set_cons_succ]; rfl
            refine dpure 7 (some 67) rfl rfl (by kernel_rfl) (fun _ _ _ h => h) (by rfl) (v := ?_) (a' := ?_) ?_ ?_ ?_
            rotate_left 2
            · intro w'; go_simp; with_reducible rfl
            · simp only [Act.put, List.setIfInBounds_toArray, List.set_cons_zero, List.set_cons_succ]; rfl
            refine dpure 8 (some 75) rfl rfl (by kernel_rfl) (fun _ _ _ h => h) (by rfl) (v := ?_) (a' := ?_) ?_ ?_ ?_
            rotate_left 2
            · intro w'; go_simp; with_reducible rfl
            · simp only [Act.put, List.setIfInBounds_toArray, List.set_cons_zero, List.set_cons_succ]; rfl
            refine dpure 9 (some 76) rfl rfl (by kernel_rfl) (fun _ _ _ h => h) (by rfl) (v := ?_) (a' := ?_) ?_ ?_ ?_
            rotate_left 2
            · intro w'; go_simp; with_reducible rfl
            · simp only [Act.put, List.setIfInBounds_toArray, List.set_cons_zero, List.set_cons_succ]; rfl
            refine dpure 10 (some 77) rfl rfl (by kernel_rfl) (fun _ _ _ h => h) (by rfl) (v := ?_) (a' := ?_) ?_ ?_ ?_
            rotate_left 2
            · intro w'; go_simp; with_reducible rfl
            · simp only [Act.put, List.setIfInBounds_toArray, List.set_cons_zero, List.set_cons_succ]; rfl
            clear hb hT
            refine lcast (l' := #[true, true, true, true, true, true, true, true, true, true, true, true, true, false, false, false]) (by kernel_rfl) ?_
            exact JT (vm, vm', vk', ba, bb) w4 ⟨HA4.out, HK4.out, HN4, HI4.out.2, hla, hlb, HT.out⟩
      · skip
        have hla := below_size HI2.out.2
        have hb := below_alloc (Below.refl w2.heap.size w2) (.cells #[.int .u16 0, .int .u16 0, .slice none 0 0, .slice none 0 0, .slice none 0 0, .slice none 0 0] 35 (0, 0))
        have HI3 := Aside0.mk (And.intro (HI2.out.1.below hb) (below_step HI2.out.2 hb))
        have HR3 := Aside0.mk (Kd.R_below HR2.out hb)
        have HK3 := Aside0.mk (HK2.out.below hb)
        have HA3 := Aside0.mk (SAt.new w2 #[.int .u16 0, .int .u16 0, .slice none 0 0, .slice none 0 0, .slice none 0 0, .slice none 0 0] 35)
        have HN3 := Nat.ne_of_gt HK2.out.lt
        refine event_step (by kernel_rfl) (v := .pointer (some ⟨w2.heap.size, 0, none⟩)) (w1 := w2.alloc (.cells #[.int .u16 0, .int .u16 0, .slice none 0 0, .slice none 0 0, .slice none 0 0, .slice none 0 0] 35 (0, 0))) (by go_simp; done) ?_
        refine hK _ _ (req_s HI3.out) (fun hS => ?_)
        clear hK K
        refine norm_ (a' := Act.put _ (some 12) (.pointer (some ⟨w2.heap.size, 0, none⟩))) rfl ?_
        refine norm_ (a' := ?_) ?_ ?_
        rotate_left
        · simp only [Act.put, List.setIfInBounds_toArray, List.set_cons_zero, List.set_cons_succ]; rfl
        clear hb
        generalize w2.alloc (.cells #[.int .u16 0, .int .u16 0, .slice none 0 0, .slice none 0 0, .slice none 0 0, .slice none 0 0] 35 (0, 0)) = w3 at *
        generalize w2.heap.size = ba at *
        refine wpAnyLast_ready (rs := [5]) (by kernel_rfl) (by simp) (AllReadyL.cons rfl (by decide) (fun K hK => ?_) AllReadyL.nil)
        · skip
          have hcv := strOf HR3.out
          rw [hSl] at hcv
          refine event_step (by kernel_rfl) (v := .string sL) (w1 := w3) (by go_simp; done) ?_
          refine hK _ _ (req_s HI3.out) (fun hS => ?_)
          clear hK K
          refine norm_ (a' := Act.put _ (some 73) (.string sL)) rfl ?_
          refine norm_ (a' := ?_) ?_ ?_
          rotate_left
          · simp only [Act.put, List.setIfInBounds_toArray, List.set_cons_zero, List.set_cons_succ]; rfl
          clear hcv
          refine wpAnyLast_ready (rs := [6]) (by kernel_rfl) (by simp) (AllReadyL.cons rfl (by decide) (fun K hK => ?_) AllReadyL.nil)
          · skip
            refine goes_ Try.func15 (by kernel_rfl) rfl #[.agg #[.string me, .string pa, .string te, .string md, .bool ha, .int .i64 le], .string sL] (by rfl) rfl rfl (by kernel_rfl) ?_
            refine (RL.out _).mono ?_
            rintro e w4 ⟨vm', vk', rfl, hT, hb⟩
            refine ⟨_, rfl, ?_⟩
            have HT := Aside0.mk hT
            have HI4 := Aside0.mk (And.intro (HI3.out.1.below hb) (below_step HI3.out.2 hb))
            have HA4 := Aside0.mk (HA3.out.below hb)
            have HK4 := Aside0.mk (HK3.out.below hb)
            have HN4 := HN3
            refine hK _ _ (req_s HI4.out) (fun hS => ?_)
            clear hK K
            refine norm_ (a' := Act.put _ (some 74) (.tuple #[vm', vk', .int .i64 413])) rfl ?_
            refine norm_ (a' := ?_) ?_ ?_
            rotate_left
            · simp only [Act.put, List.setIfInBounds_toArray, List.set_cons_zero, List.set_cons_succ]; rfl
            refine dpure 7 (some 67) rfl rfl (by kernel_rfl) (fun _ _ _ h => h) (by rfl) (v := ?_) (a' := ?_) ?_ ?_ ?_
            rotate_left 2
            · intro w'; go_simp; with_reducible rfl
            · simp only [Act.put, List.setIfInBounds_toArray, List.set_cons_zero, List.set_cons_succ]; rfl
            refine dpure 8 (some 75) rfl rfl (by kernel_rfl) (fun _ _ _ h => h) (by rfl) (v := ?_) (a' := ?_) ?_ ?_ ?_
            rotate_left 2
            · intro w'; go_simp; with_reducible rfl
            · simp only [Act.put, List.setIfInBounds_toArray, List.set_cons_zero, List.set_cons_succ]; rfl
            refine dpure 9 (some 76) rfl rfl (by kernel_rfl) (fun _ _ _ h => h) (by rfl) (v := ?_) (a' := ?_) ?_ ?_ ?_
            rotate_left 2
            · intro w'; go_simp; with_reducible rfl
            · simp only [Act.put, List.setIfInBounds_toArray, List.set_cons_zero, List.set_cons_succ]; rfl
            refine dpure 10 (some 77) rfl rfl (by kernel_rfl) (fun _ _ _ h => h) (by rfl) (v := ?_) (a' := ?_) ?_ ?_ ?_
            rotate_left 2
            · intro w'; go_simp; with_reducible rfl
            · simp only [Act.put, List.setIfInBounds_toArray, List.set_cons_zero, List.set_cons_succ]; rfl
            clear hb hT
            refine lcast (l' := #[true, true, true, true, true, true, true, true, true, true, true, true, true, false, false, false]) (by kernel_rfl) ?_
            exact JT (vm, vm', vk', ba, bb) w4 ⟨HA4.out, HK4.out, HN4, HI4.out.2, hla, hlb, HT.out⟩
  · skip
    have hla := below_size HI0.out.2
    have hb := below_alloc (Below.refl w0.heap.size w0) (.cells #[.int .u16 0, .int .u16 0, .slice none 0 0, .slice none 0 0, .slice none 0 0, .slice none 0 0] 35 (0, 0))
    have HI1 := Aside0.mk (And.intro (HI0.out.1.below hb) (below_step HI0.out.2 hb))
    have HA1 := Aside0.mk (SAt.new w0 #[.int .u16 0, .int .u16 0, .slice none 0 0, .slice none 0 0, .slice none 0 0, .slice none 0 0] 35)
    refine event_step (by kernel_rfl) (v := .pointer (some ⟨w0.heap.size, 0, none⟩)) (w1 := w0.alloc (.cells #[.int .u16 0, .int .u16 0, .slice none 0 0, .slice none 0 0, .slice none 0 0, .slice none 0 0] 35 (0, 0))) (by go_simp; done) ?_
    refine hK _ _ (req_s HI1.out) (fun hS => ?_)
    clear hK K
    refine norm_ (a' := Act.put _ (some 12) (.pointer (some ⟨w0.heap.size, 0, none⟩))) rfl ?_
    refine norm_ (a' := ?_) ?_ ?_
    rotate_left
    · simp only [Act.put, List.setIfInBounds_toArray, List.set_cons_zero, List.set_cons_succ]; rfl
    clear hb
    generalize w0.alloc (.cells #[.int .u16 0, .int .u16 0, .slice none 0 0, .slice none 0 0, .slice none 0 0, .slice none 0 0] 35 (0, 0)) = w1 at *
    generalize w0.heap.size = ba at *
    refine wpAnyLast_ready (rs := [4, 12]) (by kernel_rfl) (by simp) (AllReadyL.cons rfl (by decide) (fun K hK => ?_) (AllReadyL.cons rfl (by decide) (fun K hK => ?_) AllReadyL.nil))
    · skip
      refine Kd.R_make_step (Kd.int .u8) (w0 := W) W.heap.size 5 (by kernel_rfl) rfl 48 (.tmp 71) (.tmp 71) rfl (65536 + more) (by rfl) (by rfl) Try.underlying48 (.int .u8 0) 1 info8 rfl (by decide) (by decide) 0 (ok := fun _ => True) (okp := fun _ => True) rfl (fun _ h => h) trivial (by omega) (by omega) HI1.out.2 HI1.out.2.size ?_
      intro vm w2 hr hbB hg hat
      obtain ⟨As, cs, rfl⟩ := Kd.R_slice hr
      have HI2 := Aside0.mk (And.intro (HI1.out.1.grown hg) (hbB))
      have HA2 := Aside0.mk (HA1.out.grown hg)
      have HR2 := Aside0.mk hr
      obtain ⟨vm, hvm⟩ : ∃ vm, Value.slice As (List.replicate (65536 + more).toNat (0 : Int)).length cs = vm := ⟨_, rfl⟩
      rw [hvm] at HR2 ⊢
      clear hr hbB hg hat
      refine hK _ _ (req_s HI2.out) (fun hS => ?_)
      clear hK K
      refine norm_ (a' := Act.put _ (some 72) vm) rfl ?_
      refine norm_ (a' := ?_) ?_ ?_
      rotate_left
      · simp only [Act.put, List.setIfInBounds_toArray, List.set_cons_zero, List.set_cons_succ]; rfl
      clear hvm
      refine wpAnyLast_ready (rs := [5, 12]) (by kernel_rfl) (by simp) (AllReadyL.cons rfl (by decide) (fun K hK => ?_) (AllReadyL.cons rfl (by decide) (fun K hK => ?_) AllReadyL.nil))
      · skip
        have hcv := strOf HR2.out
        rw [hSl] at hcv
        refine event_step (by kernel_rfl) (v := .string sL) (w1 := w2) (by go_simp; done) ?_
        refine hK _ _ (req_s HI2.out) (fun hS => ?_)
        clear hK K
        refine norm_ (a' := Act.put _ (some 73) (.string sL)) rfl ?_
        refine norm_ (a' := ?_) ?_ ?_
        rotate_left
        · simp only [Act.put, List.setIfInBounds_toArray, List.set_cons_zero, List.set_cons_succ]; rfl
        clear hcv
        refine wpAnyLast_ready (rs := [6, 12]) (by kernel_rfl) (by simp) (AllReadyL.cons rfl (by decide) (fun K hK => ?_) (AllReadyL.cons rfl (by decide) (fun K hK => ?_) AllReadyL.nil))
        · skip
          refine goes_ Try.func15 (by kernel_rfl) rfl #[.agg #[.string me, .string pa, .string te, .string md, .bool ha, .int .i64 le], .string sL] (by rfl) rfl rfl (by kernel_rfl) ?_
          refine (RL.out _).mono ?_
          rintro e w3 ⟨vm', vk', rfl, hT, hb⟩
          refine ⟨_, rfl, ?_⟩
          have HT := Aside0.mk hT
          have HI3 := Aside0.mk (And.intro (HI2.out.1.below hb) (below_step HI2.out.2 hb))
          have HA3 := Aside0.mk (HA2.out.below hb)
          refine hK _ _ (req_s HI3.out) (fun hS => ?_)
          clear hK K
          refine norm_ (a' := Act.put _ (some 74) (.tuple #[vm', vk', .int .i64 413])) rfl ?_
          refine norm_ (a' := ?_) ?_ ?_
          rotate_left
          · simp only [Act.put, List.setIfInBounds_toArray, List.set_cons_zero, List.set_cons_succ]; rfl
          refine dpure 7 (some 67) rfl rfl (by kernel_rfl) (fun _ _ _ h => h) (by rfl) (v := ?_) (a' := ?_) ?_ ?_ ?_
          rotate_left 2
          · intro w'; go_simp; with_reducible rfl
          · simp only [Act.put, List.setIfInBounds_toArray, List.set_cons_zero, List.set_cons_succ]; rfl
          refine dpure 8 (some 75) rfl rfl (by kernel_rfl) (fun _ _ _ h => h) (by rfl) (v := ?_) (a' := ?_) ?_ ?_ ?_
          rotate_left 2
          · intro w'; go_simp; with_reducible rfl
          · simp only [Act.put, List.setIfInBounds_toArray, List.set_cons_zero, List.set_cons_succ]; rfl
          refine dpure 9 (some 76) rfl rfl (by kernel_rfl) (fun _ _ _ h => h) (by rfl) (v := ?_) (a' := ?_) ?_ ?_ ?_
          rotate_left 2
          · intro w'; go_simp; with_reducible rfl
          · simp only [Act.put, List.setIfInBounds_toArray, List.set_cons_zero, List.set_cons_succ]; rfl
          refine dpure 10 (some 77) rfl rfl (by kernel_rfl) (fun _ _ _ h => h) (by rfl) (v := ?_) (a' := ?_) ?_ ?_ ?_
          rotate_left 2
          · intro w'; go_simp; with_reducible rfl
          · simp only [Act.put, List.setIfInBounds_toArray, List.set_cons_zero, List.set_cons_succ]; rfl
          clear hb hT
          refine wpAnyLast_ready (rs := [12]) (by kernel_rfl) (by simp) (AllReadyL.cons rfl (by decide) (fun K hK => ?_) AllReadyL.nil)
          · skip
            have hlb := below_size HI3.out.2
            have hb := below_alloc (Below.refl w3.heap.size w3) (.cells #[.string ⟨#[]⟩, .int .u16 0, .int .u16 0, .bool false] 37 (0, 0))
            have HI4 := Aside0.mk (And.intro (HI3.out.1.below hb) (below_step HI3.out.2 hb))
            have HA4 := Aside0.mk (HA3.out.below hb)
            have HK4 := Aside0.mk (SAt.new w3 #[.string ⟨#[]⟩, .int .u16 0, .int .u16 0, .bool false] 37)
            have HN4 := Nat.ne_of_lt HA3.out.lt
            refine event_step (by kernel_rfl) (v := .pointer (some ⟨w3.heap.size, 0, none⟩)) (w1 := w3.alloc (.cells #[.string ⟨#[]⟩, .int .u16 0, .int .u16 0, .bool false] 37 (0, 0))) (by go_simp; done) ?_
            refine hK _ _ (req_s HI4.out) (fun hS => ?_)
            clear hK K
            refine norm_ (a' := Act.put _ (some 13) (.pointer (some ⟨w3.heap.size, 0, none⟩))) rfl ?_
            refine norm_ (a' := ?_) ?_ ?_
            rotate_left
            · simp only [Act.put, List.setIfInBounds_toArray, List.set_cons_zero, List.set_cons_succ]; rfl
            clear hb
            generalize w3.alloc (.cells #[.string ⟨#[]⟩, .int .u16 0, .int .u16 0, .bool false] 37 (0, 0)) = w4 at *
            generalize w3.heap.size = bb at *
            refine lcast (l' := #[true, true, true, true, true, true, true, true, true, true, true, true, true, false, false, false]) (by kernel_rfl) ?_
            exact JT (vm, vm', vk', ba, bb) w4 ⟨HA4.out, HK4.out, HN4, HI4.out.2, hla, hlb, HT.out⟩
        · skip
          have hlb := below_size HI2.out.2
          have hb := below_alloc (Below.refl w2.heap.size w2) (.cells #[.string ⟨#[]⟩, .int .u16 0, .int .u16 0, .bool false] 37 (0, 0))
          have HI3 := Aside0.mk (And.intro (HI2.out.1.below hb) (below_step HI2.out.2 hb))
          have HR3 := Aside0.mk (Kd.R_below HR2.out hb)
          have HA3 := Aside0.mk (HA2.out.below hb)
          have HK3 := Aside0.mk (SAt.new w2 #[.string ⟨#[]⟩, .int .u16 0, .int .u16 0, .bool false] 37)
          have HN3 := Nat.ne_of_lt HA2.out.lt
          refine event_step (by kernel_rfl) (v := .pointer (some ⟨w2.heap.size, 0, none⟩)) (w1 := w2.alloc (.cells #[.string ⟨#[]⟩, .int .u16 0, .int .u16 0, .bool false] 37 (0, 0))) (by go_simp; done) ?_
          refine hK _ _ (req_s HI3.out) (fun hS => ?_)
          clear hK K
          refine norm_ (a' := Act.put _ (some 13) (.pointer (some ⟨w2.heap.size, 0, none⟩))) rfl ?_
          refine norm_ (a' := ?_) ?_ ?_
          rotate_left
          · simp only [Act.put, List.setIfInBounds_toArray, List.set_cons_zero, List.set_cons_succ]; rfl
          clear hb
          generalize w2.alloc (.cells #[.string ⟨#[]⟩, .int .u16 0, .int .u16 0, .bool false] 37 (0, 0)) = w3 at *
          generalize w2.heap.size = bb at *
          refine wpAnyLast_ready (rs := [6]) (by kernel_rfl) (by simp) (AllReadyL.cons rfl (by decide) (fun K hK => ?_) AllReadyL.nil)
          · skip
            refine goes_ Try.func15 (by kernel_rfl) rfl #[.agg #[.string me, .string pa, .string te, .string md, .bool ha, .int .i64 le], .string sL] (by rfl) rfl rfl (by kernel_rfl) ?_
            refine (RL.out _).mono ?_
            rintro e w4 ⟨vm', vk', rfl, hT, hb⟩
            refine ⟨_, rfl, ?_⟩
            have HT := Aside0.mk hT
            have HI4 := Aside0.mk (And.intro (HI3.out.1.below hb) (below_step HI3.out.2 hb))
            have HA4 := Aside0.mk (HA3.out.below hb)
            have HK4 := Aside0.mk (HK3.out.below hb)
            have HN4 := HN3
            refine hK _ _ (req_s HI4.out) (fun hS => ?_)
            clear hK K
            refine norm_ (a' := Act.put _ (some 74) (.tuple #[vm', vk', .int .i64 413])) rfl ?_
            refine norm_ (a' := ?_) ?_ ?_
            rotate_left
            · simp only [Act.put, List.setIfInBounds_toArray, List.set_cons_zero, List.set_cons_succ]; rfl
            refine dpure 7 (some 67) rfl rfl (by kernel_rfl) (fun _ _ _ h => h) (by rfl) (v := ?_) (a' := ?_) ?_ ?_ ?_
            rotate_left 2
            · intro w'; go_simp; with_reducible rfl
            · simp only [Act.put, List.setIfInBounds_toArray, List.set_cons_zero, List.set_cons_succ]; rfl
            refine dpure 8 (some 75) rfl rfl (by kernel_rfl) (fun _ _ _ h => h) (by rfl) (v := ?_) (a' := ?_) ?_ ?_ ?_
            rotate_left 2
            · intro w'; go_simp; with_reducible rfl
            · simp only [Act.put, List.setIfInBounds_toArray, List.set_cons_zero, List.set_cons_succ]; rfl
            refine dpure 9 (some 76) rfl rfl (by kernel_rfl) (fun _ _ _ h => h) (by rfl) (v := ?_) (a' := ?_) ?_ ?_ ?_
            rotate_left 2
            · intro w'; go_simp; with_reducible rfl
            · simp only [Act.put, List.setIfInBounds_toArray, List.set_cons_zero, List.set_cons_succ]; rfl
            refine dpure 10 (some 77) rfl rfl (by kernel_rfl) (fun _ _ _ h => h) (by rfl) (v := ?_) (a' := ?_) ?_ ?_ ?_
            rotate_left 2
            · intro w'; go_simp; with_reducible rfl
            · simp only [Act.put, List.setIfInBounds_toArray, List.set_cons_zero, List.set_cons_succ]; rfl
            clear hb hT
            refine lcast (l' := #[true, true, true, true, true, true, true, true, true, true, true, true, true, false, false, false]) (by kernel_rfl) ?_
            exact JT (vm, vm', vk', ba, bb) w4 ⟨HA4.out, HK4.out, HN4, HI4.out.2, hla, hlb, HT.out⟩
      · skip
        have hlb := below_size HI2.out.2
        have hb := below_alloc (Below.refl w2.heap.size w2) (.cells #[.string ⟨#[]⟩, .int .u16 0, .int .u16 0, .bool false] 37 (0, 0))
        have HI3 := Aside0.mk (And.intro (HI2.out.1.below hb) (below_step HI2.out.2 hb))
        have HR3 := Aside0.mk (Kd.R_below HR2.out hb)
        have HA3 := Aside0.mk (HA2.out.below hb)
        have HK3 := Aside0.mk (SAt.new w2 #[.string ⟨#[]⟩, .int .u16 0, .int .u16 0, .bool false] 37)
        have HN3 := Nat.ne_of_lt HA2.out.lt
        refine event_step (by kernel_rfl) (v := .pointer (some ⟨w2.heap.size, 0, none⟩)) (w1 := w2.alloc (.cells #[.string ⟨#[]⟩, .int .u16 0, .int .u16 0, .bool false] 37 (0, 0))) (by go_simp; done) ?_
        refine hK _ _ (req_s HI3.out) (fun hS => ?_)
        clear hK K
        refine norm_ (a' := Act.put _ (some 13) (.pointer (some ⟨w2.heap.size, 0, none⟩))) rfl ?_
        refine norm_ (a' := ?_) ?_ ?_
        rotate_left
        · simp only [Act.put, List.setIfInBounds_toArray, List.set_cons_zero, List.set_cons_succ]; rfl
        clear hb
        generalize w2.alloc (.cells #[.string ⟨#[]⟩, .int .u16 0, .int .u16 0, .bool false] 37 (0, 0)) = w3 at *
        generalize w2.heap.size = bb at *
        refine wpAnyLast_ready (rs := [5]) (by kernel_rfl) (by simp) (AllReadyL.cons rfl (by decide) (fun K hK => ?_) AllReadyL.nil)
        · skip
          have hcv := strOf HR3.out
          rw [hSl] at hcv
          refine event_step (by kernel_rfl) (v := .string sL) (w1 := w3) (by go_simp; done) ?_
          refine hK _ _ (req_s HI3.out) (fun hS => ?_)
          clear hK K
          refine norm_ (a' := Act.put _ (some 73) (.string sL)) rfl ?_
          refine norm_ (a' := ?_) ?_ ?_
          rotate_left
          · simp only [Act.put, List.setIfInBounds_toArray, List.set_cons_zero, List.set_cons_succ]; rfl
          clear hcv
          refine wpAnyLast_ready (rs := [6]) (by kernel_rfl) (by simp) (AllReadyL.cons rfl (by decide) (fun K hK => ?_) AllReadyL.nil)
          · skip
            refine goes_ Try.func15 (by kernel_rfl) rfl #[.agg #[.string me, .string pa, .string te, .string md, .bool ha, .int .i64 le], .string sL] (by rfl) rfl rfl (by kernel_rfl) ?_
            refine (RL.out _).mono ?_
            rintro e w4 ⟨vm', vk', rfl, hT, hb⟩
            refine ⟨_, rfl, ?_⟩
            have HT := Aside0.mk hT
            have HI4 := Aside0.mk (And.intro (HI3.out.1.below hb) (below_step HI3.out.2 hb))
            have HA4 := Aside0.mk (HA3.out.below hb)
            have HK4 := Aside0.mk (HK3.out.below hb)
            have HN4 := HN3
            refine hK _ _ (req_s HI4.out) (fun hS => ?_)
            clear hK K
            refine norm_ (a' := Act.put _ (some 74) (.tuple #[vm', vk', .int .i64 413])) rfl ?_
            refine norm_ (a' := ?_) ?_ ?_
            rotate_left
            · simp only [Act.put, List.setIfInBounds_toArray, List.set_cons_zero, List.set_cons_succ]; rfl
            refine dpure 7 (some 67) rfl rfl (by kernel_rfl) (fun _ _ _ h => h) (by rfl) (v := ?_) (a' := ?_) ?_ ?_ ?_
            rotate_left 2
            · intro w'; go_simp; with_reducible rfl
            · simp only [Act.put, List.setIfInBounds_toArray, List.set_cons_zero, List.set_cons_succ]; rfl
            refine dpure 8 (some 75) rfl rfl (by kernel_rfl) (fun _ _ _ h => h) (by rfl) (v := ?_) (a' := ?_) ?_ ?_ ?_
            rotate_left 2
            · intro w'; go_simp; with_reducible rfl
            · simp only [Act.put, List.setIfInBounds_toArray, List.set_cons_zero, List.set_cons_succ]; rfl
            refine dpure 9 (some 76) rfl rfl (by kernel_rfl) (fun _ _ _ h => h) (by rfl) (v := ?_) (a' := ?_) ?_ ?_ ?_
            rotate_left 2
            · intro w'; go_simp; with_reducible rfl
            · simp only [Act.put, List.setIfInBounds_toArray, List.set_cons_zero, List.set_cons_succ]; rfl
            refine dpure 10 (some 77) rfl rfl (by kernel_rfl) (fun _ _ _ h => h) (by rfl) (v := ?_) (a' := ?_) ?_ ?_ ?_
            rotate_left 2
            · intro w'; go_simp; with_reducible rfl
            · simp only [Act.put, List.setIfInBounds_toArray, List.set_cons_zero, List.set_cons_succ]; rfl
            clear hb hT
            refine lcast (l' := #[true, true, true, true, true, true, true, true, true, true, true, true, true, false, false, false]) (by kernel_rfl) ?_
            exact JT (vm, vm', vk', ba, bb) w4 ⟨HA4.out, HK4.out, HN4, HI4.out.2, hla, hlb, HT.out⟩
    · skip
      have hlb := below_size HI1.out.2
      have hb := below_alloc (Below.refl w1.heap.size w1) (.cells #[.string ⟨#[]⟩, .int .u16 0, .int .u16 0, .bool false] 37 (0, 0))
      have HI2 := Aside0.mk (And.intro (HI1.out.1.below hb) (below_step HI1.out.2 hb))
      have HA2 := Aside0.mk (HA1.out.below hb)
      have HK2 := Aside0.mk (SAt.new w1 #[.string ⟨#[]⟩, .int .u16 0, .int .u16 0, .bool false] 37)
      have HN2 := Nat.ne_of_lt HA1.out.lt
      refine event_step (by kernel_rfl) (v := .pointer (some ⟨w1.heap.size, 0, none⟩)) (w1 := w1.alloc (.cells #[.string ⟨#[]⟩, .int .u16 0, .int .u16 0, .bool false] 37 (0, 0))) (by go_simp; done) ?_
      refine hK _ _ (req_s HI2.out) (fun hS => ?_)
      clear hK K
      refine norm_ (a' := Act.put _ (some 13) (.pointer (some ⟨w1.heap.size, 0, none⟩))) rfl ?_
      refine norm_ (a' := ?_) ?_ ?_
      rotate_left
      · simp only [Act.put, List.setIfInBounds_toArray, List.set_cons_zero, List.set_cons_succ]; rfl
      clear hb
      generalize w1.alloc (.cells #[.string ⟨#[]⟩, .int .u16 0, .int .u16 0, .bool false] 37 (0, 0)) = w2 at *
      generalize w1.heap.size = bb at *
      refine wpAnyLast_ready (rs := [4]) (by kernel_rfl) (by simp) (AllReadyL.cons rfl (by decide) (fun K hK => ?_) AllReadyL.nil)
      · skip
        refine Kd.R_make_step (Kd.int .u8) (w0 := W) W.heap.size 5 (by kernel_rfl) rfl 48 (.tmp 71) (.tmp 71) rfl (65536 + more) (by rfl) (by rfl) Try.underlying48 (.int .u8 0) 1 info8 rfl (by decide) (by decide) 0 (ok := fun _ => True) (okp := fun _ => True) rfl (fun _ h => h) trivial (by omega) (by omega) HI2.out.2 HI2.out.2.size ?_
        intro vm w3 hr hbB hg hat
        obtain ⟨As, cs, rfl⟩ := Kd.R_slice hr
        have HI3 := Aside0.mk (And.intro (HI2.out.1.grown hg) (hbB))
        have HA3 := Aside0.mk (HA2.out.grown hg)
        have HK3 := Aside0.mk (HK2.out.grown hg)
        have HN3 := HN2
        have HR3 := Aside0.mk hr
        obtain ⟨vm, hvm⟩ : ∃ vm, Value.slice As (List.replicate (65536 + more).toNat (0 : Int)).length cs = vm := ⟨_, rfl⟩
        rw [hvm] at HR3 ⊢
        clear hr hbB hg hat
        refine hK _ _ (req_s HI3.out) (fun hS => ?_)
        clear hK K
        refine norm_ (a' := Act.put _ (some 72) vm) rfl ?_
        refine norm_ (a' := ?_) ?_ ?_
        rotate_left
        · simp only [Act.put, List.setIfInBounds_toArray, List.set_cons_zero, List.set_cons_succ]; rfl
        clear hvm
        refine wpAnyLast_ready (rs := [5]) (by kernel_rfl) (by simp) (AllReadyL.cons rfl (by decide) (fun K hK => ?_) AllReadyL.nil)
        · skip
          have hcv := strOf HR3.out
          rw [hSl] at hcv
          refine event_step (by kernel_rfl) (v := .string sL) (w1 := w3) (by go_simp; done) ?_
          refine hK _ _ (req_s HI3.out) (fun hS => ?_)
          clear hK K
          refine norm_ (a' := Act.put _ (some 73) (.string sL)) rfl ?_
          refine norm_ (a' := ?_) ?_ ?_
          rotate_left
          · simp only [Act.put, List.setIfInBounds_toArray, List.set_cons_zero, List.set_cons_succ]; rfl
          clear hcv
          refine wpAnyLast_ready (rs := [6]) (by kernel_rfl) (by simp) (AllReadyL.cons rfl (by decide) (fun K hK => ?_) AllReadyL.nil)
          · skip
            refine goes_ Try.func15 (by kernel_rfl) rfl #[.agg #[.string me, .string pa, .string te, .string md, .bool ha, .int .i64 le], .string sL] (by rfl) rfl rfl (by kernel_rfl) ?_
            refine (RL.out _).mono ?_
            rintro e w4 ⟨vm', vk', rfl, hT, hb⟩
            refine ⟨_, rfl, ?_⟩
            have HT := Aside0.mk hT
            have HI4 := Aside0.mk (And.intro (HI3.out.1.below hb) (below_step HI3.out.2 hb))
            have HA4 := Aside0.mk (HA3.out.below hb)
            have HK4 := Aside0.mk (HK3.out.below hb)
            have HN4 := HN3
            refine hK _ _ (req_s HI4.out) (fun hS => ?_)
            clear hK K
            refine norm_ (a' := Act.put _ (some 74) (.tuple #[vm', vk', .int .i64 413])) rfl ?_
            refine norm_ (a' := ?_) ?_ ?_
            rotate_left
            · simp only [Act.put, List.setIfInBounds_toArray, List.set_cons_zero, List.set_cons_succ]; rfl
            refine dpure 7 (some 67) rfl rfl (by kernel_rfl) (fun _ _ _ h => h) (by rfl) (v := ?_) (a' := ?_) ?_ ?_ ?_
            rotate_left 2
            · intro w'; go_simp; with_reducible rfl
            · simp only [Act.put, List.setIfInBounds_toArray, List.set_cons_zero, List.set_cons_succ]; rfl
            refine dpure 8 (some 75) rfl rfl (by kernel_rfl) (fun _ _ _ h => h) (by rfl) (v := ?_) (a' := ?_) ?_ ?_ ?_
            rotate_left 2
            · intro w'; go_simp; with_reducible rfl
            · simp only [Act.put, List.setIfInBounds_toArray, List.set_cons_zero, List.set_cons_succ]; rfl
            refine dpure 9 (some 76) rfl rfl (by kernel_rfl) (fun _ _ _ h => h) (by rfl) (v := ?_) (a' := ?_) ?_ ?_ ?_
            rotate_left 2
            · intro w'; go_simp; with_reducible rfl
            · simp only [Act.put, List.setIfInBounds_toArray, List.set_cons_zero, List.set_cons_succ]; rfl
            refine dpure 10 (some 77) rfl rfl (by kernel_rfl) (fun _ _ _ h => h) (by rfl) (v := ?_) (a' := ?_) ?_ ?_ ?_
            rotate_left 2
            · intro w'; go_simp; with_reducible rfl
            · simp only [Act.put, List.setIfInBounds_toArray, List.set_cons_zero, List.set_cons_succ]; rfl
            clear hb hT
            refine lcast (l' := #[true, true, true, true, true, true, true, true, true, true, true, true, true, false, false, false]) (by kernel_rfl) ?_
            exact JT (vm, vm', vk', ba, bb) w4 ⟨HA4.out, HK4.out, HN4, HI4.out.2, hla, hlb, HT.out⟩
  · skip
    have hlb := below_size HI0.out.2
    have hb := below_alloc (Below.refl w0.heap.size w0) (.cells #[.string ⟨#[]⟩, .int .u16 0, .int .u16 0, .bool false] 37 (0, 0))
    have HI1 := Aside0.mk (And.intro (HI0.out.1.below hb) (below_step HI0.out.2 hb))
    have HK1 := Aside0.mk (SAt.new w0 #[.string ⟨#[]⟩, .int .u16 0, .int .u16 0, .bool false] 37)
    refine event_step (by kernel_rfl) (v := .pointer (some ⟨w0.heap.size, 0, none⟩)) (w1 := w0.alloc (.cells #[.string ⟨#[]⟩, .int .u16 0, .int .u16 0, .bool false] 37 (0, 0))) (by go_simp; done) ?_
    refine hK _ _ (req_s HI1.out) (fun hS => ?_)
    clear hK K
    refine norm_ (a' := Act.put _ (some 13) (.pointer (some ⟨w0.heap.size, 0, none⟩))) rfl ?_
    refine norm_ (a' := ?_) ?_ ?_
    rotate_left
    · simp only [Act.put, List.setIfInBounds_toArray, List.set_cons_zero, List.set_cons_succ]; rfl
    clear hb
    generalize w0.alloc (.cells #[.string ⟨#[]⟩, .int .u16 0, .int .u16 0, .bool false] 37 (0, 0)) = w1 at *
    generalize w0.heap.size = bb at *
    refine wpAnyLast_ready (rs := [4, 11]) (by kernel_rfl) (by simp) (AllReadyL.cons rfl (by decide) (fun K hK => ?_) (AllReadyL.cons rfl (by decide) (fun K hK => ?_) AllReadyL.nil))
    · skip
      refine Kd.R_make_step (Kd.int .u8) (w0 := W) W.heap.size 5 (by kernel_rfl) rfl 48 (.tmp 71) (.tmp 71) rfl (65536 + more) (by rfl) (by rfl) Try.underlying48 (.int .u8 0) 1 info8 rfl (by decide) (by decide) 0 (ok := fun _ => True) (okp := fun _ => True) rfl (fun _ h => h) trivial (by omega) (by omega) HI1.out.2 HI1.out.2.size ?_
      intro vm w2 hr hbB hg hat
      obtain ⟨As, cs, rfl⟩ := Kd.R_slice hr
      have HI2 := Aside0.mk (And.intro (HI1.out.1.grown hg) (hbB))
      have HK2 := Aside0.mk (HK1.out.grown hg)
      have HR2 := Aside0.mk hr
      obtain ⟨vm, hvm⟩ : ∃ vm, Value.slice As (List.replicate (65536 + more).toNat (0 : Int)).length cs = vm := ⟨_, rfl⟩
      rw [hvm] at HR2 ⊢
      clear hr hbB hg hat
      refine hK _ _ (req_s HI2.out) (fun hS => ?_)
      clear hK K
      refine norm_ (a' := Act.put _ (some 72) vm) rfl ?_
      refine norm_ (a' := ?_) ?_ ?_
      rotate_left
      · simp only [Act.put, List.setIfInBounds_toArray, List.set_cons_zero, List.set_cons_succ]; rfl
      clear hvm
      refine wpAnyLast_ready (rs := [5, 11]) (by kernel_rfl) (by simp) (AllReadyL.cons rfl (by decide) (fun K hK => ?_) (AllReadyL.cons rfl (by decide) (fun K hK => ?_) AllReadyL.nil))
      · skip
        have hcv := strOf HR2.out
        rw [hSl] at hcv
        refine event_step (by kernel_rfl) (v := .string sL) (w1 := w2) (by go_simp; done) ?_
        refine hK _ _ (req_s HI2.out) (fun hS => ?_)
        clear hK K
        refine norm_ (a' := Act.put _ (some 73) (.string sL)) rfl ?_
        refine norm_ (a' := ?_) ?_ ?_
        rotate_left
        · simp only [Act.put, List.setIfInBounds_toArray, List.set_cons_zero, List.set_cons_succ]; rfl
        clear hcv
        refine wpAnyLast_ready (rs := [6, 11]) (by kernel_rfl) (by simp) (AllReadyL.cons rfl (by decide) (fun K hK => ?_) (AllReadyL.cons rfl (by decide) (fun K hK => ?_) AllReadyL.nil))
        · skip
          refine goes_ Try.func15 (by kernel_rfl) rfl #[.agg #[.string me, .string pa, .string te, .string md, .bool ha, .int .i64 le], .string sL] (by rfl) rfl rfl (by kernel_rfl) ?_
          refine (RL.out _).mono ?_
          rintro e w3 ⟨vm', vk', rfl, hT, hb⟩
          refine ⟨_, rfl, ?_⟩
          have HT := Aside0.mk hT
          have HI3 := Aside0.mk (And.intro (HI2.out.1.below hb) (below_step HI2.out.2 hb))
          have HK3 := Aside0.mk (HK2.out.below hb)
          refine hK _ _ (req_s HI3.out) (fun hS => ?_)
          clear hK K
          refine norm_ (a' := Act.put _ (some 74) (.tuple #[vm', vk', .int .i64 413])) rfl ?_
          refine norm_ (a' := ?_) ?_ ?_
          rotate_left
          · simp only [Act.put, List.setIfInBounds_toArray, List.set_cons_zero, List.set_cons_succ]; rfl
          refine dpure 7 (some 67) rfl rfl (by kernel_rfl) (fun _ _ _ h => h) (by rfl) (v := ?_) (a' := ?_) ?_ ?_ ?_
          rotate_left 2
          · intro w'; go_simp; with_reducible rfl
          · simp only [Act.put, List.setIfInBounds_toArray, List.set_cons_zero, List.set_cons_succ]; rfl
          refine dpure 8 (some 75) rfl rfl (by kernel_rfl) (fun _ _ _ h => h) (by rfl) (v := ?_) (a' := ?_) ?_ ?_ ?_
          rotate_left 2
          · intro w'; go_simp; with_reducible rfl
          · simp only [Act.put, List.setIfInBounds_toArray, List.set_cons_zero, List.set_cons_succ]; rfl
          refine dpure 9 (some 76) rfl rfl (by kernel_rfl) (fun _ _ _ h => h) (by rfl) (v := ?_) (a' := ?_) ?_ ?_ ?_
          rotate_left 2
          · intro w'; go_simp; with_reducible rfl
          · simp only [Act.put, List.setIfInBounds_toArray, List.set_cons_zero, List.set_cons_succ]; rfl
          refine dpure 10 (some 77) rfl rfl (by kernel_rfl) (fun _ _ _ h => h) (by rfl) (v := ?_) (a' := ?_) ?_ ?_ ?_
          rotate_left 2
          · intro w'; go_simp; with_reducible rfl
          · simp only [Act.put, List.setIfInBounds_toArray, List.set_cons_zero, List.set_cons_succ]; rfl
          clear hb hT
          refine wpAnyLast_ready (rs := [11]) (by kernel_rfl) (by simp) (AllReadyL.cons rfl (by decide) (fun K hK => ?_) AllReadyL.nil)
          · skip
            have hla := below_size HI3.out.2
            have hb := below_alloc (Below.refl w3.heap.size w3) (.cells #[.int .u16 0, .int .u16 0, .slice none 0 0, .slice none 0 0, .slice none 0 0, .slice none 0 0] 35 (0, 0))
            have HI4 := Aside0.mk (And.intro (HI3.out.1.below hb) (below_step HI3.out.2 hb))
            have HK4 := Aside0.mk (HK3.out.below hb)
            have HA4 := Aside0.mk (SAt.new w3 #[.int .u16 0, .int .u16 0, .slice none 0 0, .slice none 0 0, .slice none 0 0, .slice none 0 0] 35)
            have HN4 := Nat.ne_of_gt HK3.out.lt
            refine event_step (by kernel_rfl) (v := .pointer (some ⟨w3.heap.size, 0, none⟩)) (w1 := w3.alloc (.cells #[.int .u16 0, .int .u16 0, .slice none 0 0, .slice none 0 0, .slice none 0 0, .slice none 0 0] 35 (0, 0))) (by go_simp; done) ?_
            refine hK _ _ (req_s HI4.out) (fun hS => ?_)
            clear hK K
            refine norm_ (a' := Act.put _ (some 12) (.pointer (some ⟨w3.heap.size, 0, none⟩))) rfl ?_
            refine norm_ (a' := ?_) ?_ ?_
            rotate_left
            · simp only [Act.put, List.setIfInBounds_toArray, List.set_cons_zero, List.set_cons_succ]; rfl
            clear hb
            generalize w3.alloc (.cells #[.int .u16 0, .int .u16 0, .slice none 0 0, .slice none 0 0, .slice none 0 0, .slice none 0 0] 35 (0, 0)) = w4 at *
            generalize w3.heap.size = ba at *
            refine lcast (l' := #[true, true, true, true, true, true, true, true, true, true, true, true, true, false, false, false]) (by kernel_rfl) ?_
            exact JT (vm, vm', vk', ba, bb) w4 ⟨HA4.out, HK4.out, HN4, HI4.out.2, hla, hlb, HT.out⟩
        · skip
          have hla := below_size HI2.out.2
          have hb := below_alloc (Below.refl w2.heap.size w2) (.cells #[.int .u16 0, .int .u16 0, .slice none 0 0, .slice none 0 0, .slice none 0 0, .slice none 0 0] 35 (0, 0))
          have HI3 := Aside0.mk (And.intro (HI2.out.1.below hb) (below_step HI2.out.2 hb))
          have HR3 := Aside0.mk (Kd.R_below HR2.out hb)
          have HK3 := Aside0.mk (HK2.out.below hb)
          have HA3 := Aside0.mk (SAt.new w2 #[.int .u16 0, .int .u16 0, .slice none 0 0, .slice none 0 0, .slice none 0 0, .slice none 0 0] 35)
          have HN3 := Nat.ne_of_gt HK2.out.lt
          refine event_step (by kernel_rfl) (v := .pointer (some ⟨w2.heap.size, 0, none⟩)) (w1 := w2.alloc (.cells #[.int .u16 0, .int .u16 0, .slice none 0 0, .slice none 0 0, .slice none 0 0, .slice none 0 0] 35 (0, 0))) (by go_simp; done) ?_
          refine hK _ _ (req_s HI3.out) (fun hS => ?_)
          clear hK K
          refine norm_ (a' := Act.put _ (some 12) (.pointer (some ⟨w2.heap.size, 0, none⟩))) rfl ?_
          refine norm_ (a' := ?_) ?_ ?_
          rotate_left
          · simp only [Act.put, List.setIfInBounds_toArray, List.set_cons_zero, List.set_cons_succ]; rfl
          clear hb
          generalize w2.alloc (.cells #[.int .u16 0, .int .u16 0, .slice none 0 0, .slice none 0 0, .slice none 0 0, .slice none 0 0] 35 (0, 0)) = w3 at *
          generalize w2.heap.size = ba at *
          refine wpAnyLast_ready (rs := [6]) (by kernel_rfl) (by simp) (AllReadyL.cons rfl (by decide) (fun K hK => ?_) AllReadyL.nil)
          · skip
            refine goes_ Try.func15 (by kernel_rfl) rfl #[.agg #[.string me, .string pa, .string te, .string md, .bool ha, .int .i64 le], .string sL] (by rfl) rfl rfl (by kernel_rfl) ?_
            refine (RL.out _).mono ?_
            rintro e w4 ⟨vm', vk', rfl, hT, hb⟩
            refine ⟨_, rfl, ?_⟩
            have HT := Aside0.mk hT
            have HI4 := Aside0.mk (And.intro (HI3.out.1.below hb) (below_step HI3.out.2 hb))
            have HA4 := Aside0.mk (HA3.out.below hb)
            have HK4 := Aside0.mk (HK3.out.below hb)
            have HN4 := HN3
            refine hK _ _ (req_s HI4.out) (fun hS => ?_)
            clear hK K
            refine norm_ (a' := Act.put _ (some 74) (.tuple #[vm', vk', .int .i64 413])) rfl ?_
            refine norm_ (a' := ?_) ?_ ?_
            rotate_left
            · simp only [Act.put, List.setIfInBounds_toArray, List.set_cons_zero, List.set_cons_succ]; rfl
            refine dpure 7 (some 67) rfl rfl (by kernel_rfl) (fun _ _ _ h => h) (by rfl) (v := ?_) (a' := ?_) ?_ ?_ ?_
            rotate_left 2
            · intro w'; go_simp; with_reducible rfl
            · simp only [Act.put, List.setIfInBounds_toArray, List.set_cons_zero, List.set_cons_succ]; rfl
            refine dpure 8 (some 75) rfl rfl (by kernel_rfl) (fun _ _ _ h => h) (by rfl) (v := ?_) (a' := ?_) ?_ ?_ ?_
            rotate_left 2
            · intro w'; go_simp; with_reducible rfl
            · simp only [Act.put, List.setIfInBounds_toArray, List.set_cons_zero, List.set_cons_succ]; rfl
            refine dpure 9 (some 76) rfl rfl (by kernel_rfl) (fun _ _ _ h => h) (by rfl) (v := ?_) (a' := ?_) ?_ ?_ ?_
            rotate_left 2
            · intro w'; go_simp; with_reducible rfl
            · simp only [Act.put, List.setIfInBounds_toArray, List.set_cons_zero, List.set_cons_succ]; rfl
            refine dpure 10 (some 77) rfl rfl (by kernel_rfl) (fun _ _ _ h => h) (by rfl) (v := ?_) (a' := ?_) ?_ ?_ ?_
            rotate_left 2
            · intro w'; go_simp; with_reducible rfl
            · simp only [Act.put, List.setIfInBounds_toArray, List.set_cons_zero, List.set_cons_succ]; rfl
            clear hb hT
            refine lcast (l' := #[true, true, true, true, true, true, true, true, true, true, true, true, true, false, false, false]) (by kernel_rfl) ?_
            exact JT (vm, vm', vk', ba, bb) w4 ⟨HA4.out, HK4.out, HN4, HI4.out.2, hla, hlb, HT.out⟩
      · skip
        have hla := below_size HI2.out.2
        have hb := below_alloc (Below.refl w2.heap.size w2) (.cells #[.int .u16 0, .int .u16 0, .slice none 0 0, .slice none 0 0, .slice none 0 0, .slice none 0 0] 35 (0, 0))
        have HI3 := Aside0.mk (And.intro (HI2.out.1.below hb) (below_step HI2.out.2 hb))
        have HR3 := Aside0.mk (Kd.R_below HR2.out hb)
        have HK3 := Aside0.mk (HK2.out.below hb)
        have HA3 := Aside0.mk (SAt.new w2 #[.int .u16 0, .int .u16 0, .slice none 0 0, .slice none 0 0, .slice none 0 0, .slice none 0 0] 35)
        have HN3 := Nat.ne_of_gt HK2.out.lt
        refine event_step (by kernel_rfl) (v := .pointer (some ⟨w2.heap.size, 0, none⟩)) (w1 := w2.alloc (.cells #[.int .u16 0, .int .u16 0, .slice none 0 0, .slice none 0 0, .slice none 0 0, .slice none 0 0] 35 (0, 0))) (by go_simp; done) ?_
        refine hK _ _ (req_s HI3.out) (fun hS => ?_)
        clear hK K
        refine norm_ (a' := Act.put _ (some 12) (.pointer (some ⟨w2.heap.size, 0, none⟩))) rfl ?_
        refine norm_ (a' := ?_) ?_ ?_
        rotate_left
        · simp only [Act.put, List.setIfInBounds_toArray, List.set_cons_zero, List.set_cons_succ]; rfl
        clear hb
        generalize w2.alloc (.cells #[.int .u16 0, .int .u16 0, .slice none 0 0, .slice none 0 0, .slice none 0 0, .slice none 0 0] 35 (0, 0)) = w3 at *
        generalize w2.heap.size = ba at *
        refine wpAnyLast_ready (rs := [5]) (by kernel_rfl) (by simp) (AllReadyL.cons rfl (by decide) (fun K hK => ?_) AllReadyL.nil)
        · skip
          have hcv := strOf HR3.out
          rw [hSl] at hcv
          refine event_step (by kernel_rfl) (v := .string sL) (w1 := w3) (by go_simp; done) ?_
          refine hK _ _ (req_s HI3.out) (fun hS => ?_)
          clear hK K
          refine norm_ (a' := Act.put _ (some 73) (.string sL)) rfl ?_
          refine norm_ (a' := ?_) ?_ ?_
          rotate_left
          · simp only [Act.put, List.setIfInBounds_toArray, List.set_cons_zero, List.set_cons_succ]; rfl
          clear hcv
          refine wpAnyLast_ready (rs := [6]) (by kernel_rfl) (by simp) (AllReadyL.cons rfl (by decide) (fun K hK => ?_) AllReadyL.nil)
          · skip
            refine goes_ Try.func15 (by kernel_rfl) rfl #[.agg #[.string me, .string pa, .string te, .string md, .bool ha, .int .i64 le], .string sL] (by rfl) rfl rfl (by kernel_rfl) ?_
            refine (RL.out _).mono ?_
            rintro e w4 ⟨vm', vk', rfl, hT, hb⟩
            refine ⟨_, rfl, ?_⟩
            have HT := Aside0.mk hT
            have HI4 := Aside0.mk (And.intro (HI3.out.1.below hb) (below_step HI3.out.2 hb))
            have HA4 := Aside0.mk (HA3.out.below hb)
            have HK4 := Aside0.mk (HK3.out.below hb)
            have HN4 := HN3
            refine hK _ _ (req_s HI4.out) (fun hS => ?_)
            clear hK K
            refine norm_ (a' := Act.put _ (some 74) (.tuple #[vm', vk', .int .i64 413])) rfl ?_
            refine norm_ (a' := ?_) ?_ ?_
            rotate_left
            · simp only [Act.put, List.setIfInBounds_toArray, List.set_cons_zero, List.set_cons_succ]; rfl
            refine dpure 7 (some 67) rfl rfl (by kernel_rfl) (fun _ _ _ h => h) (by rfl) (v := ?_) (a' := ?_) ?_ ?_ ?_
            rotate_left 2
            · intro w'; go_simp; with_reducible rfl
            · simp only [Act.put, List.setIfInBounds_toArray, List.set_cons_zero, List.set_cons_succ]; rfl
            refine dpure 8 (some 75) rfl rfl (by kernel_rfl) (fun _ _ _ h => h) (by rfl) (v := ?_) (a' := ?_) ?_ ?_ ?_
            rotate_left 2
            · intro w'; go_simp; with_reducible rfl
            · simp only [Act.put, List.setIfInBounds_toArray, List.set_cons_zero, List.set_cons_succ]; rfl
            refine dpure 9 (some 76) rfl rfl (by kernel_rfl) (fun _ _ _ h => h) (by rfl) (v := ?_) (a' := ?_) ?_ ?_ ?_
            rotate_left 2
            · intro w'; go_simp; with_reducible rfl
            · simp only [Act.put, List.setIfInBounds_toArray, List.set_cons_zero, List.set_cons_succ]; rfl
            refine dpure 10 (some 77) rfl rfl (by kernel_rfl) (fun _ _ _ h => h) (by rfl) (v := ?_) (a' := ?_) ?_ ?_ ?_
            rotate_left 2
            · intro w'; go_simp; with_reducible rfl
            · simp only [Act.put, List.setIfInBounds_toArray, List.set_cons_zero, List.set_cons_succ]; rfl
            clear hb hT
            refine lcast (l' := #[true, true, true, true, true, true, true, true, true, true, true, true, true, false, false, false]) (by kernel_rfl) ?_
            exact JT (vm, vm', vk', ba, bb) w4 ⟨HA4.out, HK4.out, HN4, HI4.out.2, hla, hlb, HT.out⟩
    · skip
      have hla := below_size HI1.out.2
      have hb := below_alloc (Below.refl w1.heap.size w1) (.cells #[.int .u16 0, .int .u16 0, .slice none 0 0, .slice none 0 0, .slice none 0 0, .slice none 0 0] 35 (0, 0))
      have HI2 := Aside0.mk (And.intro (HI1.out.1.below hb) (below_step HI1.out.2 hb))
      have HK2 := Aside0.mk (HK1.out.below hb)
      have HA2 := Aside0.mk (SAt.new w1 #[.int .u16 0, .int .u16 0, .slice none 0 0, .slice none 0 0, .slice none 0 0, .slice none 0 0] 35)
      have HN2 := Nat.ne_of_gt HK1.out.lt
      refine event_step (by kernel_rfl) (v := .pointer (some ⟨w1.heap.size, 0, none⟩)) (w1 := w1.alloc (.cells #[.int .u16 0, .int .u16 0, .slice none 0 0, .slice none 0 0, .slice none 0 0, .slice none 0 0] 35 (0, 0))) (by go_simp; done) ?_
      refine hK _ _ (req_s HI2.out) (fun hS => ?_)
      clear hK K
      refine norm_ (a' := Act.put _ (some 12) (.pointer (some ⟨w1.heap.size, 0, none⟩))) rfl ?_
      refine norm_ (a' := ?_) ?_ ?_
      rotate_left
      · simp only [Act.put, List.setIfInBounds_toArray, List.set_cons_zero, List.set_cons_succ]; rfl
      clear hb
      generalize w1.alloc (.cells #[.int .u16 0, .int .u16 0, .slice none 0 0, .slice none 0 0, .slice none 0 0, .slice none 0 0] 35 (0, 0)) = w2 at *
      generalize w1.heap.size = ba at *
      refine wpAnyLast_ready (rs := [4]) (by kernel_rfl) (by simp) (AllReadyL.cons rfl (by decide) (fun K hK => ?_) AllReadyL.nil)
      · skip
        refine Kd.R_make_step (Kd.int .u8) (w0 := W) W.heap.size 5 (by kernel_rfl) rfl 48 (.tmp 71) (.tmp 71) rfl (65536 + more) (by rfl) (by rfl) Try.underlying48 (.int .u8 0) 1 info8 rfl (by decide) (by decide) 0 (ok := fun _ => True) (okp := fun _ => True) rfl (fun _ h => h) trivial (by omega) (by omega) HI2.out.2 HI2.out.2.size ?_
        intro vm w3 hr hbB hg hat
        obtain ⟨As, cs, rfl⟩ := Kd.R_slice hr
        have HI3 := Aside0.mk (And.intro (HI2.out.1.grown hg) (hbB))
        have HA3 := Aside0.mk (HA2.out.grown hg)
        have HK3 := Aside0.mk (HK2.out.grown hg)
        have HN3 := HN2
        have HR3 := Aside0.mk hr
        obtain ⟨vm, hvm⟩ : ∃ vm, Value.slice As (List.replicate (65536 + more).toNat (0 : Int)).length cs = vm := ⟨_, rfl⟩
        rw [hvm] at HR3 ⊢
        clear hr hbB hg hat
        refine hK _ _ (req_s HI3.out) (fun hS => ?_)
        clear hK K
        refine norm_ (a' := Act.put _ (some 72) vm) rfl ?_
        refine norm_ (a' := ?_) ?_ ?_
        rotate_left
        · simp only [Act.put, List.setIfInBounds_toArray, List.set_cons_zero, List.set_cons_succ]; rfl
        clear hvm
        refine wpAnyLast_ready (rs := [5]) (by kernel_rfl) (by simp) (AllReadyL.cons rfl (by decide) (fun K hK => ?_) AllReadyL.nil)
        · skip
          have hcv := strOf HR3.out
          rw [hSl] at hcv
          refine event_step (by kernel_rfl) (v := .string sL) (w1 := w3) (by go_simp; done) ?_
          refine hK _ _ (req_s HI3.out) (fun hS => ?_)
          clear hK K
          refine norm_ (a' := Act.put _ (some 73) (.string sL)) rfl ?_
          refine norm_ (a' := ?_) ?_ ?_
          rotate_left
          · simp only [Act.put, List.setIfInBounds_toArray, List.set_cons_zero, List.set_cons_succ]; rfl
          clear hcv
          refine wpAnyLast_ready (rs := [6]) (by kernel_rfl) (by simp) (AllReadyL.cons rfl (by decide) (fun K hK => ?_) AllReadyL.nil)
          · skip
            refine goes_ Try.func15 (by kernel_rfl) rfl #[.agg #[.string me, .string pa, .string te, .string md, .bool ha, .int .i64 le], .string sL] (by rfl) rfl rfl (by kernel_rfl) ?_
            refine (RL.out _).mono ?_
            rintro e w4 ⟨vm', vk', rfl, hT, hb⟩
            refine ⟨_, rfl, ?_⟩
            have HT := Aside0.mk hT
            have HI4 := Aside0.mk (And.intro (HI3.out.1.below hb) (below_step HI3.out.2 hb))
            have HA4 := Aside0.mk (HA3.out.below hb)
            have HK4 := Aside0.mk (HK3.out.below hb)
            have HN4 := HN3
            refine hK _ _ (req_s HI4.out) (fun hS => ?_)
            clear hK K
            refine norm_ (a' := Act.put _ (some 74) (.tuple #[vm', vk', .int .i64 413])) rfl ?_
            refine norm_ (a' := ?_) ?_ ?_
            rotate_left
            · simp only [Act.put, List.setIfInBounds_toArray, List.set_cons_zero, List.set_cons_succ]; rfl
            refine dpure 7 (some 67) rfl rfl (by kernel_rfl) (fun _ _ _ h => h) (by rfl) (v := ?_) (a' := ?_) ?_ ?_ ?_
            rotate_left 2
            · intro w'; go_simp; with_reducible rfl
            · simp only [Act.put, List.setIfInBounds_toArray, List.set_cons_zero, List.set_cons_succ]; rfl
            refine dpure 8 (some 75) rfl rfl (by kernel_rfl) (fun _ _ _ h => h) (by rfl) (v := ?_) (a' := ?_) ?_ ?_ ?_
            rotate_left 2
            · intro w'; go_simp; with_reducible rfl
            · simp only [Act.put, List.setIfInBounds_toArray, List.set_cons_zero, List.set_cons_succ]; rfl
            refine dpure 9 (some 76) rfl rfl (by kernel_rfl) (fun _ _ _ h => h) (by rfl) (v := ?_) (a' := ?_) ?_ ?_ ?_
            rotate_left 2
            · intro w'; go_simp; with_reducible rfl
            · simp only [Act.put, List.setIfInBounds_toArray, List.set_cons_zero, List.set_cons_succ]; rfl
            refine dpure 10 (some 77) rfl rfl (by kernel_rfl) (fun _ _ _ h => h) (by rfl) (v := ?_) (a' := ?_) ?_ ?_ ?_
            rotate_left 2
            · intro w'; go_simp; with_reducible rfl
            · simp only [Act.put, List.setIfInBounds_toArray, List.set_cons_zero, List.set_cons_succ]; rfl
            clear hb hT
            refine lcast (l' := #[true, true, true, true, true, true, true, true, true, true, true, true, true, false, false, false]) (by kernel_rfl) ?_
            exact JT (vm, vm', vk', ba, bb) w4 ⟨HA4.out, HK4.out, HN4, HI4.out.2, hla, hlb, HT.out⟩
end Go.Proofs.Ytfoflodgegehfaa.M
