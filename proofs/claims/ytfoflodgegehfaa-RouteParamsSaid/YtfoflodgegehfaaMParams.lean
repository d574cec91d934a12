/- The law RouteParams, whole. -/
import Derived.Test.YtfoflodgegehfaaMBoth
set_option linter.unusedVariables false
set_option linter.unusedSimpArgs false
namespace Go.Proofs.Ytfoflodgegehfaa.M
open Go.RowKit Go.Maps Go.Proofs.YtfoflodgegehfaaW.PrintWords Go.Proofs.YtfoflodgegehfaaW.PrintLast Go.Proofs.YtfoflodgegehfaaW.PrintMore
attribute [local go_sem] max2_int min2_int max_two min_two max_three min_three max_four min_four
attribute [local go_sem ↓] Go.wp_at_zero Go.wp_at_succ
/-- Four paths, by which all is the same. -/
theorem four_paths {message name value o1 o t p01 p0 p11 p12 p1 p2 : ByteArray} (hn : ∀ c ∈ bytesOf name, c ≠ 38 ∧ c ≠ 61) (hv : ∀ c ∈ bytesOf value, c ≠ 38) (hd : name ≠ dnsT)
    (e0 : targetF message = t) (e1 : name ++ ⟨#[61]⟩ = o1) (e2 : o1 ++ value = o) (e3 : t ++ ⟨#[38]⟩ = p01) (e4 : p01 ++ o = p0) (e5 : ⟨#[47, 100, 110, 115, 45, 113, 117, 101, 114, 121, 63]⟩ ++ o = p11) (e6 : p11 ++ ⟨#[38]⟩ = p12) (e7 : p12 ++ t.extract 11 t.size = p1) (e8 : t ++ ⟨#[38, 100, 110, 115, 61, 120]⟩ = p2) (b : ByteArray) :
    routeF (getR t) b = routeS message ∧ routeF (getR p0) b = routeS message ∧ routeF (getR p1) b = routeS message ∧ routeF (getR p2) b = routeS message ∧ routeF (getR p01) b = routeS message := by
  have b0 : bytesOf t = bytesOf epT ++ 63 :: (bytesOf dnsT ++ 61 :: bytesOf (encB message)) := by rw [← e0]; exact target_bytes message
  have bo : bytesOf o = bytesOf name ++ 61 :: bytesOf value := by
    rw [← e2, ← e1, tb_app, tb_app, show bytesOf ⟨#[61]⟩ = [61] from rfl]
    simp
  have b01 : bytesOf p01 = bytesOf t ++ [38] := by rw [← e3, tb_app]; rfl
  subst e0
  refine ⟨?_, ?_, ?_, ?_, ?_⟩
  · exact route_target (r := []) (.inl rfl) (by rw [List.append_nil])
  · exact route_target (r := 38 :: bytesOf o) (.inr ⟨_, rfl⟩) (by rw [← e4, tb_app, b01]; simp)
  · refine route_other (o := o) (nm := name) bo (fun c hc => (hn c hc).2) ?_ hd ?_
    · intro c hc
      rw [bo] at hc
      rcases List.mem_append.1 hc with hc | hc
      · exact (hn c hc).1
      · rcases List.mem_cons.1 hc with rfl | hc
        · decide
        · exact hv c hc
    · rw [← e7, tb_app, ← e6, tb_app, ← e5, tb_app, tb_drop, b0, show bytesOf ⟨#[38]⟩ = [38] from rfl, show bytesOf ⟨#[47, 100, 110, 115, 45, 113, 117, 101, 114, 121, 63]⟩ = bytesOf epT ++ [63] by decide]
      rw [show (bytesOf epT ++ 63 :: (bytesOf dnsT ++ 61 :: bytesOf (encB message))).drop 11 = bytesOf dnsT ++ 61 :: bytesOf (encB message) from rfl]
      simp
  · exact route_target (r := [38, 100, 110, 115, 61, 120]) (.inr ⟨_, rfl⟩) (by rw [← e8, tb_app]; rfl)
  · exact route_target (r := [38]) (.inr ⟨_, rfl⟩) b01
set_option maxHeartbeats 16000000 in
set_option maxRecDepth 100000 in
theorem params_all (W : World) (message : ByteArray) (h1 : message.size ≤ 140737488351232) (name : ByteArray) (h2 : name.size ≤ 140737488351232) (value : ByteArray) (h3 : value.size ≤ 140737488351232) :
    Calls Try.prog 7 #[.string message, .string name, .string value] W fun e w' => e = .returned (.bool true) ∧ Below W.heap.size W w' := by
  have HB := Aside0.mk (Below.refl W.heap.size W)
  by_cases c1 : 3000 < message.size
  · have d1 : decide (3000 < message.size) = true := decide_eq_true c1
    have d1' : decide ((3000 : Int) < (message.size : Int)) = true := decide_eq_true (by omega)
    clear c1 h1 h2 h3
    go_enter Try.func7, Try.ntmps7
    go_wp2_with fail
    refine (awake21_calls _).mono ?_
    rintro e w1 ⟨rfl, hb⟩
    have HB1 := Aside0.mk (HB.out.trans (hb.mono HB.out.size))
    clear hb HB
    go_wp2_with fail
    go_ret
    exact ⟨rfl, HB1.out⟩
  have d1 : decide (3000 < message.size) = false := decide_eq_false c1
  have d1' : decide ((3000 : Int) < (message.size : Int)) = false := decide_eq_false (by omega)
  by_cases c2 : 1000 < name.size
  · have d2 : decide (1000 < name.size) = true := decide_eq_true c2
    have d2' : decide ((1000 : Int) < (name.size : Int)) = true := decide_eq_true (by omega)
    clear c1 c2 h1 h2 h3
    go_enter Try.func7, Try.ntmps7
    go_wp2_with fail
    refine (awake21_calls _).mono ?_
    rintro e w1 ⟨rfl, hb⟩
    have HB1 := Aside0.mk (HB.out.trans (hb.mono HB.out.size))
    clear hb HB
    go_wp2_with fail
    go_ret
    exact ⟨rfl, HB1.out⟩
  have d2 : decide (1000 < name.size) = false := decide_eq_false c2
  have d2' : decide ((1000 : Int) < (name.size : Int)) = false := decide_eq_false (by omega)
  by_cases c3 : 1000 < value.size
  · have d3 : decide (1000 < value.size) = true := decide_eq_true c3
    have d3' : decide ((1000 : Int) < (value.size : Int)) = true := decide_eq_true (by omega)
    clear c1 c2 c3 h1 h2 h3
    go_enter Try.func7, Try.ntmps7
    go_wp2_with fail
    refine (awake21_calls _).mono ?_
    rintro e w1 ⟨rfl, hb⟩
    have HB1 := Aside0.mk (HB.out.trans (hb.mono HB.out.size))
    clear hb HB
    go_wp2_with fail
    go_ret
    exact ⟨rfl, HB1.out⟩
  have d3 : decide (1000 < value.size) = false := decide_eq_false c3
  have d3' : decide ((1000 : Int) < (value.size : Int)) = false := decide_eq_false (by omega)
  by_cases c4 : name = dnsT
  · obtain ⟨d4, d5, d6⟩ := const_yes c4 (L := [100, 110, 115]) rfl
    clear c1 c2 c3 c4 h1 h2 h3
    go_enter Try.func7, Try.ntmps7
    go_wp2_with fail
    refine (awake21_calls _).mono ?_
    rintro e w1 ⟨rfl, hb⟩
    have HB1 := Aside0.mk (HB.out.trans (hb.mono HB.out.size))
    clear hb HB
    go_wp2_with fail
    go_ret
    exact ⟨rfl, HB1.out⟩
  obtain ⟨d4, d5, d6⟩ := const_no c4 (L := [100, 110, 115]) rfl
  have HD := Lib.hid c4
  have S1 := Lib.hid (show message.size ≤ 3000 by omega)
  have S2 := Lib.hid (show name.size ≤ 1000 by omega)
  have S3 := Lib.hid (show value.size ≤ 1000 by omega)
  have q3 : (name.size : Int) ≤ 1000 := by omega
  have q4 : (value.size : Int) ≤ 1000 := by omega
  clear c1 c2 c3 c4 h1 h2 h3
  go_enter Try.func7, Try.ntmps7
  go_wp2_with fail
  refine (awake21_calls _).mono ?_
  rintro e w1 ⟨rfl, hb⟩
  have HB1 := Aside0.mk (HB.out.trans (hb.mono HB.out.size))
  clear hb HB
  go_wp2_with fail
  clear d1 d1' d2 d2' d3 d3' d4 d5 d6
  go_loopg [7] name.size (fun kq v7 w' => ∃ j : Nat, v7 = .int .i64 j ∧ Aside0 (kq + j = name.size) ∧ Aside0 (∀ c ∈ (bytesOf name).take j, c ≠ 38 ∧ c ≠ 61) ∧ Aside0 (w' = w1))
  case atStart => exact ⟨0, rfl, ⟨by omega⟩, ⟨fun c hc => absurd hc (by simp)⟩, ⟨rfl⟩⟩
  case round =>
    obtain ⟨j, rfl, HK, HN, HW⟩ := hrel
    obtain rfl := HW.out
    clear HW
    cases gk with
    | succ n =>
      have hj : j < name.size := by have := HK.out; omega
      have hx := bt_nat name j hj
      have ht := take_bytes name j hj
      obtain ⟨c, hc⟩ : ∃ c, bt name (j : Int) = c := ⟨_, rfl⟩
      rw [hc] at hx ht
      have HT := Lib.hid ht
      have p1 : (0 : Int) ≤ (j : Int) := by omega
      have p2 : (j : Int) < (name.size : Int) := by omega
      clear hc ht
      by_cases k1 : c = 38
      · have e1 : (c == 38) = true := beq_iff_eq.mpr k1
        clear k1
        go_wp2_with fail
        go_ret
        exact ⟨rfl, HB1.out⟩
      have e1 : (c == 38) = false := beq_eq_false_iff_ne.mpr k1
      by_cases k2 : c = 61
      · have e2 : (c == 61) = true := beq_iff_eq.mpr k2
        clear k1 k2
        go_wp2_with fail
        go_ret
        exact ⟨rfl, HB1.out⟩
      have e2 : (c == 61) = false := beq_eq_false_iff_ne.mpr k2
      have HN2 := Aside0.mk (show ∀ x ∈ (bytesOf name).take (j + 1), x ≠ 38 ∧ x ≠ 61 by
        rw [HT.out]
        intro x hx
        rcases List.mem_append.1 hx with hx | hx
        · exact HN.out x hx
        · rw [List.mem_singleton.1 hx]; exact ⟨k1, k2⟩)
      clear k1 k2
      go_wp2_with fail
      go_roundg n
      case measure => omega
      case rel => exact ⟨j + 1, by go_num, ⟨by have := HK.out; omega⟩, HN2, ⟨rfl⟩⟩
    | zero =>
      obtain rfl : j = name.size := by have := HK.out; omega
      have hn := HN.out
      rw [List.take_of_length_le (by rw [bytesOf_length]; omega)] at hn
      have HNm := Lib.hid hn
      clear hn HN HK
      go_wp2_with fail
      go_loopg [8] value.size (fun kq v8 w' => ∃ j : Nat, v8 = .int .i64 j ∧ Aside0 (kq + j = value.size) ∧ Aside0 (∀ c ∈ (bytesOf value).take j, c ≠ 38) ∧ Aside0 (w' = wr))
      case atStart => exact ⟨0, rfl, ⟨by omega⟩, ⟨fun c hc => absurd hc (by simp)⟩, ⟨rfl⟩⟩
      case round =>
        obtain ⟨j, rfl, HK, HN, HW⟩ := hrel
        obtain rfl := HW.out
        clear HW
        cases gk with
        | succ n =>
          have hj : j < value.size := by have := HK.out; omega
          have hx := bt_nat value j hj
          have ht := take_bytes value j hj
          obtain ⟨c, hc⟩ : ∃ c, bt value (j : Int) = c := ⟨_, rfl⟩
          rw [hc] at hx ht
          have HT := Lib.hid ht
          have p1 : (0 : Int) ≤ (j : Int) := by omega
          have p2 : (j : Int) < (value.size : Int) := by omega
          clear hc ht
          by_cases k1 : c = 38
          · have e1 : (c == 38) = true := beq_iff_eq.mpr k1
            clear k1
            go_wp2_with fail
            go_ret
            exact ⟨rfl, HB1.out⟩
          have e1 : (c == 38) = false := beq_eq_false_iff_ne.mpr k1
          have HN2 := Aside0.mk (show ∀ x ∈ (bytesOf value).take (j + 1), x ≠ 38 by
            rw [HT.out]
            intro x hx
            rcases List.mem_append.1 hx with hx | hx
            · exact HN.out x hx
            · rw [List.mem_singleton.1 hx]; exact k1)
          clear k1
          go_wp2_with fail
          go_roundg n
          case measure => omega
          case rel => exact ⟨j + 1, by go_num, ⟨by have := HK.out; omega⟩, HN2, ⟨rfl⟩⟩
        | zero =>
          obtain rfl : j = value.size := by have := HK.out; omega
          have hn := HN.out
          rw [List.take_of_length_le (by rw [bytesOf_length]; omega)] at hn
          have HVm := Lib.hid hn
          clear hn HN HK
          have s1 := S1.out
          have s2 := S2.out
          have s3 := S3.out
          have r1 := fun w => target_calls message w (by omega)
          have hz := encB_size message
          have htz : (targetF message).size = 15 + (encB message).size := by unfold targetF; rw [ByteArray.size_append]; rfl
          obtain ⟨t, e0⟩ : ∃ t, targetF message = t := ⟨_, rfl⟩
          obtain ⟨o1, x1⟩ : ∃ p, name ++ (⟨#[61]⟩ : ByteArray) = p := ⟨_, rfl⟩
          obtain ⟨o, x2⟩ : ∃ p, o1 ++ value = p := ⟨_, rfl⟩
          obtain ⟨p01, x3⟩ : ∃ p, t ++ (⟨#[38]⟩ : ByteArray) = p := ⟨_, rfl⟩
          obtain ⟨p0, x4⟩ : ∃ p, p01 ++ o = p := ⟨_, rfl⟩
          obtain ⟨p11, x5⟩ : ∃ p, (⟨#[47, 100, 110, 115, 45, 113, 117, 101, 114, 121, 63]⟩ : ByteArray) ++ o = p := ⟨_, rfl⟩
          obtain ⟨p12, x6⟩ : ∃ p, p11 ++ (⟨#[38]⟩ : ByteArray) = p := ⟨_, rfl⟩
          obtain ⟨ts, xs⟩ : ∃ p, t.extract 11 t.size = p := ⟨_, rfl⟩
          obtain ⟨p1, x7⟩ : ∃ p, p12 ++ ts = p := ⟨_, rfl⟩
          obtain ⟨p2, x8⟩ : ∃ p, t ++ (⟨#[38, 100, 110, 115, 61, 120]⟩ : ByteArray) = p := ⟨_, rfl⟩
          have hall := fun b => four_paths (p1 := p1) HNm.out HVm.out HD.out e0 x1 x2 x3 x4 x5 x6 (by rw [xs]; exact x7) x8 b
          rw [e0] at r1 htz
          have zt : t.size ≤ 5000 := by omega
          have zt2 : 11 ≤ t.size := by omega
          have z1 : o1.size = name.size + 1 := by rw [← x1, ByteArray.size_append]; rfl
          have z2 : o.size = o1.size + value.size := by rw [← x2, ByteArray.size_append]
          have z3 : p01.size = t.size + 1 := by rw [← x3, ByteArray.size_append]; rfl
          have z4 : p0.size = p01.size + o.size := by rw [← x4, ByteArray.size_append]
          have z5 : p11.size = 11 + o.size := by rw [← x5, ByteArray.size_append]; rfl
          have z6 : p12.size = p11.size + 1 := by rw [← x6, ByteArray.size_append]; rfl
          have zs : ts.size = t.size - 11 := by rw [← xs, ByteArray.size_extract] <;> try omega
          have z7 : p1.size = p12.size + ts.size := by rw [← x7, ByteArray.size_append]
          have z8 : p2.size = t.size + 6 := by rw [← x8, ByteArray.size_append]; rfl
          have A1 := Lib.hid (fun W => show (Op.stringOp .add name ⟨#[61]⟩).run Try.prog W = .ok (.string o1) W by rw [← x1]; exact run_string_add_sum (P := Try.prog) W name ⟨#[61]⟩ (by show _ + 1 ≤ _; omega))
          have A2 := Lib.hid (fun W => show (Op.stringOp .add o1 value).run Try.prog W = .ok (.string o) W by rw [← x2]; exact run_string_add_sum (P := Try.prog) W o1 value (by omega))
          have A3 := Lib.hid (fun W => show (Op.stringOp .add t ⟨#[38]⟩).run Try.prog W = .ok (.string p01) W by rw [← x3]; exact run_string_add_sum (P := Try.prog) W t ⟨#[38]⟩ (by show _ + 1 ≤ _; omega))
          have A4 := Lib.hid (fun W => show (Op.stringOp .add p01 o).run Try.prog W = .ok (.string p0) W by rw [← x4]; exact run_string_add_sum (P := Try.prog) W p01 o (by omega))
          have A5 := Lib.hid (fun W => show (Op.stringOp .add ⟨#[47, 100, 110, 115, 45, 113, 117, 101, 114, 121, 63]⟩ o).run Try.prog W = .ok (.string p11) W by rw [← x5]; exact run_string_add_sum (P := Try.prog) W _ o (by show 11 + _ ≤ _; omega))
          have A6 := Lib.hid (fun W => show (Op.stringOp .add p11 ⟨#[38]⟩).run Try.prog W = .ok (.string p12) W by rw [← x6]; exact run_string_add_sum (P := Try.prog) W p11 ⟨#[38]⟩ (by show _ + 1 ≤ _; omega))
          have A7 := Lib.hid (fun W => show (Op.stringOp .add p12 (t.extract 11 t.size)).run Try.prog W = .ok (.string p1) W by rw [xs, ← x7]; exact run_string_add_sum (P := Try.prog) W p12 ts (by omega))
          have A8 := Lib.hid (fun W => show (Op.stringOp .add t ⟨#[38, 100, 110, 115, 61, 120]⟩).run Try.prog W = .ok (.string p2) W by rw [← x8]; exact run_string_add_sum (P := Try.prog) W t ⟨#[38, 100, 110, 115, 61, 120]⟩ (by show _ + 6 ≤ _; omega))
          have q5 : (11 : Int) ≤ (t.size : Int) := by omega
          have q6 : (t.size : Int) ≤ 5000 := by omega
          obtain ⟨X, hX⟩ : ∃ X, routeS message = X := ⟨_, rfl⟩
          rw [hX] at hall
          obtain ⟨m, k, st⟩ := X
          have R0 := Aside0.mk (fun w => show Calls Try.prog _ _ w fun e w' => RoutePost (m, k, st) w e w' by have := route_calls (getR t) ⟨#[]⟩ w (by show t.size ≤ _; omega) (by decide); rw [(hall _).1] at this; exact this)
          have R1 := Aside0.mk (fun w => show Calls Try.prog _ _ w fun e w' => RoutePost (m, k, st) w e w' by have := route_calls (getR p0) ⟨#[]⟩ w (by show p0.size ≤ _; omega) (by decide); rw [(hall _).2.1] at this; exact this)
          have R2 := Aside0.mk (fun w => show Calls Try.prog _ _ w fun e w' => RoutePost (m, k, st) w e w' by have := route_calls (getR p1) ⟨#[]⟩ w (by show p1.size ≤ _; omega) (by decide); rw [(hall _).2.2.1] at this; exact this)
          have R3 := Aside0.mk (fun w => show Calls Try.prog _ _ w fun e w' => RoutePost (m, k, st) w e w' by have := route_calls (getR p2) ⟨#[]⟩ w (by show p2.size ≤ _; omega) (by decide); rw [(hall _).2.2.2.1] at this; exact this)
          have R4 := Aside0.mk (fun w => show Calls Try.prog _ _ w fun e w' => RoutePost (m, k, st) w e w' by have := route_calls (getR p01) ⟨#[]⟩ w (by show p01.size ≤ _; omega) (by decide); rw [(hall _).2.2.2.2] at this; exact this)
          have RT := Aside0.mk r1
          clear r1 hz htz hall hX s1 s2 s3 x1 x2 x3 x4 x5 x6 x7 x8 xs zt z1 z2 z3 z4 z5 z6 zs z7 z8 e0 S1 S2 S3 HNm HVm HD
          go_wp2_with fail
          have b1 := A1.out
          have b2 := A2.out
          refine (RT.out _).mono ?_
          rintro e w2 ⟨rfl, hb⟩
          have HB2 := Aside0.mk (HB1.out.trans (hb.mono HB1.out.size))
          clear hb HB1
          go_wp2_with fail
          clear b1 b2 A1 A2 RT
          refine (R0.out _).mono ?_
          rintro e w3 ⟨⟨v, rfl, hm⟩, hb⟩
          have HB3 := Aside0.mk (below_step HB2.out hb)
          have HM := hm
          obtain ⟨D2, l2, D3, l3, D4, l4, D5, l5, rfl, h2, g2, h3, g3, h4, g4, h5, g5⟩ := hm
          clear hb HB2 h2 g2 h3 g3 h4 g4 h5 g5 R0
          unfold Key.v
          simp only []
          go_upto_region 18 with fail
          obtain ⟨HX, HK, hb⟩ := two_at w3 #[.int .u16 m.id, .int .u16 m.flags, .slice D2 m.qs.length l2, .slice D3 m.ans.length l3, .slice D4 m.auth.length l4, .slice D5 m.add.length l5] #[.string k.name, .int .u16 k.ty, .int .u16 k.cl, .bool k.dO] 35 37
          have HM4 := Aside0.mk (HM.below hb)
          have HX4 := Aside0.mk HX
          have HK4 := Aside0.mk HK
          have HB4 := Aside0.mk (below_step HB3.out hb)
          clear HX HK hb HB3 HM
          generalize (w3.alloc (.cells #[.int .u16 m.id, .int .u16 m.flags, .slice D2 m.qs.length l2, .slice D3 m.ans.length l3, .slice D4 m.auth.length l4, .slice D5 m.add.length l5] 35 (0, 0))).alloc (.cells #[.string k.name, .int .u16 k.ty, .int .u16 k.cl, .bool k.dO] 37 (0, 0)) = w4 at *
          generalize w3.heap.size + 1 = b1 at *
          generalize w3.heap.size = a1 at *
          have b3 := A3.out
          have b4 := A4.out
          have b5 := A5.out
          have b6 := A6.out
          have b7 := A7.out
          have b8 := A8.out
          go_upto_region 19 with fail
          clear b3 b4 b5 b6 b7 b8 A3 A4 A5 A6 A7 A8 q3 q4 q5 q6
          have hb := below_alloc (Below.refl w4.heap.size w4) (.cells #[.string p0, .string p1, .string p2, .string p01] 50 (0, 0))
          have HP5 := Aside0.mk (SAt.new w4 #[.string p0, .string p1, .string p2, .string p01] 50)
          have HM5 := Aside0.mk (HM4.out.below hb)
          have HX5 := Aside0.mk (HX4.out.below hb)
          have HK5 := Aside0.mk (HK4.out.below hb)
          have HB5 := Aside0.mk (below_step HB4.out hb)
          clear hb HM4 HX4 HK4 HB4
          generalize w4.alloc (.cells #[.string p0, .string p1, .string p2, .string p01] 50 (0, 0)) = w5 at *
          generalize w4.heap.size = a5 at *
          have e1 := text_eq k.name
          go_wp2_with fail
          go_loopg [15] 4 (fun kq v15 w' => ∃ j : Nat, v15 = .int .i64 j ∧ Aside0 (kq + j = 4) ∧ Aside0 (SAt w' a5 #[.string p0, .string p1, .string p2, .string p01] 50) ∧ Aside0 (MsgAt w' (.agg #[.int .u16 m.id, .int .u16 m.flags, .slice D2 m.qs.length l2, .slice D3 m.ans.length l3, .slice D4 m.auth.length l4, .slice D5 m.add.length l5]) m) ∧ Aside0 (SAt w' a1 #[.int .u16 m.id, .int .u16 m.flags, .slice D2 m.qs.length l2, .slice D3 m.ans.length l3, .slice D4 m.auth.length l4, .slice D5 m.add.length l5] 35) ∧ Aside0 (SAt w' b1 #[.string k.name, .int .u16 k.ty, .int .u16 k.cl, .bool k.dO] 37) ∧ Aside0 (Below W.heap.size W w'))
          case atStart => exact ⟨0, rfl, ⟨rfl⟩, HP5, HM5, HX5, HK5, HB5⟩
          case round =>
            clear HP5 HM5 HX5 HK5 HB5
            obtain ⟨j, rfl, HJ, HP, HM, HX, HK, HB⟩ := hrel
            have hj := HJ.out
            rcases (show j = 0 ∨ j = 1 ∨ j = 2 ∨ j = 3 ∨ j = 4 by omega) with rfl | rfl | rfl | rfl | rfl
            · obtain rfl : gk = 3 + 1 := by omega
              clear hj
              have xp : World.cell? _ ⟨_, 0, none⟩ = some (.string p0) := HP.out.is 0 rfl
              go_wp2_with fail
              refine (R1.out _).mono ?_
              rintro e w6 ⟨⟨v, rfl, hm⟩, hb⟩
              have HP6 := Aside0.mk (HP.out.below hb)
              have HM6 := Aside0.mk (HM.out.below hb)
              have HX6 := Aside0.mk (HX.out.below hb)
              have HK6 := Aside0.mk (HK.out.below hb)
              have HB6 := Aside0.mk (below_step HB.out hb)
              have HN := hm
              obtain ⟨B2, d2, B3, d3, B4, d4, B5, d5, rfl, h2, g2, h3, g3, h4, g4, h5, g5⟩ := hm
              clear hb h2 g2 h3 g3 h4 g4 h5 g5 HP HM HX HK HB xp
              unfold Key.v
              simp only []
              go_upto_region 23 with fail
              obtain ⟨HX', HK', hb⟩ := two_at w6 #[.int .u16 m.id, .int .u16 m.flags, .slice B2 m.qs.length d2, .slice B3 m.ans.length d3, .slice B4 m.auth.length d4, .slice B5 m.add.length d5] #[.string k.name, .int .u16 k.ty, .int .u16 k.cl, .bool k.dO] 35 37
              have HN7 := Aside0.mk (HN.below hb)
              have HP7 := Aside0.mk (HP6.out.below hb)
              have HM7 := Aside0.mk (HM6.out.below hb)
              have HX7 := Aside0.mk (HX6.out.below hb)
              have HK7 := Aside0.mk (HK6.out.below hb)
              have HB7 := Aside0.mk (below_step HB6.out hb)
              clear hb HN HP6 HM6 HX6 HK6 HB6
              generalize (w6.alloc (.cells #[.int .u16 m.id, .int .u16 m.flags, .slice B2 m.qs.length d2, .slice B3 m.ans.length d3, .slice B4 m.auth.length d4, .slice B5 m.add.length d5] 35 (0, 0))).alloc (.cells #[.string k.name, .int .u16 k.ty, .int .u16 k.cl, .bool k.dO] 37 (0, 0)) = w7 at *
              generalize w6.heap.size + 1 = b7 at *
              generalize w6.heap.size = a7 at *
              have x0 := HX7.out.is 0 rfl
              have x1 := HX7.out.is 1 rfl
              have x2 := HX7.out.is 2 rfl
              have x3 := HX7.out.is 3 rfl
              have x4 := HX7.out.is 4 rfl
              have x5 := HX7.out.is 5 rfl
              have y0 := HX'.is 0 rfl
              have y1 := HX'.is 1 rfl
              have y2 := HX'.is 2 rfl
              have y3 := HX'.is 3 rfl
              have y4 := HX'.is 4 rfl
              have y5 := HX'.is 5 rfl
              have k0 : World.cell? _ ⟨_, 0, none⟩ = some (.string k.name) := HK7.out.is 0 rfl
              have k1 : World.cell? _ ⟨_, 1, none⟩ = some (.int .u16 k.ty) := HK7.out.is 1 rfl
              have k2 : World.cell? _ ⟨_, 2, none⟩ = some (.int .u16 k.cl) := HK7.out.is 2 rfl
              have k3 : World.cell? _ ⟨_, 3, none⟩ = some (.bool k.dO) := HK7.out.is 3 rfl
              have j0 : World.cell? _ ⟨_, 0, none⟩ = some (.string k.name) := HK'.is 0 rfl
              have j1 : World.cell? _ ⟨_, 1, none⟩ = some (.int .u16 k.ty) := HK'.is 1 rfl
              have j2 : World.cell? _ ⟨_, 2, none⟩ = some (.int .u16 k.cl) := HK'.is 2 rfl
              have j3 : World.cell? _ ⟨_, 3, none⟩ = some (.bool k.dO) := HK'.is 3 rfl
              clear HX' HK'
              go_wp2_with fail
              refine (same6_yes HM7.out HN7.out).mono ?_
              rintro e w8 ⟨rfl, hb⟩
              have HP8 := Aside0.mk (HP7.out.below hb)
              have HM8 := Aside0.mk (HM7.out.below hb)
              have HX8 := Aside0.mk (HX7.out.below hb)
              have HK8 := Aside0.mk (HK7.out.below hb)
              have HB8 := Aside0.mk (below_step HB7.out hb)
              clear hb HP7 HM7 HX7 HK7 HB7 HN7 x0 x1 x2 x3 x4 x5 y0 y1 y2 y3 y4 y5 k0 k1 k2 k3 j0 j1 j2 j3
              go_wp2_with fail
              go_roundg 3
              case measure => omega
              case rel => exact ⟨0 + 1, by go_num, ⟨by omega⟩, HP8, HM8, HX8, HK8, HB8⟩
            · obtain rfl : gk = 2 + 1 := by omega
              clear hj
              have xp : World.cell? _ ⟨_, 1, none⟩ = some (.string p1) := HP.out.is 1 rfl
              go_wp2_with fail
              refine (R2.out _).mono ?_
              rintro e w6 ⟨⟨v, rfl, hm⟩, hb⟩
              have HP6 := Aside0.mk (HP.out.below hb)
              have HM6 := Aside0.mk (HM.out.below hb)
              have HX6 := Aside0.mk (HX.out.below hb)
              have HK6 := Aside0.mk (HK.out.below hb)
              have HB6 := Aside0.mk (below_step HB.out hb)
              have HN := hm
              obtain ⟨B2, d2, B3, d3, B4, d4, B5, d5, rfl, h2, g2, h3, g3, h4, g4, h5, g5⟩ := hm
              clear hb h2 g2 h3 g3 h4 g4 h5 g5 HP HM HX HK HB xp
              unfold Key.v
              simp only []
              go_upto_region 23 with fail
              obtain ⟨HX', HK', hb⟩ := two_at w6 #[.int .u16 m.id, .int .u16 m.flags, .slice B2 m.qs.length d2, .slice B3 m.ans.length d3, .slice B4 m.auth.length d4, .slice B5 m.add.length d5] #[.string k.name, .int .u16 k.ty, .int .u16 k.cl, .bool k.dO] 35 37
              have HN7 := Aside0.mk (HN.below hb)
              have HP7 := Aside0.mk (HP6.out.below hb)
              have HM7 := Aside0.mk (HM6.out.below hb)
              have HX7 := Aside0.mk (HX6.out.below hb)
              have HK7 := Aside0.mk (HK6.out.below hb)
              have HB7 := Aside0.mk (below_step HB6.out hb)
              clear hb HN HP6 HM6 HX6 HK6 HB6
              generalize (w6.alloc (.cells #[.int .u16 m.id, .int .u16 m.flags, .slice B2 m.qs.length d2, .slice B3 m.ans.length d3, .slice B4 m.auth.length d4, .slice B5 m.add.length d5] 35 (0, 0))).alloc (.cells #[.string k.name, .int .u16 k.ty, .int .u16 k.cl, .bool k.dO] 37 (0, 0)) = w7 at *
              generalize w6.heap.size + 1 = b7 at *
              generalize w6.heap.size = a7 at *
              have x0 := HX7.out.is 0 rfl
              have x1 := HX7.out.is 1 rfl
              have x2 := HX7.out.is 2 rfl
              have x3 := HX7.out.is 3 rfl
              have x4 := HX7.out.is 4 rfl
              have x5 := HX7.out.is 5 rfl
              have y0 := HX'.is 0 rfl
              have y1 := HX'.is 1 rfl
              have y2 := HX'.is 2 rfl
              have y3 := HX'.is 3 rfl
              have y4 := HX'.is 4 rfl
              have y5 := HX'.is 5 rfl
              have k0 : World.cell? _ ⟨_, 0, none⟩ = some (.string k.name) := HK7.out.is 0 rfl
              have k1 : World.cell? _ ⟨_, 1, none⟩ = some (.int .u16 k.ty) := HK7.out.is 1 rfl
              have k2 : World.cell? _ ⟨_, 2, none⟩ = some (.int .u16 k.cl) := HK7.out.is 2 rfl
              have k3 : World.cell? _ ⟨_, 3, none⟩ = some (.bool k.dO) := HK7.out.is 3 rfl
              have j0 : World.cell? _ ⟨_, 0, none⟩ = some (.string k.name) := HK'.is 0 rfl
              have j1 : World.cell? _ ⟨_, 1, none⟩ = some (.int .u16 k.ty) := HK'.is 1 rfl
              have j2 : World.cell? _ ⟨_, 2, none⟩ = some (.int .u16 k.cl) := HK'.is 2 rfl
              have j3 : World.cell? _ ⟨_, 3, none⟩ = some (.bool k.dO) := HK'.is 3 rfl
              clear HX' HK'
              go_wp2_with fail
              refine (same6_yes HM7.out HN7.out).mono ?_
              rintro e w8 ⟨rfl, hb⟩
              have HP8 := Aside0.mk (HP7.out.below hb)
              have HM8 := Aside0.mk (HM7.out.below hb)
              have HX8 := Aside0.mk (HX7.out.below hb)
              have HK8 := Aside0.mk (HK7.out.below hb)
              have HB8 := Aside0.mk (below_step HB7.out hb)
              clear hb HP7 HM7 HX7 HK7 HB7 HN7 x0 x1 x2 x3 x4 x5 y0 y1 y2 y3 y4 y5 k0 k1 k2 k3 j0 j1 j2 j3
              go_wp2_with fail
              go_roundg 2
              case measure => omega
              case rel => exact ⟨1 + 1, by go_num, ⟨by omega⟩, HP8, HM8, HX8, HK8, HB8⟩
            · obtain rfl : gk = 1 + 1 := by omega
              clear hj
              have xp : World.cell? _ ⟨_, 2, none⟩ = some (.string p2) := HP.out.is 2 rfl
              go_wp2_with fail
              refine (R3.out _).mono ?_
              rintro e w6 ⟨⟨v, rfl, hm⟩, hb⟩
              have HP6 := Aside0.mk (HP.out.below hb)
              have HM6 := Aside0.mk (HM.out.below hb)
              have HX6 := Aside0.mk (HX.out.below hb)
              have HK6 := Aside0.mk (HK.out.below hb)
              have HB6 := Aside0.mk (below_step HB.out hb)
              have HN := hm
              obtain ⟨B2, d2, B3, d3, B4, d4, B5, d5, rfl, h2, g2, h3, g3, h4, g4, h5, g5⟩ := hm
              clear hb h2 g2 h3 g3 h4 g4 h5 g5 HP HM HX HK HB xp
              unfold Key.v
              simp only []
              go_upto_region 23 with fail
              obtain ⟨HX', HK', hb⟩ := two_at w6 #[.int .u16 m.id, .int .u16 m.flags, .slice B2 m.qs.length d2, .slice B3 m.ans.length d3, .slice B4 m.auth.length d4, .slice B5 m.add.length d5] #[.string k.name, .int .u16 k.ty, .int .u16 k.cl, .bool k.dO] 35 37
              have HN7 := Aside0.mk (HN.below hb)
              have HP7 := Aside0.mk (HP6.out.below hb)
              have HM7 := Aside0.mk (HM6.out.below hb)
              have HX7 := Aside0.mk (HX6.out.below hb)
              have HK7 := Aside0.mk (HK6.out.below hb)
              have HB7 := Aside0.mk (below_step HB6.out hb)
              clear hb HN HP6 HM6 HX6 HK6 HB6
              generalize (w6.alloc (.cells #[.int .u16 m.id, .int .u16 m.flags, .slice B2 m.qs.length d2, .slice B3 m.ans.length d3, .slice B4 m.auth.length d4, .slice B5 m.add.length d5] 35 (0, 0))).alloc (.cells #[.string k.name, .int .u16 k.ty, .int .u16 k.cl, .bool k.dO] 37 (0, 0)) = w7 at *
              generalize w6.heap.size + 1 = b7 at *
              generalize w6.heap.size = a7 at *
              have x0 := HX7.out.is 0 rfl
              have x1 := HX7.out.is 1 rfl
              have x2 := HX7.out.is 2 rfl
              have x3 := HX7.out.is 3 rfl
              have x4 := HX7.out.is 4 rfl
              have x5 := HX7.out.is 5 rfl
              have y0 := HX'.is 0 rfl
              have y1 := HX'.is 1 rfl
              have y2 := HX'.is 2 rfl
              have y3 := HX'.is 3 rfl
              have y4 := HX'.is 4 rfl
              have y5 := HX'.is 5 rfl
              have k0 : World.cell? _ ⟨_, 0, none⟩ = some (.string k.name) := HK7.out.is 0 rfl
              have k1 : World.cell? _ ⟨_, 1, none⟩ = some (.int .u16 k.ty) := HK7.out.is 1 rfl
              have k2 : World.cell? _ ⟨_, 2, none⟩ = some (.int .u16 k.cl) := HK7.out.is 2 rfl
              have k3 : World.cell? _ ⟨_, 3, none⟩ = some (.bool k.dO) := HK7.out.is 3 rfl
              have j0 : World.cell? _ ⟨_, 0, none⟩ = some (.string k.name) := HK'.is 0 rfl
              have j1 : World.cell? _ ⟨_, 1, none⟩ = some (.int .u16 k.ty) := HK'.is 1 rfl
              have j2 : World.cell? _ ⟨_, 2, none⟩ = some (.int .u16 k.cl) := HK'.is 2 rfl
              have j3 : World.cell? _ ⟨_, 3, none⟩ = some (.bool k.dO) := HK'.is 3 rfl
              clear HX' HK'
              go_wp2_with fail
              refine (same6_yes HM7.out HN7.out).mono ?_
              rintro e w8 ⟨rfl, hb⟩
              have HP8 := Aside0.mk (HP7.out.below hb)
              have HM8 := Aside0.mk (HM7.out.below hb)
              have HX8 := Aside0.mk (HX7.out.below hb)
              have HK8 := Aside0.mk (HK7.out.below hb)
              have HB8 := Aside0.mk (below_step HB7.out hb)
              clear hb HP7 HM7 HX7 HK7 HB7 HN7 x0 x1 x2 x3 x4 x5 y0 y1 y2 y3 y4 y5 k0 k1 k2 k3 j0 j1 j2 j3
              go_wp2_with fail
              go_roundg 1
              case measure => omega
              case rel => exact ⟨2 + 1, by go_num, ⟨by omega⟩, HP8, HM8, HX8, HK8, HB8⟩
            · obtain rfl : gk = 0 + 1 := by omega
              clear hj
              have xp : World.cell? _ ⟨_, 3, none⟩ = some (.string p01) := HP.out.is 3 rfl
              go_wp2_with fail
              refine (R4.out _).mono ?_
              rintro e w6 ⟨⟨v, rfl, hm⟩, hb⟩
              have HP6 := Aside0.mk (HP.out.below hb)
              have HM6 := Aside0.mk (HM.out.below hb)
              have HX6 := Aside0.mk (HX.out.below hb)
              have HK6 := Aside0.mk (HK.out.below hb)
              have HB6 := Aside0.mk (below_step HB.out hb)
              have HN := hm
              obtain ⟨B2, d2, B3, d3, B4, d4, B5, d5, rfl, h2, g2, h3, g3, h4, g4, h5, g5⟩ := hm
              clear hb h2 g2 h3 g3 h4 g4 h5 g5 HP HM HX HK HB xp
              unfold Key.v
              simp only []
              go_upto_region 23 with fail
              obtain ⟨HX', HK', hb⟩ := two_at w6 #[.int .u16 m.id, .int .u16 m.flags, .slice B2 m.qs.length d2, .slice B3 m.ans.length d3, .slice B4 m.auth.length d4, .slice B5 m.add.length d5] #[.string k.name, .int .u16 k.ty, .int .u16 k.cl, .bool k.dO] 35 37
              have HN7 := Aside0.mk (HN.below hb)
              have HP7 := Aside0.mk (HP6.out.below hb)
              have HM7 := Aside0.mk (HM6.out.below hb)
              have HX7 := Aside0.mk (HX6.out.below hb)
              have HK7 := Aside0.mk (HK6.out.below hb)
              have HB7 := Aside0.mk (below_step HB6.out hb)
              clear hb HN HP6 HM6 HX6 HK6 HB6
              generalize (w6.alloc (.cells #[.int .u16 m.id, .int .u16 m.flags, .slice B2 m.qs.length d2, .slice B3 m.ans.length d3, .slice B4 m.auth.length d4, .slice B5 m.add.length d5] 35 (0, 0))).alloc (.cells #[.string k.name, .int .u16 k.ty, .int .u16 k.cl, .bool k.dO] 37 (0, 0)) = w7 at *
              generalize w6.heap.size + 1 = b7 at *
              generalize w6.heap.size = a7 at *
              have x0 := HX7.out.is 0 rfl
              have x1 := HX7.out.is 1 rfl
              have x2 := HX7.out.is 2 rfl
              have x3 := HX7.out.is 3 rfl
              have x4 := HX7.out.is 4 rfl
              have x5 := HX7.out.is 5 rfl
              have y0 := HX'.is 0 rfl
              have y1 := HX'.is 1 rfl
              have y2 := HX'.is 2 rfl
              have y3 := HX'.is 3 rfl
              have y4 := HX'.is 4 rfl
              have y5 := HX'.is 5 rfl
              have k0 : World.cell? _ ⟨_, 0, none⟩ = some (.string k.name) := HK7.out.is 0 rfl
              have k1 : World.cell? _ ⟨_, 1, none⟩ = some (.int .u16 k.ty) := HK7.out.is 1 rfl
              have k2 : World.cell? _ ⟨_, 2, none⟩ = some (.int .u16 k.cl) := HK7.out.is 2 rfl
              have k3 : World.cell? _ ⟨_, 3, none⟩ = some (.bool k.dO) := HK7.out.is 3 rfl
              have j0 : World.cell? _ ⟨_, 0, none⟩ = some (.string k.name) := HK'.is 0 rfl
              have j1 : World.cell? _ ⟨_, 1, none⟩ = some (.int .u16 k.ty) := HK'.is 1 rfl
              have j2 : World.cell? _ ⟨_, 2, none⟩ = some (.int .u16 k.cl) := HK'.is 2 rfl
              have j3 : World.cell? _ ⟨_, 3, none⟩ = some (.bool k.dO) := HK'.is 3 rfl
              clear HX' HK'
              go_wp2_with fail
              refine (same6_yes HM7.out HN7.out).mono ?_
              rintro e w8 ⟨rfl, hb⟩
              have HP8 := Aside0.mk (HP7.out.below hb)
              have HM8 := Aside0.mk (HM7.out.below hb)
              have HX8 := Aside0.mk (HX7.out.below hb)
              have HK8 := Aside0.mk (HK7.out.below hb)
              have HB8 := Aside0.mk (below_step HB7.out hb)
              clear hb HP7 HM7 HX7 HK7 HB7 HN7 x0 x1 x2 x3 x4 x5 y0 y1 y2 y3 y4 y5 k0 k1 k2 k3 j0 j1 j2 j3
              go_wp2_with fail
              go_roundg 0
              case measure => omega
              case rel => exact ⟨3 + 1, by go_num, ⟨by omega⟩, HP8, HM8, HX8, HK8, HB8⟩
            · clear hj
              go_wp2_with fail
              go_ret
              exact ⟨rfl, HB.out⟩
end Go.Proofs.Ytfoflodgegehfaa.M
