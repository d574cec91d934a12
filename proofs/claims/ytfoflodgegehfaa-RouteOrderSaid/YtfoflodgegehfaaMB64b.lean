/- Walks of nuncioref03.Encode, Decode. -/
import Derived.Test.YtfoflodgegehfaaMB64a
import Derived.Test.YtfoflodgegehfaaWRepsOne
set_option linter.unusedVariables false
set_option linter.unusedSimpArgs false
namespace Go.Proofs.Ytfoflodgegehfaa.B64
open Go.RowKit Go.Proofs.YtfoflodgegehfaaW.PrintWords Go.Proofs.YtfoflodgegehfaaW.PrintLast Go.Proofs.YtfoflodgegehfaaW.PrintMore
attribute [local go_sem] max2_int min2_int max_two min_two max_three min_three max_four min_four
theorem info5 : (Try.prog.info? 5).map (fun i => (i.zero, i.size, i.bytes)) = some (some (.int .u8 0), 1, 1) := by kernel_rfl

/-! ### nuncioref03_Encode: function 26 -/
mutual
def nuncioref03_Encode.l0 : Nat → ByteArray → List Int → Int → Option (ByteArray)
  | 0, _, _, _ => none
  | k + 1, x0, x3, x4 => if x4 < (x0.size : Int) then (nuncioref03_Encode.l1 k x0 x3 x4 0 0 x4) else (some (strOfNums x3))
def nuncioref03_Encode.l1 : Nat → ByteArray → List Int → Int → Int → Int → Int → Option (ByteArray)
  | 0, _, _, _, _, _, _ => none
  | k + 1, x0, x3, x4, x5, x6, x7 => if x7 < (wrap64 (x4 + 3)) then (if x7 < (x0.size : Int) then (if 0 ≤ x7 then (nuncioref03_Encode.l1 k x0 x3 x4 (wrap64 ((wrap64 (x5 * 256)) + (wrap64 (bt x0 x7)))) (wrap64 (x6 + 1)) (wrap64 (x7 + 1))) else (none)) else (nuncioref03_Encode.l1 k x0 x3 x4 (wrap64 (x5 * 256)) x6 (wrap64 (x7 + 1)))) else ((nuncioref03_sign.f (wrap64 (Int.tdiv x5 262144))).bind fun t107 => ((nuncioref03_sign.f (Int.tmod (wrap64 (Int.tdiv x5 4096)) 64)).bind fun t108 => ((nuncioref03_sign.f (Int.tmod (wrap64 (Int.tdiv x5 64)) 64)).bind fun t109 => ((nuncioref03_sign.f (Int.tmod x5 64)).bind fun t110 => ((some (([t107, t108, t109, t110] : List Int) : List Int)).bind fun y111 => (if 0 ≤ (wrap64 (x6 + 1)) then (if (wrap64 (x6 + 1)) ≤ (y111.length : Int) then ((some (y111.take ((wrap64 (x6 + 1)) : Int).toNat : List Int)).bind fun y114 => (if x3.length + y114.length < 140737488355328 then (nuncioref03_Encode.l0 k x0 (x3 ++ y114) (wrap64 (x4 + 3))) else (none))) else (none)) else (none)))))))
end
def nuncioref03_Encode.f (k : Nat) (a0 : ByteArray) : Option (ByteArray) := nuncioref03_Encode.l0 k a0 ([] : List Int) 0
theorem nuncioref03_Encode.mono_l : ∀ k, (∀ y0 y1 y2, LeO (nuncioref03_Encode.l0 k y0 y1 y2) (nuncioref03_Encode.l0 (k + 1) y0 y1 y2)) ∧ (∀ y0 y1 y2 y3 y4 y5, LeO (nuncioref03_Encode.l1 k y0 y1 y2 y3 y4 y5) (nuncioref03_Encode.l1 (k + 1) y0 y1 y2 y3 y4 y5))
  | 0 => ⟨fun _ _ _ r h => by simp [nuncioref03_Encode.l0] at h, fun _ _ _ _ _ _ r h => by simp [nuncioref03_Encode.l1] at h⟩
  | k + 1 => by
    obtain ⟨ih0, ih1⟩ := nuncioref03_Encode.mono_l k
    refine ⟨?_, ?_⟩
    · intro y0 y1 y2
      unfold nuncioref03_Encode.l0
      repeat' first
      | (with_reducible exact ih0 _ _ _)
      | (with_reducible exact ih1 _ _ _ _ _ _)
      | (with_reducible exact LeO.refl _)
      | (with_reducible exact LeO.none _)
      | (with_reducible refine LeO.ite ?_ ?_)
      | (with_reducible refine LeO.bind ?_ (fun _ => ?_))
      | exact ih0 _ _ _
      | exact ih1 _ _ _ _ _ _
      | exact LeO.none _
      | refine LeO.ite ?_ ?_
      | refine LeO.bind ?_ (fun _ => ?_)
    · intro y0 y1 y2 y3 y4 y5
      unfold nuncioref03_Encode.l1
      repeat' first
      | (with_reducible exact ih0 _ _ _)
      | (with_reducible exact ih1 _ _ _ _ _ _)
      | (with_reducible exact LeO.refl _)
      | (with_reducible exact LeO.none _)
      | (with_reducible refine LeO.ite ?_ ?_)
      | (with_reducible refine LeO.bind ?_ (fun _ => ?_))
      | exact ih0 _ _ _
      | exact ih1 _ _ _ _ _ _
      | exact LeO.none _
      | refine LeO.ite ?_ ?_
      | refine LeO.bind ?_ (fun _ => ?_)
theorem nuncioref03_Encode.mono : ∀ a0 k, LeO (nuncioref03_Encode.f k a0) (nuncioref03_Encode.f (k + 1) a0) := by
  intro a0 k
  obtain ⟨ih0, ih1⟩ := nuncioref03_Encode.mono_l k
  unfold nuncioref03_Encode.f
  repeat' first
      | (with_reducible exact ih0 _ _ _)
      | (with_reducible exact ih1 _ _ _ _ _ _)
      | (with_reducible exact LeO.refl _)
      | (with_reducible exact LeO.none _)
      | (with_reducible refine LeO.ite ?_ ?_)
      | (with_reducible refine LeO.bind ?_ (fun _ => ?_))
      | exact ih0 _ _ _
      | exact ih1 _ _ _ _ _ _
      | exact LeO.none _
      | refine LeO.ite ?_ ?_
      | refine LeO.bind ?_ (fun _ => ?_)
set_option maxHeartbeats 8000000 in
set_option maxRecDepth 100000 in
theorem nuncioref03_Encode.calls (k : Nat) (a0 : ByteArray) (r : ByteArray) (w : World) (h : nuncioref03_Encode.f k a0 = some r) :
    Calls Try.prog 23 #[.string a0] w fun e w' => e = .returned (.string r) ∧ Below w.heap.size w w' := by
  have HB := Aside0.mk (Below.refl w.heap.size w)
  have H : (nuncioref03_Encode.l0 k a0 ([] : List Int) 0) = some r := h
  clear h
  have H' := Aside0.mk H
  clear H
  go_enter Try.func23, Try.ntmps23
  go_wp2
  go_loopg [3, 4] k (fun kq v3 v4 w' => ∃ (x3_1 : List Int) (x4_1 : Int), v4 = .int .i64 x4_1 ∧ Aside0 (nuncioref03_Encode.l0 kq a0 x3_1 x4_1 = some r) ∧ Aside0 (kq ≤ k) ∧ Aside0 (Kd.R (Kd.int .u8) 5 w' w.heap.size (fun _ => True) v3 x3_1) ∧ Aside0 (Below w.heap.size w w'))
  case atStart => exact ⟨(([] : List Int)), (0), (by first | rfl | (simp; done) | (simp [*]; done)), H', ⟨Nat.le_refl _⟩, ⟨by first | exact Kd.R_nil _ _ _ _ _ | exact Kd.N_nil _ _ _ _ _ | exact Kd.V_nil _ _ _ _ _ | exact Kd.Q_nil _ _ _ _ _ | exact Kd.S_nil _ _ _ _ _⟩, ⟨by repeat (first | (with_reducible first | exact HB.out | apply below_alloc | apply pw_below_drewN | apply below_drew1) | exact HB.out)⟩⟩
  case round =>
    clear H'
    obtain ⟨x3_1, x4_1, rfl, HA, HK1, HO_3, HB⟩ := hrel
    cases gk with
    | zero => exact absurd HA.out (by simp [nuncioref03_Encode.l0])
    | succ k1 =>
      have H := HA.out
      clear HA
      simp only [nuncioref03_Encode.l0] at H
      by_cases c2 : x4_1 < (a0.size : Int)
      · rw [if_pos c2] at H
        have c2b0 : decide (x4_1 < (a0.size : Int)) = true := decide_eq_true c2
        clear c2
        have H' := Aside0.mk H
        clear H
        go_wp2
        go_loopg [5, 6, 7] k1 (fun kq v5 v6 v7 w' => ∃ (x5_2 : Int) (x6_2 : Int) (x7_2 : Int), v5 = .int .i64 x5_2 ∧ v6 = .int .i64 x6_2 ∧ v7 = .int .i64 x7_2 ∧ Aside0 (nuncioref03_Encode.l1 kq a0 x3_1 x4_1 x5_2 x6_2 x7_2 = some r) ∧ Aside0 (kq ≤ k1) ∧ Aside0 (Kd.R (Kd.int .u8) 5 w' w.heap.size (fun _ => True) u3 x3_1) ∧ Aside0 (Below w.heap.size w w'))
        case atStart => exact ⟨(0), (0), (x4_1), (by first | rfl | (simp; done) | (simp [*]; done)), (by first | rfl | (simp; done) | (simp [*]; done)), (by first | rfl | (simp; done) | (simp [*]; done)), H', ⟨Nat.le_refl _⟩, ⟨by (with_reducible repeat (first | apply Kd.R_alloc | apply Kd.R_drewN | apply Kd.R_drew)); exact HO_3.out⟩, ⟨by repeat (first | (with_reducible first | exact HB.out | apply below_alloc | apply pw_below_drewN | apply below_drew1) | exact HB.out)⟩⟩
        case round =>
          clear H'
          try clear c2
          try clear c2b0
          try clear p2
          obtain ⟨x5_2, x6_2, x7_2, rfl, rfl, rfl, HA, HK2, HO_3, HB⟩ := hrel
          cases gk with
          | zero => exact absurd HA.out (by simp [nuncioref03_Encode.l1])
          | succ k2 =>
            have H := HA.out
            clear HA
            simp only [nuncioref03_Encode.l1] at H
            by_cases c3 : x7_2 < (wrap64 (x4_1 + 3))
            · rw [if_pos c3] at H
              have c3b0 : decide (x7_2 < (wrap64 (x4_1 + 3))) = true := decide_eq_true c3
              clear c3
              by_cases c4 : x7_2 < (a0.size : Int)
              · rw [if_pos c4] at H
                have c4b0 : decide (x7_2 < (a0.size : Int)) = true := decide_eq_true c4
                clear c4
                by_cases c5 : 0 ≤ x7_2
                · rw [if_pos c5] at H
                  have c5b0 : decide (0 ≤ x7_2) = true := decide_eq_true c5
                  clear c5
                  have H' := Aside0.mk H
                  clear H
                  have p6 : 0 ≤ (x7_2 : Int) := of_decide_eq_true (by first | (with_reducible assumption) | assumption)
                  have q6 : x7_2 < (a0.size : Int) := of_decide_eq_true (by first | (with_reducible assumption) | assumption)
                  have hx6 := bt_at a0 x7_2
                  replace p6 := eq_true p6
                  replace q6 := eq_true q6
                  go_wp2
                  go_roundg k2
                  case measure => have := HK1.out; have := HK2.out; omega
                  case rel => exact ⟨(wrap64 ((wrap64 (x5_2 * 256)) + (wrap64 (bt a0 x7_2)))), (wrap64 (x6_2 + 1)), (wrap64 (x7_2 + 1)), (by first | rfl | (simp; done) | (simp [*]; done)), (by first | rfl | (simp; done) | (simp [*]; done)), (by first | rfl | (simp; done) | (simp [*]; done)), H', ⟨by have := HK1.out; have := HK2.out; omega⟩, ⟨by (with_reducible repeat (first | apply Kd.R_alloc | apply Kd.R_drewN | apply Kd.R_drew)); exact HO_3.out⟩, ⟨by repeat (first | (with_reducible first | exact HB.out | apply below_alloc | apply pw_below_drewN | apply below_drew1) | exact HB.out)⟩⟩
                · rw [if_neg c5] at H
                  exact absurd H (by simp)
              · rw [if_neg c4] at H
                have c4b0 : decide (x7_2 < (a0.size : Int)) = false := decide_eq_false c4
                clear c4
                have H' := Aside0.mk H
                clear H
                go_wp2
                go_roundg k2
                case measure => have := HK1.out; have := HK2.out; omega
                case rel => exact ⟨(wrap64 (x5_2 * 256)), (x6_2), (wrap64 (x7_2 + 1)), (by first | rfl | (simp; done) | (simp [*]; done)), (by first | rfl | (simp; done) | (simp [*]; done)), (by first | rfl | (simp; done) | (simp [*]; done)), H', ⟨by have := HK1.out; have := HK2.out; omega⟩, ⟨by (with_reducible repeat (first | apply Kd.R_alloc | apply Kd.R_drewN | apply Kd.R_drew)); exact HO_3.out⟩, ⟨by repeat (first | (with_reducible first | exact HB.out | apply below_alloc | apply pw_below_drewN | apply below_drew1) | exact HB.out)⟩⟩
            · rw [if_neg c3] at H
              have c3b0 : decide (x7_2 < (wrap64 (x4_1 + 3))) = false := decide_eq_false c3
              clear c3
              replace H := Option.bind_eq_some_iff.mp H
              obtain ⟨t107, A70, H⟩ := H
              replace H : ((nuncioref03_sign.f (Int.tmod (wrap64 (Int.tdiv x5_2 4096)) 64)).bind fun t108 => ((nuncioref03_sign.f (Int.tmod (wrap64 (Int.tdiv x5_2 64)) 64)).bind fun t109 => ((nuncioref03_sign.f (Int.tmod x5_2 64)).bind fun t110 => ((some (([t107, t108, t109, t110] : List Int) : List Int)).bind fun y111 => (if 0 ≤ (wrap64 (x6_2 + 1)) then (if (wrap64 (x6_2 + 1)) ≤ (y111.length : Int) then ((some (y111.take ((wrap64 (x6_2 + 1)) : Int).toNat : List Int)).bind fun y114 => (if x3_1.length + y114.length < 140737488355328 then (nuncioref03_Encode.l0 k2 a0 (x3_1 ++ y114) (wrap64 (x4_1 + 3))) else (none))) else (none)) else (none)))))) = some r := H
              have A7 := Aside0.mk A70
              clear A70
              replace H := Option.bind_eq_some_iff.mp H
              obtain ⟨t108, A80, H⟩ := H
              replace H : ((nuncioref03_sign.f (Int.tmod (wrap64 (Int.tdiv x5_2 64)) 64)).bind fun t109 => ((nuncioref03_sign.f (Int.tmod x5_2 64)).bind fun t110 => ((some (([t107, t108, t109, t110] : List Int) : List Int)).bind fun y111 => (if 0 ≤ (wrap64 (x6_2 + 1)) then (if (wrap64 (x6_2 + 1)) ≤ (y111.length : Int) then ((some (y111.take ((wrap64 (x6_2 + 1)) : Int).toNat : List Int)).bind fun y114 => (if x3_1.length + y114.length < 140737488355328 then (nuncioref03_Encode.l0 k2 a0 (x3_1 ++ y114) (wrap64 (x4_1 + 3))) else (none))) else (none)) else (none))))) = some r := H
              have A8 := Aside0.mk A80
              clear A80
              replace H := Option.bind_eq_some_iff.mp H
              obtain ⟨t109, A90, H⟩ := H
              replace H : ((nuncioref03_sign.f (Int.tmod x5_2 64)).bind fun t110 => ((some (([t107, t108, t109, t110] : List Int) : List Int)).bind fun y111 => (if 0 ≤ (wrap64 (x6_2 + 1)) then (if (wrap64 (x6_2 + 1)) ≤ (y111.length : Int) then ((some (y111.take ((wrap64 (x6_2 + 1)) : Int).toNat : List Int)).bind fun y114 => (if x3_1.length + y114.length < 140737488355328 then (nuncioref03_Encode.l0 k2 a0 (x3_1 ++ y114) (wrap64 (x4_1 + 3))) else (none))) else (none)) else (none)))) = some r := H
              have A9 := Aside0.mk A90
              clear A90
              replace H := Option.bind_eq_some_iff.mp H
              obtain ⟨t110, A100, H⟩ := H
              replace H : ((some (([t107, t108, t109, t110] : List Int) : List Int)).bind fun y111 => (if 0 ≤ (wrap64 (x6_2 + 1)) then (if (wrap64 (x6_2 + 1)) ≤ (y111.length : Int) then ((some (y111.take ((wrap64 (x6_2 + 1)) : Int).toNat : List Int)).bind fun y114 => (if x3_1.length + y114.length < 140737488355328 then (nuncioref03_Encode.l0 k2 a0 (x3_1 ++ y114) (wrap64 (x4_1 + 3))) else (none))) else (none)) else (none))) = some r := H
              have A10 := Aside0.mk A100
              clear A100
              obtain ⟨y111, hy111⟩ : ∃ y_ : List Int, y_ = (([t107, t108, t109, t110] : List Int)) := ⟨_, rfl⟩
              replace H : (if 0 ≤ (wrap64 (x6_2 + 1)) then (if (wrap64 (x6_2 + 1)) ≤ (y111.length : Int) then ((some (y111.take ((wrap64 (x6_2 + 1)) : Int).toNat : List Int)).bind fun y114 => (if x3_1.length + y114.length < 140737488355328 then (nuncioref03_Encode.l0 k2 a0 (x3_1 ++ y114) (wrap64 (x4_1 + 3))) else (none))) else (none)) else (none)) = some r := by first | (rw [hy111]; with_reducible exact H) | (have H2_ := (Option.bind_some _ _).symm.trans H; rw [hy111]; with_reducible exact H2_) | (have H2_ := (Option.bind_some _ _).symm.trans H; with_reducible exact H2_) | with_reducible exact H | (rw [hy111]; exact H) | exact H
              have Ny111 := Aside0.mk hy111
              clear hy111
              obtain ⟨ji11, hji11⟩ : ∃ j_ : Int, (wrap64 (x6_2 + 1)) = j_ := ⟨_, rfl⟩
              replace H : (if 0 ≤ (ji11) then (if (ji11) ≤ (y111.length : Int) then ((some (y111.take ((ji11) : Int).toNat : List Int)).bind fun y114 => (if x3_1.length + y114.length < 140737488355328 then (nuncioref03_Encode.l0 k2 a0 (x3_1 ++ y114) (wrap64 (x4_1 + 3))) else (none))) else (none)) else (none)) = some r := by first | (rw [hji11] at H; exact H) | (simp only [hji11] at H ⊢; exact H)
              (try rw [hji11] at A7)
              (try rw [hji11] at A8)
              (try rw [hji11] at A9)
              (try rw [hji11] at A10)
              have hji11w : (IntKind.i64.wrap (x6_2 + 1)) = ji11 := (i64_w _).trans hji11
              by_cases c12 : 0 ≤ (ji11)
              · rw [if_pos c12] at H
                have c12b0 := eq_true c12
                have c12b1 : decide (0 ≤ (ji11)) = true := decide_eq_true c12
                clear c12
                by_cases c13 : (ji11) ≤ (y111.length : Int)
                · rw [if_pos c13] at H
                  have c13b0 := eq_true c13
                  have c13b1 : decide ((ji11) ≤ (y111.length : Int)) = true := decide_eq_true c13
                  clear c13
                  obtain ⟨y114, hy114⟩ : ∃ y_ : List Int, y_ = (y111.take ((ji11) : Int).toNat) := ⟨_, rfl⟩
                  replace H : (if x3_1.length + y114.length < 140737488355328 then (nuncioref03_Encode.l0 k2 a0 (x3_1 ++ y114) (wrap64 (x4_1 + 3))) else (none)) = some r := by first | (rw [hy114]; with_reducible exact H) | (have H2_ := (Option.bind_some _ _).symm.trans H; rw [hy114]; with_reducible exact H2_) | (have H2_ := (Option.bind_some _ _).symm.trans H; with_reducible exact H2_) | with_reducible exact H | (rw [hy114]; exact H) | exact H
                  have Ny114 := Aside0.mk hy114
                  clear hy114
                  by_cases c14 : x3_1.length + y114.length < 140737488355328
                  · rw [if_pos c14] at H
                    have LMc14 := Aside0.mk c14
                    clear c14
                    obtain ⟨y118, hy118⟩ : ∃ y_ : List Int, y_ = (x3_1 ++ y114) := ⟨_, rfl⟩
                    replace H : (nuncioref03_Encode.l0 k2 a0 y118 (wrap64 (x4_1 + 3))) = some r := by first | (rw [hy118]; with_reducible exact H) | (have H2_ := (Option.bind_some _ _).symm.trans H; rw [hy118]; with_reducible exact H2_) | (have H2_ := (Option.bind_some _ _).symm.trans H; with_reducible exact H2_) | with_reducible exact H | (rw [hy118]; exact H) | exact H
                    have Ny118 := Aside0.mk hy118
                    clear hy118
                    have H' := Aside0.mk H
                    clear H
                    go_wp2_with (first | ((with_reducible refine gate_callee (f := 35) rfl ?_); refine goesL_ (some 38) rfl rfl Try.func35 (by kernel_rfl) rfl #[.int .i64 (wrap64 (Int.tdiv x5_2 262144))] rfl (by (try simp only [List.map_toArray, List.map_cons, List.map_nil]); first | done | rfl | (simp only [List.length_drop, List.length_take]; rfl)) ?_; (with_reducible refine (nuncioref03_sign.calls (wrap64 (Int.tdiv x5_2 262144)) t107 _ A7.out).mono ?_); rintro e w' ⟨rfl, ⟨nd, rfl⟩⟩; refine ⟨_, rfl, ?_⟩) | ((with_reducible refine gate_callee (f := 35) rfl ?_); refine goesL_ (some 42) rfl rfl Try.func35 (by kernel_rfl) rfl #[.int .i64 (Int.tmod (wrap64 (Int.tdiv x5_2 4096)) 64)] rfl (by (try simp only [List.map_toArray, List.map_cons, List.map_nil]); first | done | rfl | (simp only [List.length_drop, List.length_take]; rfl)) ?_; (with_reducible refine (nuncioref03_sign.calls (Int.tmod (wrap64 (Int.tdiv x5_2 4096)) 64) t108 _ A8.out).mono ?_); rintro e w' ⟨rfl, ⟨nd, rfl⟩⟩; refine ⟨_, rfl, ?_⟩) | ((with_reducible refine gate_callee (f := 35) rfl ?_); refine goesL_ (some 46) rfl rfl Try.func35 (by kernel_rfl) rfl #[.int .i64 (Int.tmod (wrap64 (Int.tdiv x5_2 64)) 64)] rfl (by (try simp only [List.map_toArray, List.map_cons, List.map_nil]); first | done | rfl | (simp only [List.length_drop, List.length_take]; rfl)) ?_; (with_reducible refine (nuncioref03_sign.calls (Int.tmod (wrap64 (Int.tdiv x5_2 64)) 64) t109 _ A9.out).mono ?_); rintro e w' ⟨rfl, ⟨nd, rfl⟩⟩; refine ⟨_, rfl, ?_⟩) | ((with_reducible refine gate_callee (f := 35) rfl ?_); refine goesL_ (some 49) rfl rfl Try.func35 (by kernel_rfl) rfl #[.int .i64 (Int.tmod x5_2 64)] rfl (by (try simp only [List.map_toArray, List.map_cons, List.map_nil]); first | done | rfl | (simp only [List.length_drop, List.length_take]; rfl)) ?_; (with_reducible refine (nuncioref03_sign.calls (Int.tmod x5_2 64) t110 _ A10.out).mono ?_); rintro e w' ⟨rfl, ⟨nd, rfl⟩⟩; refine ⟨_, rfl, ?_⟩) | ((with_reducible refine gate_dst (N := 50) rfl ?_); refine Kd.R_lit (Kd.int .u8) _ 5 ?hg (N := 50) ?hd (xs := ([t107, t108, t109, t110] : List Int)) (inner := [.int .u8 t107, .int .u8 t108, .int .u8 t109, .int .u8 t110]) (ok := fun _ => True) (okp := fun _ => True) ?hr ?hp (fun _ hk => hk) trivial (Below.refl _ _) (Nat.le_refl _) (by simp) ?_; (case hd => rfl); (case hg => rfl); (case hr => first | (go_simp; done) | (go_simp; rfl)); (case hp => exact (Reps.one (show Kd.M (Kd.int .u8) _ _ _ t107 [.int .u8 t107] from rfl) (Reps.one (show Kd.M (Kd.int .u8) _ _ _ t108 [.int .u8 t108] from rfl) (Reps.one (show Kd.M (Kd.int .u8) _ _ _ t109 [.int .u8 t109] from rfl) (Reps.one (show Kd.M (Kd.int .u8) _ _ _ t110 [.int .u8 t110] from rfl) (Reps.none _ _)))))); intro v112 w15 ho16 hb hg_ hnew_; clear hg_ hnew_; (first | rw [← Ny111.out] at ho16 | (simp only [Int.reduceToNat] at ho16; rw [← Ny111.out] at ho16)); have n0_ := Aside0.mk (Kd.R_elder' (by (with_reducible repeat (first | apply Kd.R_alloc | apply Kd.R_drewN | apply Kd.R_drew)); exact HO_3.out) (Kd.R_base ho16) hb); have n1_ := Aside0.mk (Kd.R_lower (Kd.R_new' ho16 (Kd.R_lt (by (with_reducible repeat (first | apply Kd.R_alloc | apply Kd.R_drewN | apply Kd.R_drew)); exact HO_3.out))) (below_size (by repeat (first | (with_reducible first | exact HB.out | apply below_alloc | apply pw_below_drewN | apply below_drew1) | exact HB.out)))); have n2_ := Aside0.mk (below_step (by repeat (first | (with_reducible first | exact HB.out | apply below_alloc | apply pw_below_drewN | apply below_drew1) | exact HB.out)) hb); clear HO_3; clear HB; have HO_3 := n0_; have HO113 := n1_; have HB := n2_; clear n0_ n1_ n2_; clear hb ho16; obtain ⟨Ao18, co18, eo18⟩ := Kd.R_slice HO113.out; subst eo18; have q17 : ((ji11) : Int) ≤ ((y111.length : Int) : Int) := of_decide_eq_true (by first | (with_reducible assumption) | assumption); obtain ⟨i017, hi017, _, hsz17, _⟩ := info_parts info5; have hroom17 : y111.length ≤ co18 := (Kd.R_reads' HO113.out).2.1; have hC17 : Kd.C (Kd.int .u8) _ Ao18 y111.length y111 := (Kd.R_reads' HO113.out).2.2; have hcut17 := cut_to (P := Try.prog) 48 5 .i64 Try.underlying48 hi017 Ao18 y111.length co18 (ji11) (of_decide_eq_true (by first | (with_reducible assumption) | assumption)) q17 hroom17; have hr17 := Kd.C_take (m := ((ji11) : Int).toNat) hC17 (by omega); have hy17 : y114.length = ((ji11) : Int).toNat := (by rw [Ny114.out, List.length_take]; omega); rw [← Ny114.out] at hr17; rw [← hy17] at hcut17; have HR117 := Aside0.mk hr17; have HC117 := Aside0.mk (show y114.length ≤ co18 from by omega); clear hr17 hC17 hroom17 hi017 hsz17; have KY17 := Aside0.mk hy17; clear hy17; have KL17 := Aside0.mk (show ((ji11) : Int).toNat ≤ y111.length from by omega); replace q17 := eq_true q17) | ((with_reducible refine gate_builtin (b := .append) (xs := #[.tmp 51, .tmp 55]) rfl ?_); at_builtin; refine Kd.R_append_rows (Kd.int .u8) (w0 := w) w.heap.size rfl (.tmp 51) (.tmp 55) 48 5 (.int .u8 0) 1 rfl Try.underlying48 info5 rfl (by decide) (by omega) u3 x3_1 y114 _ _ _ (fun k_ => some k_ ≠ (.slice Ao18 y111.length co18 : Value).ownBlock) (fun _ => False) rfl rfl ?aO ?aR (fun _ _ h => h) (fun _ h => h.elim) ?aF ?aB ?aS ?aL ?_; (case aR => repeat (first | exact (by repeat (first | (with_reducible exact HR117.out) | (with_reducible refine Kd.C_alloc ?_ _) | (with_reducible refine Kd.C_drewN ?_ _) | (with_reducible refine Kd.C_drew ?_) | exact HR117.out)) | (with_reducible refine Kd.C_alloc ?_ _) | (with_reducible refine Kd.C_drewN ?_ _) | (with_reducible refine Kd.C_drew ?_))); (case aB => exact (by repeat (first | (with_reducible first | exact HB.out | apply below_alloc | apply pw_below_drewN | apply below_drew1) | exact HB.out))); (case aF => exact (fun k_ hk => Kd.fresh' (Kd.R_lt (by (with_reducible repeat (first | apply Kd.R_alloc | apply Kd.R_drewN | apply Kd.R_drew)); exact HO113.out)) k_ hk)); (case aO => exact (by (with_reducible repeat (first | apply Kd.R_alloc | apply Kd.R_drewN | apply Kd.R_drew)); exact Kd.R_mono HO_3.out (fun _ hk => hk.2))); (case aS => exact (below_size (by repeat (first | (with_reducible first | exact HB.out | apply below_alloc | apply pw_below_drewN | apply below_drew1) | exact HB.out)))); (case aL => have := LMc14.out; omega); intro v119 w19 ho hb hg hat; rw [← Ny118.out] at ho; have n0_ := Aside0.mk (Kd.R_after (ok := (fun _ => True)) (by (with_reducible repeat (first | apply Kd.R_alloc | apply Kd.R_drewN | apply Kd.R_drew)); exact HO113.out) hg hat); have n1_ := Aside0.mk (hb); have n2_ := Aside0.mk ((show Kd.C (Kd.int .u8) w19 Ao18 y114.length y114 from by rw [Ny114.out]; exact Kd.C_take (m := ((ji11) : Int).toNat) ((Kd.R_reads' (Kd.R_after (ok := (fun _ => True)) (by (with_reducible repeat (first | apply Kd.R_alloc | apply Kd.R_drewN | apply Kd.R_drew)); exact HO113.out) hg hat)).2.2) KL17.out)); have n3_ := Aside0.mk (ho); clear HO113; clear HB; clear HR117; clear HO_3; have HO113 := n0_; have HB := n1_; have HR117 := n2_; have HO120 := n3_; clear n0_ n1_ n2_ n3_; clear ho hb hg hat))
                    go_roundg k2
                    case measure => have := HK1.out; have := HK2.out; omega
                    case rel => exact ⟨(y118), (wrap64 (x4_1 + 3)), (by first | rfl | (simp; done) | (simp [*]; done)), H', ⟨by have := HK1.out; have := HK2.out; omega⟩, ⟨by (with_reducible repeat (first | apply Kd.R_alloc | apply Kd.R_drewN | apply Kd.R_drew)); exact Kd.R_mono HO120.out (fun _ hk => trivial)⟩, ⟨by repeat (first | (with_reducible first | exact HB.out | apply below_alloc | apply pw_below_drewN | apply below_drew1) | exact HB.out)⟩⟩
                  · rw [if_neg c14] at H
                    exact absurd H (by simp)
                · rw [if_neg c13] at H
                  exact absurd H (by simp)
              · rw [if_neg c12] at H
                exact absurd H (by simp)
      · rw [if_neg c2] at H
        have c2b0 : decide (x4_1 < (a0.size : Int)) = false := decide_eq_false c2
        clear c2
        obtain rfl := Option.some.inj H
        have hcv20 := own_string (P := Try.prog) Try.underlying48 Try.underlying5 Try.underlying9 (Kd.own_of_R HO_3.out)
        go_wp2
        go_ret
        exact ⟨by first | rfl | (simp [errW_none, errW_some] <;> rfl) | (simp [*, errW_none, errW_some] <;> rfl), by repeat (first | (with_reducible first | exact HB.out | apply below_alloc | apply pw_below_drewN | apply below_drew1) | exact HB.out)⟩

/-! ### nuncioref03_Decode: function 11 -/
mutual
def nuncioref03_Decode.l0 : Nat → ByteArray → List Int → Int → Option (ByteArray × Bool)
  | 0, _, _, _ => none
  | k + 1, x0, x4, x5 => if x5 < (x0.size : Int) then (nuncioref03_Decode.l1 k x0 x4 x5 0 0 x5) else ((nuncioref03_Encode.f k (strOfNums x4)).bind fun t121 => (if t121.toList = x0.toList then (some (strOfNums x4, true)) else (some ((⟨#[]⟩ : ByteArray), false))))
def nuncioref03_Decode.l1 : Nat → ByteArray → List Int → Int → Int → Int → Int → Option (ByteArray × Bool)
  | 0, _, _, _, _, _, _ => none
  | k + 1, x0, x4, x5, x6, x7, x8 => if x8 < (wrap64 (x5 + 4)) then (if x8 < (x0.size : Int) then (if 0 ≤ x8 then ((nuncioref03_number.f k (bt x0 x8)).bind fun t132 => (if t132 < 0 then (some ((⟨#[]⟩ : ByteArray), false)) else ((nuncioref03_number.f k (bt x0 x8)).bind fun t133 => (nuncioref03_Decode.l1 k x0 x4 x5 (wrap64 ((wrap64 (x6 * 64)) + t133)) (wrap64 (x7 + 1)) (wrap64 (x8 + 1)))))) else (none)) else (nuncioref03_Decode.l1 k x0 x4 x5 (wrap64 (x6 * 64)) x7 (wrap64 (x8 + 1)))) else ((some (([(wrap64 (Int.tdiv x6 65536)) % 256, (wrap64 (Int.tdiv x6 256)) % 256, (x6) % 256] : List Int) : List Int)).bind fun y122 => (if x7 < 2 then (some ((⟨#[]⟩ : ByteArray), false)) else (if 0 ≤ (wrap64 (x7 - 1)) then (if (wrap64 (x7 - 1)) ≤ (y122.length : Int) then ((some (y122.take ((wrap64 (x7 - 1)) : Int).toNat : List Int)).bind fun y125 => (if x4.length + y125.length < 140737488355328 then (nuncioref03_Decode.l0 k x0 (x4 ++ y125) (wrap64 (x5 + 4))) else (none))) else (none)) else (none))))
end
def nuncioref03_Decode.f (k : Nat) (a0 : ByteArray) : Option (ByteArray × Bool) := nuncioref03_Decode.l0 k a0 ([] : List Int) 0
theorem nuncioref03_Decode.mono_l : ∀ k, (∀ y0 y1 y2, LeO (nuncioref03_Decode.l0 k y0 y1 y2) (nuncioref03_Decode.l0 (k + 1) y0 y1 y2)) ∧ (∀ y0 y1 y2 y3 y4 y5, LeO (nuncioref03_Decode.l1 k y0 y1 y2 y3 y4 y5) (nuncioref03_Decode.l1 (k + 1) y0 y1 y2 y3 y4 y5))
  | 0 => ⟨fun _ _ _ r h => by simp [nuncioref03_Decode.l0] at h, fun _ _ _ _ _ _ r h => by simp [nuncioref03_Decode.l1] at h⟩
  | k + 1 => by
    obtain ⟨ih0, ih1⟩ := nuncioref03_Decode.mono_l k
    refine ⟨?_, ?_⟩
    · intro y0 y1 y2
      unfold nuncioref03_Decode.l0
      repeat' first
      | (with_reducible exact ih0 _ _ _)
      | (with_reducible exact ih1 _ _ _ _ _ _)
      | (with_reducible exact nuncioref03_Encode.mono _ _)
      | (with_reducible exact nuncioref03_number.mono _ _)
      | (with_reducible exact LeO.refl _)
      | (with_reducible exact LeO.none _)
      | (with_reducible refine LeO.ite ?_ ?_)
      | (with_reducible refine LeO.bind ?_ (fun _ => ?_))
      | exact ih0 _ _ _
      | exact ih1 _ _ _ _ _ _
      | exact nuncioref03_Encode.mono _ _
      | exact nuncioref03_number.mono _ _
      | exact LeO.none _
      | refine LeO.ite ?_ ?_
      | refine LeO.bind ?_ (fun _ => ?_)
    · intro y0 y1 y2 y3 y4 y5
      unfold nuncioref03_Decode.l1
      repeat' first
      | (with_reducible exact ih0 _ _ _)
      | (with_reducible exact ih1 _ _ _ _ _ _)
      | (with_reducible exact nuncioref03_Encode.mono _ _)
      | (with_reducible exact nuncioref03_number.mono _ _)
      | (with_reducible exact LeO.refl _)
      | (with_reducible exact LeO.none _)
      | (with_reducible refine LeO.ite ?_ ?_)
      | (with_reducible refine LeO.bind ?_ (fun _ => ?_))
      | exact ih0 _ _ _
      | exact ih1 _ _ _ _ _ _
      | exact nuncioref03_Encode.mono _ _
      | exact nuncioref03_number.mono _ _
      | exact LeO.none _
      | refine LeO.ite ?_ ?_
      | refine LeO.bind ?_ (fun _ => ?_)
theorem nuncioref03_Decode.mono : ∀ a0 k, LeO (nuncioref03_Decode.f k a0) (nuncioref03_Decode.f (k + 1) a0) := by
  intro a0 k
  obtain ⟨ih0, ih1⟩ := nuncioref03_Decode.mono_l k
  unfold nuncioref03_Decode.f
  repeat' first
      | (with_reducible exact ih0 _ _ _)
      | (with_reducible exact ih1 _ _ _ _ _ _)
      | (with_reducible exact nuncioref03_Encode.mono _ _)
      | (with_reducible exact nuncioref03_number.mono _ _)
      | (with_reducible exact LeO.refl _)
      | (with_reducible exact LeO.none _)
      | (with_reducible refine LeO.ite ?_ ?_)
      | (with_reducible refine LeO.bind ?_ (fun _ => ?_))
      | exact ih0 _ _ _
      | exact ih1 _ _ _ _ _ _
      | exact nuncioref03_Encode.mono _ _
      | exact nuncioref03_number.mono _ _
      | exact LeO.none _
      | refine LeO.ite ?_ ?_
      | refine LeO.bind ?_ (fun _ => ?_)
set_option maxHeartbeats 8000000 in
set_option maxRecDepth 100000 in
theorem nuncioref03_Decode.calls (k : Nat) (a0 : ByteArray) (r1 : ByteArray) (r2 : Bool) (w : World) (h : nuncioref03_Decode.f k a0 = some (r1, r2)) :
    Calls Try.prog 25 #[.string a0] w fun e w' => e = .returned (.tuple #[.string r1, .bool r2]) ∧ Below w.heap.size w w' := by
  have HB := Aside0.mk (Below.refl w.heap.size w)
  have H : (nuncioref03_Decode.l0 k a0 ([] : List Int) 0) = some (r1, r2) := h
  clear h
  have H' := Aside0.mk H
  clear H
  go_enter Try.func25, Try.ntmps25
  go_wp2
  go_loopg [4, 5] k (fun kq v4 v5 w' => ∃ (x4_1 : List Int) (x5_1 : Int), v5 = .int .i64 x5_1 ∧ Aside0 (nuncioref03_Decode.l0 kq a0 x4_1 x5_1 = some (r1, r2)) ∧ Aside0 (kq ≤ k) ∧ Aside0 (Kd.R (Kd.int .u8) 5 w' w.heap.size (fun _ => True) v4 x4_1) ∧ Aside0 (Below w.heap.size w w'))
  case atStart => exact ⟨(([] : List Int)), (0), (by first | rfl | (simp; done) | (simp [*]; done)), H', ⟨Nat.le_refl _⟩, ⟨by first | exact Kd.R_nil _ _ _ _ _ | exact Kd.N_nil _ _ _ _ _ | exact Kd.V_nil _ _ _ _ _ | exact Kd.Q_nil _ _ _ _ _ | exact Kd.S_nil _ _ _ _ _⟩, ⟨by repeat (first | (with_reducible first | exact HB.out | apply below_alloc | apply pw_below_drewN | apply below_drew1) | exact HB.out)⟩⟩
  case round =>
    clear H'
    try clear c1
    obtain ⟨x4_1, x5_1, rfl, HA, HK1, HO_4, HB⟩ := hrel
    cases gk with
    | zero => exact absurd HA.out (by simp [nuncioref03_Decode.l0])
    | succ k1 =>
      have H := HA.out
      clear HA
      simp only [nuncioref03_Decode.l0] at H
      by_cases c2 : x5_1 < (a0.size : Int)
      · rw [if_pos c2] at H
        have c2b0 : decide (x5_1 < (a0.size : Int)) = true := decide_eq_true c2
        clear c2
        have H' := Aside0.mk H
        clear H
        go_wp2
        go_loopg [6, 7, 8] k1 (fun kq v6 v7 v8 w' => ∃ (x6_2 : Int) (x7_2 : Int) (x8_2 : Int), v6 = .int .i64 x6_2 ∧ v7 = .int .i64 x7_2 ∧ v8 = .int .i64 x8_2 ∧ Aside0 (nuncioref03_Decode.l1 kq a0 x4_1 x5_1 x6_2 x7_2 x8_2 = some (r1, r2)) ∧ Aside0 (kq ≤ k1) ∧ Aside0 (Kd.R (Kd.int .u8) 5 w' w.heap.size (fun _ => True) u4 x4_1) ∧ Aside0 (Below w.heap.size w w'))
        case atStart => exact ⟨(0), (0), (x5_1), (by first | rfl | (simp; done) | (simp [*]; done)), (by first | rfl | (simp; done) | (simp [*]; done)), (by first | rfl | (simp; done) | (simp [*]; done)), H', ⟨Nat.le_refl _⟩, ⟨by (with_reducible repeat (first | apply Kd.R_alloc | apply Kd.R_drewN | apply Kd.R_drew)); exact HO_4.out⟩, ⟨by repeat (first | (with_reducible first | exact HB.out | apply below_alloc | apply pw_below_drewN | apply below_drew1) | exact HB.out)⟩⟩
        case round =>
          clear H'
          try clear c1
          try clear c2
          try clear c2b0
          try clear p2
          obtain ⟨x6_2, x7_2, x8_2, rfl, rfl, rfl, HA, HK2, HO_4, HB⟩ := hrel
          cases gk with
          | zero => exact absurd HA.out (by simp [nuncioref03_Decode.l1])
          | succ k2 =>
            have H := HA.out
            clear HA
            simp only [nuncioref03_Decode.l1] at H
            by_cases c3 : x8_2 < (wrap64 (x5_1 + 4))
            · rw [if_pos c3] at H
              have c3b0 : decide (x8_2 < (wrap64 (x5_1 + 4))) = true := decide_eq_true c3
              clear c3
              by_cases c4 : x8_2 < (a0.size : Int)
              · rw [if_pos c4] at H
                have c4b0 : decide (x8_2 < (a0.size : Int)) = true := decide_eq_true c4
                clear c4
                by_cases c5 : 0 ≤ x8_2
                · rw [if_pos c5] at H
                  have c5b0 : decide (0 ≤ x8_2) = true := decide_eq_true c5
                  clear c5
                  replace H := Option.bind_eq_some_iff.mp H
                  obtain ⟨t132, A70, H⟩ := H
                  replace H : (if t132 < 0 then (some ((⟨#[]⟩ : ByteArray), false)) else ((nuncioref03_number.f k2 (bt a0 x8_2)).bind fun t133 => (nuncioref03_Decode.l1 k2 a0 x4_1 x5_1 (wrap64 ((wrap64 (x6_2 * 64)) + t133)) (wrap64 (x7_2 + 1)) (wrap64 (x8_2 + 1))))) = some (r1, r2) := H
                  have A7 := Aside0.mk A70
                  clear A70
                  by_cases c8 : t132 < 0
                  · rw [if_pos c8] at H
                    have c8b0 : decide (t132 < 0) = true := decide_eq_true c8
                    clear c8
                    simp only [Option.some.injEq, Prod.mk.injEq] at H
                    obtain ⟨rfl, rfl⟩ := H
                    have p6 : 0 ≤ (x8_2 : Int) := of_decide_eq_true (by first | (with_reducible assumption) | assumption)
                    have q6 : x8_2 < (a0.size : Int) := of_decide_eq_true (by first | (with_reducible assumption) | assumption)
                    have hx6 := bt_at a0 x8_2
                    replace p6 := eq_true p6
                    replace q6 := eq_true q6
                    go_wp2_with (first | ((with_reducible refine gate_callee (f := 37) rfl ?_); refine goesL_ (some 32) rfl rfl Try.func37 (by kernel_rfl) rfl #[.int .u8 (bt a0 x8_2)] rfl (by (try simp only [List.map_toArray, List.map_cons, List.map_nil]); first | done | rfl | (simp only [List.length_drop, List.length_take]; rfl)) ?_; (with_reducible refine (nuncioref03_number.calls k2 (bt a0 x8_2) t132 _ A7.out).mono ?_); rintro e w' ⟨rfl, ⟨nd, rfl⟩⟩; refine ⟨_, rfl, ?_⟩))
                    go_ret2
                    exact ⟨by first | rfl | (simp [errW_none, errW_some] <;> rfl) | (simp [*, errW_none, errW_some] <;> rfl), by repeat (first | (with_reducible first | exact HB.out | apply below_alloc | apply pw_below_drewN | apply below_drew1) | exact HB.out)⟩
                  · rw [if_neg c8] at H
                    have c8b0 : decide (t132 < 0) = false := decide_eq_false c8
                    clear c8
                    replace H := Option.bind_eq_some_iff.mp H
                    obtain ⟨t133, A100, H⟩ := H
                    replace H : (nuncioref03_Decode.l1 k2 a0 x4_1 x5_1 (wrap64 ((wrap64 (x6_2 * 64)) + t133)) (wrap64 (x7_2 + 1)) (wrap64 (x8_2 + 1))) = some (r1, r2) := H
                    have A10 := Aside0.mk A100
                    clear A100
                    have H' := Aside0.mk H
                    clear H
                    have p6 : 0 ≤ (x8_2 : Int) := of_decide_eq_true (by first | (with_reducible assumption) | assumption)
                    have q6 : x8_2 < (a0.size : Int) := of_decide_eq_true (by first | (with_reducible assumption) | assumption)
                    have hx6 := bt_at a0 x8_2
                    replace p6 := eq_true p6
                    replace q6 := eq_true q6
                    go_wp2_with (first | ((with_reducible refine gate_callee (f := 37) rfl ?_); refine goesL_ (some 32) rfl rfl Try.func37 (by kernel_rfl) rfl #[.int .u8 (bt a0 x8_2)] rfl (by (try simp only [List.map_toArray, List.map_cons, List.map_nil]); first | done | rfl | (simp only [List.length_drop, List.length_take]; rfl)) ?_; (with_reducible refine (nuncioref03_number.calls k2 (bt a0 x8_2) t132 _ A7.out).mono ?_); rintro e w' ⟨rfl, ⟨nd, rfl⟩⟩; refine ⟨_, rfl, ?_⟩; have p9 : 0 ≤ (x8_2 : Int) := of_decide_eq_true (by first | (with_reducible assumption) | assumption); have q9 : x8_2 < (a0.size : Int) := of_decide_eq_true (by first | (with_reducible assumption) | assumption); have hx9 := bt_at a0 x8_2; replace p9 := eq_true p9; replace q9 := eq_true q9) | ((with_reducible refine gate_callee (f := 37) rfl ?_); refine goesL_ (some 38) rfl rfl Try.func37 (by kernel_rfl) rfl #[.int .u8 (bt a0 x8_2)] rfl (by (try simp only [List.map_toArray, List.map_cons, List.map_nil]); first | done | rfl | (simp only [List.length_drop, List.length_take]; rfl)) ?_; (with_reducible refine (nuncioref03_number.calls k2 (bt a0 x8_2) t133 _ A10.out).mono ?_); rintro e w' ⟨rfl, ⟨nd, rfl⟩⟩; refine ⟨_, rfl, ?_⟩))
                    go_roundg k2
                    case measure => have := HK1.out; have := HK2.out; omega
                    case rel => exact ⟨(wrap64 ((wrap64 (x6_2 * 64)) + t133)), (wrap64 (x7_2 + 1)), (wrap64 (x8_2 + 1)), (by first | rfl | (simp; done) | (simp [*]; done)), (by first | rfl | (simp; done) | (simp [*]; done)), (by first | rfl | (simp; done) | (simp [*]; done)), H', ⟨by have := HK1.out; have := HK2.out; omega⟩, ⟨by (with_reducible repeat (first | apply Kd.R_alloc | apply Kd.R_drewN | apply Kd.R_drew)); exact HO_4.out⟩, ⟨by repeat (first | (with_reducible first | exact HB.out | apply below_alloc | apply pw_below_drewN | apply below_drew1) | exact HB.out)⟩⟩
                · rw [if_neg c5] at H
                  exact absurd H (by simp)
              · rw [if_neg c4] at H
                have c4b0 : decide (x8_2 < (a0.size : Int)) = false := decide_eq_false c4
                clear c4
                have H' := Aside0.mk H
                clear H
                go_wp2
                go_roundg k2
                case measure => have := HK1.out; have := HK2.out; omega
                case rel => exact ⟨(wrap64 (x6_2 * 64)), (x7_2), (wrap64 (x8_2 + 1)), (by first | rfl | (simp; done) | (simp [*]; done)), (by first | rfl | (simp; done) | (simp [*]; done)), (by first | rfl | (simp; done) | (simp [*]; done)), H', ⟨by have := HK1.out; have := HK2.out; omega⟩, ⟨by (with_reducible repeat (first | apply Kd.R_alloc | apply Kd.R_drewN | apply Kd.R_drew)); exact HO_4.out⟩, ⟨by repeat (first | (with_reducible first | exact HB.out | apply below_alloc | apply pw_below_drewN | apply below_drew1) | exact HB.out)⟩⟩
            · rw [if_neg c3] at H
              have c3b0 : decide (x8_2 < (wrap64 (x5_1 + 4))) = false := decide_eq_false c3
              clear c3
              obtain ⟨y122, hy122⟩ : ∃ y_ : List Int, y_ = (([(wrap64 (Int.tdiv x6_2 65536)) % 256, (wrap64 (Int.tdiv x6_2 256)) % 256, (x6_2) % 256] : List Int)) := ⟨_, rfl⟩
              replace H : (if x7_2 < 2 then (some ((⟨#[]⟩ : ByteArray), false)) else (if 0 ≤ (wrap64 (x7_2 - 1)) then (if (wrap64 (x7_2 - 1)) ≤ (y122.length : Int) then ((some (y122.take ((wrap64 (x7_2 - 1)) : Int).toNat : List Int)).bind fun y125 => (if x4_1.length + y125.length < 140737488355328 then (nuncioref03_Decode.l0 k2 a0 (x4_1 ++ y125) (wrap64 (x5_1 + 4))) else (none))) else (none)) else (none))) = some (r1, r2) := by first | (rw [hy122]; with_reducible exact H) | (have H2_ := (Option.bind_some _ _).symm.trans H; rw [hy122]; with_reducible exact H2_) | (have H2_ := (Option.bind_some _ _).symm.trans H; with_reducible exact H2_) | with_reducible exact H | (rw [hy122]; exact H) | exact H
              have Ny122 := Aside0.mk hy122
              clear hy122
              by_cases c11 : x7_2 < 2
              · rw [if_pos c11] at H
                have c11b0 : decide (x7_2 < 2) = true := decide_eq_true c11
                clear c11
                simp only [Option.some.injEq, Prod.mk.injEq] at H
                obtain ⟨rfl, rfl⟩ := H
                go_wp2_with (first | ((with_reducible refine gate_dst (N := 50) rfl ?_); refine Kd.R_lit (Kd.int .u8) _ 5 ?hg (N := 50) ?hd (xs := ([(wrap64 (Int.tdiv x6_2 65536)) % 256, (wrap64 (Int.tdiv x6_2 256)) % 256, (x6_2) % 256] : List Int)) (inner := [.int .u8 ((wrap64 (Int.tdiv x6_2 65536)) % 256), .int .u8 ((wrap64 (Int.tdiv x6_2 256)) % 256), .int .u8 ((x6_2) % 256)]) (ok := fun _ => True) (okp := fun _ => True) ?hr ?hp (fun _ hk => hk) trivial (Below.refl _ _) (Nat.le_refl _) (by simp) ?_; (case hd => rfl); (case hg => rfl); (case hr => first | (go_simp; done) | (go_simp; rfl)); (case hp => exact (Reps.one (show Kd.M (Kd.int .u8) _ _ _ ((wrap64 (Int.tdiv x6_2 65536)) % 256) [.int .u8 ((wrap64 (Int.tdiv x6_2 65536)) % 256)] from rfl) (Reps.one (show Kd.M (Kd.int .u8) _ _ _ ((wrap64 (Int.tdiv x6_2 256)) % 256) [.int .u8 ((wrap64 (Int.tdiv x6_2 256)) % 256)] from rfl) (Reps.one (show Kd.M (Kd.int .u8) _ _ _ ((x6_2) % 256) [.int .u8 ((x6_2) % 256)] from rfl) (Reps.none _ _))))); intro v123 w12 ho13 hb hg_ hnew_; clear hg_ hnew_; (first | rw [← Ny122.out] at ho13 | (simp only [Int.reduceToNat] at ho13; rw [← Ny122.out] at ho13)); have n0_ := Aside0.mk (Kd.R_elder' (by (with_reducible repeat (first | apply Kd.R_alloc | apply Kd.R_drewN | apply Kd.R_drew)); exact HO_4.out) (Kd.R_base ho13) hb); have n1_ := Aside0.mk (Kd.R_lower (Kd.R_new' ho13 (Kd.R_lt (by (with_reducible repeat (first | apply Kd.R_alloc | apply Kd.R_drewN | apply Kd.R_drew)); exact HO_4.out))) (below_size (by repeat (first | (with_reducible first | exact HB.out | apply below_alloc | apply pw_below_drewN | apply below_drew1) | exact HB.out)))); have n2_ := Aside0.mk (below_step (by repeat (first | (with_reducible first | exact HB.out | apply below_alloc | apply pw_below_drewN | apply below_drew1) | exact HB.out)) hb); clear HO_4; clear HB; have HO_4 := n0_; have HO124 := n1_; have HB := n2_; clear n0_ n1_ n2_; clear hb ho13))
                go_ret2
                exact ⟨by first | rfl | (simp [errW_none, errW_some] <;> rfl) | (simp [*, errW_none, errW_some] <;> rfl), by repeat (first | (with_reducible first | exact HB.out | apply below_alloc | apply pw_below_drewN | apply below_drew1) | exact HB.out)⟩
              · rw [if_neg c11] at H
                have c11b0 : decide (x7_2 < 2) = false := decide_eq_false c11
                clear c11
                obtain ⟨ji14, hji14⟩ : ∃ j_ : Int, (wrap64 (x7_2 - 1)) = j_ := ⟨_, rfl⟩
                replace H : (if 0 ≤ (ji14) then (if (ji14) ≤ (y122.length : Int) then ((some (y122.take ((ji14) : Int).toNat : List Int)).bind fun y125 => (if x4_1.length + y125.length < 140737488355328 then (nuncioref03_Decode.l0 k2 a0 (x4_1 ++ y125) (wrap64 (x5_1 + 4))) else (none))) else (none)) else (none)) = some (r1, r2) := by first | (rw [hji14] at H; exact H) | (simp only [hji14] at H ⊢; exact H)
                have hji14w : (IntKind.i64.wrap (x7_2 - 1)) = ji14 := (i64_w _).trans hji14
                by_cases c15 : 0 ≤ (ji14)
                · rw [if_pos c15] at H
                  have c15b0 := eq_true c15
                  have c15b1 : decide (0 ≤ (ji14)) = true := decide_eq_true c15
                  clear c15
                  by_cases c16 : (ji14) ≤ (y122.length : Int)
                  · rw [if_pos c16] at H
                    have c16b0 := eq_true c16
                    have c16b1 : decide ((ji14) ≤ (y122.length : Int)) = true := decide_eq_true c16
                    clear c16
                    obtain ⟨y125, hy125⟩ : ∃ y_ : List Int, y_ = (y122.take ((ji14) : Int).toNat) := ⟨_, rfl⟩
                    replace H : (if x4_1.length + y125.length < 140737488355328 then (nuncioref03_Decode.l0 k2 a0 (x4_1 ++ y125) (wrap64 (x5_1 + 4))) else (none)) = some (r1, r2) := by first | (rw [hy125]; with_reducible exact H) | (have H2_ := (Option.bind_some _ _).symm.trans H; rw [hy125]; with_reducible exact H2_) | (have H2_ := (Option.bind_some _ _).symm.trans H; with_reducible exact H2_) | with_reducible exact H | (rw [hy125]; exact H) | exact H
                    have Ny125 := Aside0.mk hy125
                    clear hy125
                    by_cases c17 : x4_1.length + y125.length < 140737488355328
                    · rw [if_pos c17] at H
                      have LMc17 := Aside0.mk c17
                      clear c17
                      obtain ⟨y129, hy129⟩ : ∃ y_ : List Int, y_ = (x4_1 ++ y125) := ⟨_, rfl⟩
                      replace H : (nuncioref03_Decode.l0 k2 a0 y129 (wrap64 (x5_1 + 4))) = some (r1, r2) := by first | (rw [hy129]; with_reducible exact H) | (have H2_ := (Option.bind_some _ _).symm.trans H; rw [hy129]; with_reducible exact H2_) | (have H2_ := (Option.bind_some _ _).symm.trans H; with_reducible exact H2_) | with_reducible exact H | (rw [hy129]; exact H) | exact H
                      have Ny129 := Aside0.mk hy129
                      clear hy129
                      have H' := Aside0.mk H
                      clear H
                      go_wp2_with (first | ((with_reducible refine gate_dst (N := 50) rfl ?_); refine Kd.R_lit (Kd.int .u8) _ 5 ?hg (N := 50) ?hd (xs := ([(wrap64 (Int.tdiv x6_2 65536)) % 256, (wrap64 (Int.tdiv x6_2 256)) % 256, (x6_2) % 256] : List Int)) (inner := [.int .u8 ((wrap64 (Int.tdiv x6_2 65536)) % 256), .int .u8 ((wrap64 (Int.tdiv x6_2 256)) % 256), .int .u8 ((x6_2) % 256)]) (ok := fun _ => True) (okp := fun _ => True) ?hr ?hp (fun _ hk => hk) trivial (Below.refl _ _) (Nat.le_refl _) (by simp) ?_; (case hd => rfl); (case hg => rfl); (case hr => first | (go_simp; done) | (go_simp; rfl)); (case hp => exact (Reps.one (show Kd.M (Kd.int .u8) _ _ _ ((wrap64 (Int.tdiv x6_2 65536)) % 256) [.int .u8 ((wrap64 (Int.tdiv x6_2 65536)) % 256)] from rfl) (Reps.one (show Kd.M (Kd.int .u8) _ _ _ ((wrap64 (Int.tdiv x6_2 256)) % 256) [.int .u8 ((wrap64 (Int.tdiv x6_2 256)) % 256)] from rfl) (Reps.one (show Kd.M (Kd.int .u8) _ _ _ ((x6_2) % 256) [.int .u8 ((x6_2) % 256)] from rfl) (Reps.none _ _))))); intro v123 w18 ho19 hb hg_ hnew_; clear hg_ hnew_; (first | rw [← Ny122.out] at ho19 | (simp only [Int.reduceToNat] at ho19; rw [← Ny122.out] at ho19)); have n0_ := Aside0.mk (Kd.R_elder' (by (with_reducible repeat (first | apply Kd.R_alloc | apply Kd.R_drewN | apply Kd.R_drew)); exact HO_4.out) (Kd.R_base ho19) hb); have n1_ := Aside0.mk (Kd.R_lower (Kd.R_new' ho19 (Kd.R_lt (by (with_reducible repeat (first | apply Kd.R_alloc | apply Kd.R_drewN | apply Kd.R_drew)); exact HO_4.out))) (below_size (by repeat (first | (with_reducible first | exact HB.out | apply below_alloc | apply pw_below_drewN | apply below_drew1) | exact HB.out)))); have n2_ := Aside0.mk (below_step (by repeat (first | (with_reducible first | exact HB.out | apply below_alloc | apply pw_below_drewN | apply below_drew1) | exact HB.out)) hb); clear HO_4; clear HB; have HO_4 := n0_; have HO124 := n1_; have HB := n2_; clear n0_ n1_ n2_; clear hb ho19; obtain ⟨Ao21, co21, eo21⟩ := Kd.R_slice HO124.out; subst eo21; have q20 : ((ji14) : Int) ≤ ((y122.length : Int) : Int) := of_decide_eq_true (by first | (with_reducible assumption) | assumption); obtain ⟨i020, hi020, _, hsz20, _⟩ := info_parts info5; have hroom20 : y122.length ≤ co21 := (Kd.R_reads' HO124.out).2.1; have hC20 : Kd.C (Kd.int .u8) _ Ao21 y122.length y122 := (Kd.R_reads' HO124.out).2.2; have hcut20 := cut_to (P := Try.prog) 48 5 .i64 Try.underlying48 hi020 Ao21 y122.length co21 (ji14) (of_decide_eq_true (by first | (with_reducible assumption) | assumption)) q20 hroom20; have hr20 := Kd.C_take (m := ((ji14) : Int).toNat) hC20 (by omega); have hy20 : y125.length = ((ji14) : Int).toNat := (by rw [Ny125.out, List.length_take]; omega); rw [← Ny125.out] at hr20; rw [← hy20] at hcut20; have HR128 := Aside0.mk hr20; have HC128 := Aside0.mk (show y125.length ≤ co21 from by omega); clear hr20 hC20 hroom20 hi020 hsz20; have KY20 := Aside0.mk hy20; clear hy20; have KL20 := Aside0.mk (show ((ji14) : Int).toNat ≤ y122.length from by omega); replace q20 := eq_true q20) | ((with_reducible refine gate_builtin (b := .append) (xs := #[.tmp 53, .tmp 57]) rfl ?_); at_builtin; refine Kd.R_append_rows (Kd.int .u8) (w0 := w) w.heap.size rfl (.tmp 53) (.tmp 57) 48 5 (.int .u8 0) 1 rfl Try.underlying48 info5 rfl (by decide) (by omega) u4 x4_1 y125 _ _ _ (fun k_ => some k_ ≠ (.slice Ao21 y122.length co21 : Value).ownBlock) (fun _ => False) rfl rfl ?aO ?aR (fun _ _ h => h) (fun _ h => h.elim) ?aF ?aB ?aS ?aL ?_; (case aR => repeat (first | exact (by repeat (first | (with_reducible exact HR128.out) | (with_reducible refine Kd.C_alloc ?_ _) | (with_reducible refine Kd.C_drewN ?_ _) | (with_reducible refine Kd.C_drew ?_) | exact HR128.out)) | (with_reducible refine Kd.C_alloc ?_ _) | (with_reducible refine Kd.C_drewN ?_ _) | (with_reducible refine Kd.C_drew ?_))); (case aB => exact (by repeat (first | (with_reducible first | exact HB.out | apply below_alloc | apply pw_below_drewN | apply below_drew1) | exact HB.out))); (case aF => exact (fun k_ hk => Kd.fresh' (Kd.R_lt (by (with_reducible repeat (first | apply Kd.R_alloc | apply Kd.R_drewN | apply Kd.R_drew)); exact HO124.out)) k_ hk)); (case aO => exact (by (with_reducible repeat (first | apply Kd.R_alloc | apply Kd.R_drewN | apply Kd.R_drew)); exact Kd.R_mono HO_4.out (fun _ hk => hk.2))); (case aS => exact (below_size (by repeat (first | (with_reducible first | exact HB.out | apply below_alloc | apply pw_below_drewN | apply below_drew1) | exact HB.out)))); (case aL => have := LMc17.out; omega); intro v130 w22 ho hb hg hat; rw [← Ny129.out] at ho; have n0_ := Aside0.mk (Kd.R_after (ok := (fun _ => True)) (by (with_reducible repeat (first | apply Kd.R_alloc | apply Kd.R_drewN | apply Kd.R_drew)); exact HO124.out) hg hat); have n1_ := Aside0.mk (hb); have n2_ := Aside0.mk ((show Kd.C (Kd.int .u8) w22 Ao21 y125.length y125 from by rw [Ny125.out]; exact Kd.C_take (m := ((ji14) : Int).toNat) ((Kd.R_reads' (Kd.R_after (ok := (fun _ => True)) (by (with_reducible repeat (first | apply Kd.R_alloc | apply Kd.R_drewN | apply Kd.R_drew)); exact HO124.out) hg hat)).2.2) KL20.out)); have n3_ := Aside0.mk (ho); clear HO124; clear HB; clear HR128; clear HO_4; have HO124 := n0_; have HB := n1_; have HR128 := n2_; have HO131 := n3_; clear n0_ n1_ n2_ n3_; clear ho hb hg hat))
                      go_roundg k2
                      case measure => have := HK1.out; have := HK2.out; omega
                      case rel => exact ⟨(y129), (wrap64 (x5_1 + 4)), (by first | rfl | (simp; done) | (simp [*]; done)), H', ⟨by have := HK1.out; have := HK2.out; omega⟩, ⟨by (with_reducible repeat (first | apply Kd.R_alloc | apply Kd.R_drewN | apply Kd.R_drew)); exact Kd.R_mono HO131.out (fun _ hk => trivial)⟩, ⟨by repeat (first | (with_reducible first | exact HB.out | apply below_alloc | apply pw_below_drewN | apply below_drew1) | exact HB.out)⟩⟩
                    · rw [if_neg c17] at H
                      exact absurd H (by simp)
                  · rw [if_neg c16] at H
                    exact absurd H (by simp)
                · rw [if_neg c15] at H
                  exact absurd H (by simp)
      · rw [if_neg c2] at H
        have c2b0 : decide (x5_1 < (a0.size : Int)) = false := decide_eq_false c2
        clear c2
        replace H := Option.bind_eq_some_iff.mp H
        obtain ⟨t121, A230, H⟩ := H
        replace H : (if t121.toList = a0.toList then (some (strOfNums x4_1, true)) else (some ((⟨#[]⟩ : ByteArray), false))) = some (r1, r2) := H
        have A23 := Aside0.mk A230
        clear A230
        by_cases c24 : t121.toList = a0.toList
        · rw [if_pos c24] at H
          have c24b0 : (t121.toList == a0.toList) = true := beq_iff_eq.mpr c24
          have c24b1 : (t121.toList != a0.toList) = false := bne_eq_false_iff_eq.mpr c24
          clear c24
          simp only [Option.some.injEq, Prod.mk.injEq] at H
          obtain ⟨rfl, rfl⟩ := H
          have hcv25 := own_string (P := Try.prog) Try.underlying48 Try.underlying5 Try.underlying9 (Kd.own_of_R HO_4.out)
          go_wp2_with (first | ((with_reducible refine gate_callee (f := 23) rfl ?_); refine goesL_ (some 61) rfl rfl Try.func23 (by kernel_rfl) rfl #[.string (strOfNums x4_1)] rfl (by (try simp only [List.map_toArray, List.map_cons, List.map_nil]); first | done | rfl | (simp only [List.length_drop, List.length_take]; rfl)) ?_; (with_reducible refine (nuncioref03_Encode.calls k1 (strOfNums x4_1) t121 _ A23.out).mono ?_); rintro e w26 ⟨rfl, hb⟩; refine ⟨_, rfl, ?_⟩; have n0_ := Aside0.mk (Kd.R_below (by (with_reducible repeat (first | apply Kd.R_alloc | apply Kd.R_drewN | apply Kd.R_drew)); exact HO_4.out) hb); have n1_ := Aside0.mk (below_step (by repeat (first | (with_reducible first | exact HB.out | apply below_alloc | apply pw_below_drewN | apply below_drew1) | exact HB.out)) hb); clear HO_4; clear HB; have HO_4 := n0_; have HB := n1_; clear n0_ n1_; (try clear hb); (try clear hb2); (try clear hk); (try clear hi); have hcv27 := own_string (P := Try.prog) Try.underlying48 Try.underlying5 Try.underlying9 (Kd.own_of_R HO_4.out)))
          go_ret2
          exact ⟨by first | rfl | (simp [errW_none, errW_some] <;> rfl) | (simp [*, errW_none, errW_some] <;> rfl), by repeat (first | (with_reducible first | exact HB.out | apply below_alloc | apply pw_below_drewN | apply below_drew1) | exact HB.out)⟩
        · rw [if_neg c24] at H
          have c24b0 : (t121.toList == a0.toList) = false := beq_eq_false_iff_ne.mpr c24
          have c24b1 : (t121.toList != a0.toList) = true := bne_iff_ne.mpr c24
          simp only [Option.some.injEq, Prod.mk.injEq] at H
          obtain ⟨rfl, rfl⟩ := H
          have hcv28 := own_string (P := Try.prog) Try.underlying48 Try.underlying5 Try.underlying9 (Kd.own_of_R HO_4.out)
          go_wp2_with (first | ((with_reducible refine gate_callee (f := 23) rfl ?_); refine goesL_ (some 61) rfl rfl Try.func23 (by kernel_rfl) rfl #[.string (strOfNums x4_1)] rfl (by (try simp only [List.map_toArray, List.map_cons, List.map_nil]); first | done | rfl | (simp only [List.length_drop, List.length_take]; rfl)) ?_; (with_reducible refine (nuncioref03_Encode.calls k1 (strOfNums x4_1) t121 _ A23.out).mono ?_); rintro e w29 ⟨rfl, hb⟩; refine ⟨_, rfl, ?_⟩; have n0_ := Aside0.mk (Kd.R_below (by (with_reducible repeat (first | apply Kd.R_alloc | apply Kd.R_drewN | apply Kd.R_drew)); exact HO_4.out) hb); have n1_ := Aside0.mk (below_step (by repeat (first | (with_reducible first | exact HB.out | apply below_alloc | apply pw_below_drewN | apply below_drew1) | exact HB.out)) hb); clear HO_4; clear HB; have HO_4 := n0_; have HB := n1_; clear n0_ n1_; (try clear hb); (try clear hb2); (try clear hk); (try clear hi)))
          go_ret2
          exact ⟨by first | rfl | (simp [errW_none, errW_some] <;> rfl) | (simp [*, errW_none, errW_some] <;> rfl), by repeat (first | (with_reducible first | exact HB.out | apply below_alloc | apply pw_below_drewN | apply below_drew1) | exact HB.out)⟩

/-! ### nunciolaw03_B64Decodes: function 3 -/
end Go.Proofs.Ytfoflodgegehfaa.B64
