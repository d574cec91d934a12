-- PRINTED BY print.sh 35421559b90ae4d0a3588c463048766b98c2df88dd9212a6774a882060cdf62d: not written by this session
import Derived.Test.YtkaijdhnnfldkaaPStreamEndsx0
import Derived.Test.YtkaijdhnnfldkaaPStreamEndsx1
namespace Go.Proofs.Ytkaijdhnnfldkaa.PStreamEnds
open Go.RowKit Go.Proofs.YtkaijdhnnfldkaaW.PrintWords Go.Proofs.YtkaijdhnnfldkaaW.PrintLast Go.Proofs.YtkaijdhnnfldkaaW.PrintMore
attribute [local go_sem] max2_int min2_int max_two min_two max_three min_three max_four min_four   -- for this text's walks alone
set_option linter.unusedVariables false
set_option linter.unusedSimpArgs false

/-! ### nunciolaw18_StreamEnds: function 7 -/
mutual
def nunciolaw18_StreamEnds.l0 : Nat → List Int → Int → Bool → Int → Option (Bool)
  | 0, _, _, _, _ => none
  | k + 1, x0, x3, x4, x5 => if x5 < (x0.length : Int) then (if 0 ≤ x5 then ((stream_Next.f k x3 (rd x0 x5)).bind fun bt117 => (if x3 = 4 then (nunciolaw18_StreamEnds.j1 k x0 x4 x5 (rd x0 x5) bt117.1 bt117.2.1 (bt117.1 != 4)) else (nunciolaw18_StreamEnds.j1 k x0 x4 x5 (rd x0 x5) bt117.1 bt117.2.1 false))) else (none)) else (if x3 ≥ 0 then (some (decide (x3 ≤ 4))) else (some false))
def nunciolaw18_StreamEnds.j1 : Nat → List Int → Bool → Int → Int → Int → Int → Bool → Option (Bool)
  | 0, _, _, _, _, _, _, _ => none
  | k + 1, x0, x4, x5, x6, x7, x8, x38 => if x38 = true then (some false) else (if x6 ≥ 6 then (nunciolaw18_StreamEnds.j2 k x0 x4 x5 x6 x7 x8 (decide (x6 ≤ 9))) else (nunciolaw18_StreamEnds.j2 k x0 x4 x5 x6 x7 x8 false))
def nunciolaw18_StreamEnds.j2 : Nat → List Int → Bool → Int → Int → Int → Int → Bool → Option (Bool)
  | 0, _, _, _, _, _, _, _ => none
  | k + 1, x0, x4, x5, x6, x7, x8, x10 => if x4 = true then (if x10 = true then (nunciolaw18_StreamEnds.j3 k x0 x4 x5 x6 x7 x8 (x8 == 0)) else (nunciolaw18_StreamEnds.j3 k x0 x4 x5 x6 x7 x8 false)) else (nunciolaw18_StreamEnds.j3 k x0 x4 x5 x6 x7 x8 false)
def nunciolaw18_StreamEnds.j3 : Nat → List Int → Bool → Int → Int → Int → Int → Bool → Option (Bool)
  | 0, _, _, _, _, _, _, _ => none
  | k + 1, x0, x4, x5, x6, x7, x8, x52 => if x52 = true then (some false) else (if x6 = 5 then (if x8 = 0 then (nunciolaw18_StreamEnds.j4 k x0 x4 x5 x6 x7 x8 (x7 != 4)) else (nunciolaw18_StreamEnds.j4 k x0 x4 x5 x6 x7 x8 false)) else (if x6 = 10 then (if x8 = 0 then (nunciolaw18_StreamEnds.j4 k x0 x4 x5 x6 x7 x8 (x7 != 4)) else (nunciolaw18_StreamEnds.j4 k x0 x4 x5 x6 x7 x8 false)) else (nunciolaw18_StreamEnds.j4 k x0 x4 x5 x6 x7 x8 false)))
def nunciolaw18_StreamEnds.j4 : Nat → List Int → Bool → Int → Int → Int → Int → Bool → Option (Bool)
  | 0, _, _, _, _, _, _, _ => none
  | k + 1, x0, x4, x5, x6, x7, x8, x66 => if x66 = true then (some false) else (if x8 = 0 then (if x6 = 7 then (nunciolaw18_StreamEnds.l0 k x0 x7 true (wrap64 (x5 + 1))) else (if x6 = 9 then (nunciolaw18_StreamEnds.l0 k x0 x7 true (wrap64 (x5 + 1))) else (if x6 = 10 then (nunciolaw18_StreamEnds.l0 k x0 x7 true (wrap64 (x5 + 1))) else (nunciolaw18_StreamEnds.l0 k x0 x7 x4 (wrap64 (x5 + 1)))))) else (nunciolaw18_StreamEnds.l0 k x0 x7 x4 (wrap64 (x5 + 1))))
end
def nunciolaw18_StreamEnds.f (k : Nat) (l0 : List Int) : Option (Bool) := (nunciolaw18_awake.f k).bind fun t115 => (if t115 = true then (if (l0.length : Int) > 2000 then (some true) else (nunciolaw18_StreamEnds.l0 k l0 0 false 0)) else (some false))
theorem nunciolaw18_StreamEnds.mono_l : ∀ k, (∀ y0 y1 y2 y3, LeO (nunciolaw18_StreamEnds.l0 k y0 y1 y2 y3) (nunciolaw18_StreamEnds.l0 (k + 1) y0 y1 y2 y3)) ∧ (∀ y0 y1 y2 y3 y4 y5 y6, LeO (nunciolaw18_StreamEnds.j1 k y0 y1 y2 y3 y4 y5 y6) (nunciolaw18_StreamEnds.j1 (k + 1) y0 y1 y2 y3 y4 y5 y6)) ∧ (∀ y0 y1 y2 y3 y4 y5 y6, LeO (nunciolaw18_StreamEnds.j2 k y0 y1 y2 y3 y4 y5 y6) (nunciolaw18_StreamEnds.j2 (k + 1) y0 y1 y2 y3 y4 y5 y6)) ∧ (∀ y0 y1 y2 y3 y4 y5 y6, LeO (nunciolaw18_StreamEnds.j3 k y0 y1 y2 y3 y4 y5 y6) (nunciolaw18_StreamEnds.j3 (k + 1) y0 y1 y2 y3 y4 y5 y6)) ∧ (∀ y0 y1 y2 y3 y4 y5 y6, LeO (nunciolaw18_StreamEnds.j4 k y0 y1 y2 y3 y4 y5 y6) (nunciolaw18_StreamEnds.j4 (k + 1) y0 y1 y2 y3 y4 y5 y6))
  | 0 => ⟨fun _ _ _ _ r h => by simp [nunciolaw18_StreamEnds.l0] at h, fun _ _ _ _ _ _ _ r h => by simp [nunciolaw18_StreamEnds.j1] at h, fun _ _ _ _ _ _ _ r h => by simp [nunciolaw18_StreamEnds.j2] at h, fun _ _ _ _ _ _ _ r h => by simp [nunciolaw18_StreamEnds.j3] at h, fun _ _ _ _ _ _ _ r h => by simp [nunciolaw18_StreamEnds.j4] at h⟩
  | k + 1 => by
    obtain ⟨ih0, ih1, ih2, ih3, ih4⟩ := nunciolaw18_StreamEnds.mono_l k
    refine ⟨?_, ?_, ?_, ?_, ?_⟩
    · intro y0 y1 y2 y3
      unfold nunciolaw18_StreamEnds.l0
      repeat' first
      | (with_reducible exact ih0 _ _ _ _)
      | (with_reducible exact ih1 _ _ _ _ _ _ _)
      | (with_reducible exact ih2 _ _ _ _ _ _ _)
      | (with_reducible exact ih3 _ _ _ _ _ _ _)
      | (with_reducible exact ih4 _ _ _ _ _ _ _)
      | (with_reducible exact nunciolaw18_awake.mono _)
      | (with_reducible exact stream_Next.mono _ _ _)
      | (with_reducible exact LeO.refl _)
      | (with_reducible exact LeO.none _)
      | (with_reducible refine LeO.ite ?_ ?_)
      | (with_reducible refine LeO.bind ?_ (fun _ => ?_))
      | exact ih0 _ _ _ _
      | exact ih1 _ _ _ _ _ _ _
      | exact ih2 _ _ _ _ _ _ _
      | exact ih3 _ _ _ _ _ _ _
      | exact ih4 _ _ _ _ _ _ _
      | exact nunciolaw18_awake.mono _
      | exact stream_Next.mono _ _ _
      | exact LeO.none _
      | refine LeO.ite ?_ ?_
      | refine LeO.bind ?_ (fun _ => ?_)
    · intro y0 y1 y2 y3 y4 y5 y6
      unfold nunciolaw18_StreamEnds.j1
      repeat' first
      | (with_reducible exact ih0 _ _ _ _)
      | (with_reducible exact ih1 _ _ _ _ _ _ _)
      | (with_reducible exact ih2 _ _ _ _ _ _ _)
      | (with_reducible exact ih3 _ _ _ _ _ _ _)
      | (with_reducible exact ih4 _ _ _ _ _ _ _)
      | (with_reducible exact nunciolaw18_awake.mono _)
      | (with_reducible exact stream_Next.mono _ _ _)
      | (with_reducible exact LeO.refl _)
      | (with_reducible exact LeO.none _)
      | (with_reducible refine LeO.ite ?_ ?_)
      | (with_reducible refine LeO.bind ?_ (fun _ => ?_))
      | exact ih0 _ _ _ _
      | exact ih1 _ _ _ _ _ _ _
      | exact ih2 _ _ _ _ _ _ _
      | exact ih3 _ _ _ _ _ _ _
      | exact ih4 _ _ _ _ _ _ _
      | exact nunciolaw18_awake.mono _
      | exact stream_Next.mono _ _ _
      | exact LeO.none _
      | refine LeO.ite ?_ ?_
      | refine LeO.bind ?_ (fun _ => ?_)
    · intro y0 y1 y2 y3 y4 y5 y6
      unfold nunciolaw18_StreamEnds.j2
      repeat' first
      | (with_reducible exact ih0 _ _ _ _)
      | (with_reducible exact ih1 _ _ _ _ _ _ _)
      | (with_reducible exact ih2 _ _ _ _ _ _ _)
      | (with_reducible exact ih3 _ _ _ _ _ _ _)
      | (with_reducible exact ih4 _ _ _ _ _ _ _)
      | (with_reducible exact nunciolaw18_awake.mono _)
      | (with_reducible exact stream_Next.mono _ _ _)
      | (with_reducible exact LeO.refl _)
      | (with_reducible exact LeO.none _)
      | (with_reducible refine LeO.ite ?_ ?_)
      | (with_reducible refine LeO.bind ?_ (fun _ => ?_))
      | exact ih0 _ _ _ _
      | exact ih1 _ _ _ _ _ _ _
      | exact ih2 _ _ _ _ _ _ _
      | exact ih3 _ _ _ _ _ _ _
      | exact ih4 _ _ _ _ _ _ _
      | exact nunciolaw18_awake.mono _
      | exact stream_Next.mono _ _ _
      | exact LeO.none _
      | refine LeO.ite ?_ ?_
      | refine LeO.bind ?_ (fun _ => ?_)
    · intro y0 y1 y2 y3 y4 y5 y6
      unfold nunciolaw18_StreamEnds.j3
      repeat' first
      | (with_reducible exact ih0 _ _ _ _)
      | (with_reducible exact ih1 _ _ _ _ _ _ _)
      | (with_reducible exact ih2 _ _ _ _ _ _ _)
      | (with_reducible exact ih3 _ _ _ _ _ _ _)
      | (with_reducible exact ih4 _ _ _ _ _ _ _)
      | (with_reducible exact nunciolaw18_awake.mono _)
      | (with_reducible exact stream_Next.mono _ _ _)
      | (with_reducible exact LeO.refl _)
      | (with_reducible exact LeO.none _)
      | (with_reducible refine LeO.ite ?_ ?_)
      | (with_reducible refine LeO.bind ?_ (fun _ => ?_))
      | exact ih0 _ _ _ _
      | exact ih1 _ _ _ _ _ _ _
      | exact ih2 _ _ _ _ _ _ _
      | exact ih3 _ _ _ _ _ _ _
      | exact ih4 _ _ _ _ _ _ _
      | exact nunciolaw18_awake.mono _
      | exact stream_Next.mono _ _ _
      | exact LeO.none _
      | refine LeO.ite ?_ ?_
      | refine LeO.bind ?_ (fun _ => ?_)
    · intro y0 y1 y2 y3 y4 y5 y6
      unfold nunciolaw18_StreamEnds.j4
      repeat' first
      | (with_reducible exact ih0 _ _ _ _)
      | (with_reducible exact ih1 _ _ _ _ _ _ _)
      | (with_reducible exact ih2 _ _ _ _ _ _ _)
      | (with_reducible exact ih3 _ _ _ _ _ _ _)
      | (with_reducible exact ih4 _ _ _ _ _ _ _)
      | (with_reducible exact nunciolaw18_awake.mono _)
      | (with_reducible exact stream_Next.mono _ _ _)
      | (with_reducible exact LeO.refl _)
      | (with_reducible exact LeO.none _)
      | (with_reducible refine LeO.ite ?_ ?_)
      | (with_reducible refine LeO.bind ?_ (fun _ => ?_))
      | exact ih0 _ _ _ _
      | exact ih1 _ _ _ _ _ _ _
      | exact ih2 _ _ _ _ _ _ _
      | exact ih3 _ _ _ _ _ _ _
      | exact ih4 _ _ _ _ _ _ _
      | exact nunciolaw18_awake.mono _
      | exact stream_Next.mono _ _ _
      | exact LeO.none _
      | refine LeO.ite ?_ ?_
      | refine LeO.bind ?_ (fun _ => ?_)
theorem nunciolaw18_StreamEnds.mono : ∀ a0 k, LeO (nunciolaw18_StreamEnds.f k a0) (nunciolaw18_StreamEnds.f (k + 1) a0) := by
  intro a0 k
  obtain ⟨ih0, ih1, ih2, ih3, ih4⟩ := nunciolaw18_StreamEnds.mono_l k
  unfold nunciolaw18_StreamEnds.f
  repeat' first
      | (with_reducible exact ih0 _ _ _ _)
      | (with_reducible exact ih1 _ _ _ _ _ _ _)
      | (with_reducible exact ih2 _ _ _ _ _ _ _)
      | (with_reducible exact ih3 _ _ _ _ _ _ _)
      | (with_reducible exact ih4 _ _ _ _ _ _ _)
      | (with_reducible exact nunciolaw18_awake.mono _)
      | (with_reducible exact stream_Next.mono _ _ _)
      | (with_reducible exact LeO.refl _)
      | (with_reducible exact LeO.none _)
      | (with_reducible refine LeO.ite ?_ ?_)
      | (with_reducible refine LeO.bind ?_ (fun _ => ?_))
      | exact ih0 _ _ _ _
      | exact ih1 _ _ _ _ _ _ _
      | exact ih2 _ _ _ _ _ _ _
      | exact ih3 _ _ _ _ _ _ _
      | exact ih4 _ _ _ _ _ _ _
      | exact nunciolaw18_awake.mono _
      | exact stream_Next.mono _ _ _
      | exact LeO.none _
      | refine LeO.ite ?_ ?_
      | refine LeO.bind ?_ (fun _ => ?_)
set_option maxHeartbeats 8000000 in
set_option maxRecDepth 100000 in
theorem nunciolaw18_StreamEnds.calls (k : Nat) (A0 : Option Addr) (c0 : Nat) (l0 : List Int) (r : Bool) (w : World) (hr0 : Kd.C (Kd.int .i64) w A0 l0.length l0) (hc0 : l0.length ≤ c0) (h : nunciolaw18_StreamEnds.f k l0 = some r) :
    Calls Try.prog 7 #[.slice A0 l0.length c0] w fun e w' => e = .returned (.bool r) ∧ Below w.heap.size w w' := by
  have HR0 := Aside0.mk hr0
  have HC0 := Aside0.mk hc0
  clear hr0 hc0
  have HB := Aside0.mk (Below.refl w.heap.size w)
  have H : ((nunciolaw18_awake.f k).bind fun t115 => (if t115 = true then (if (l0.length : Int) > 2000 then (some true) else (nunciolaw18_StreamEnds.l0 k l0 0 false 0)) else (some false))) = some r := h
  clear h
  replace H := Option.bind_eq_some_iff.mp H
  obtain ⟨t115, A20, H⟩ := H
  replace H : (if t115 = true then (if (l0.length : Int) > 2000 then (some true) else (nunciolaw18_StreamEnds.l0 k l0 0 false 0)) else (some false)) = some r := H
  have A2 := Aside0.mk A20
  clear A20
  by_cases c3 : t115 = true
  · subst c3
    have H1 : (if (l0.length : Int) > 2000 then (some true) else (nunciolaw18_StreamEnds.l0 k l0 0 false 0)) = some r := by rw [if_pos rfl] at H; exact H
    clear H
    have H := H1
    clear H1
    by_cases c4 : (l0.length : Int) > 2000
    · rw [if_pos c4] at H
      have c4b0 : decide (2000 < (l0.length : Int)) = true := decide_eq_true c4
      have c4b1 : decide (2000 < l0.length) = true := decide_eq_true (by omega)
      clear c4
      obtain rfl := Option.some.inj H
      go_enter Try.func7, Try.ntmps7
      go_wp2_with (first | ((with_reducible refine gate_callee (f := 9) rfl ?_); refine goesL_ (some 11) rfl rfl Try.func9 (by kernel_rfl) rfl #[] rfl (by (try simp only [List.map_toArray, List.map_cons, List.map_nil]); first | done | rfl | (simp only [List.length_drop, List.length_take]; rfl)) ?_; (with_reducible refine (nunciolaw18_awake.calls k  true _ A2.out).mono ?_); rintro e w5 ⟨rfl, hb⟩; refine ⟨_, rfl, ?_⟩; have n0_ := Aside0.mk (below_step (by repeat (first | (with_reducible first | exact HB.out | apply below_alloc | apply pw_below_drewN | apply below_drew1) | exact HB.out)) hb); clear HB; have HB := n0_; clear n0_; (try clear hb); (try clear hb2); (try clear hk); (try clear hi)))
      go_ret
      exact ⟨by first | rfl | (simp [errW_none, errW_some] <;> rfl) | (simp [*, errW_none, errW_some] <;> rfl), by repeat (first | (with_reducible first | exact HB.out | apply below_alloc | apply pw_below_drewN | apply below_drew1) | exact HB.out)⟩
    · rw [if_neg c4] at H
      have c4b0 : decide (2000 < (l0.length : Int)) = false := decide_eq_false c4
      have c4b1 : decide (2000 < l0.length) = false := decide_eq_false (by omega)
      clear c4
      have H' := Aside0.mk H
      clear H
      go_enter Try.func7, Try.ntmps7
      go_wp2_with (first | ((with_reducible refine gate_callee (f := 9) rfl ?_); refine goesL_ (some 11) rfl rfl Try.func9 (by kernel_rfl) rfl #[] rfl (by (try simp only [List.map_toArray, List.map_cons, List.map_nil]); first | done | rfl | (simp only [List.length_drop, List.length_take]; rfl)) ?_; (with_reducible refine (nunciolaw18_awake.calls k  true _ A2.out).mono ?_); rintro e w6 ⟨rfl, hb⟩; refine ⟨_, rfl, ?_⟩; have n0_ := Aside0.mk (below_step (by repeat (first | (with_reducible first | exact HB.out | apply below_alloc | apply pw_below_drewN | apply below_drew1) | exact HB.out)) hb); clear HB; have HB := n0_; clear n0_; (try clear hb); (try clear hb2); (try clear hk); (try clear hi)))
      go_loopg [3, 4, 5] k (fun kq v3 v4 v5 w' => ∃ (x3_1 : Int) (x4_1 : Bool) (x5_1 : Int), v3 = .int .i64 x3_1 ∧ v4 = .bool x4_1 ∧ v5 = .int .i64 x5_1 ∧ Aside0 (nunciolaw18_StreamEnds.l0 kq l0 x3_1 x4_1 x5_1 = some r) ∧ Aside0 (kq ≤ k) ∧ Aside0 (Below w.heap.size w w'))
      case atStart => exact ⟨(0), (false), (0), (by first | rfl | (simp; done) | (simp [*]; done)), (by first | rfl | (simp; done) | (simp [*]; done)), (by first | rfl | (simp; done) | (simp [*]; done)), H', ⟨Nat.le_refl _⟩, ⟨by repeat (first | (with_reducible first | exact HB.out | apply below_alloc | apply pw_below_drewN | apply below_drew1) | exact HB.out)⟩⟩
      case round =>
        clear H'
        try clear p2
        try clear c3
        try clear c4
        try clear c4b0
        try clear c4b1
        obtain ⟨x3_1, x4_1, x5_1, rfl, rfl, rfl, HA, HK1, HB⟩ := hrel
        cases gk with
        | zero => exact absurd HA.out (by simp [nunciolaw18_StreamEnds.l0])
        | succ k1 =>
          have H := HA.out
          clear HA
          simp only [nunciolaw18_StreamEnds.l0] at H
          by_cases c7 : x5_1 < (l0.length : Int)
          · rw [if_pos c7] at H
            have c7b0 : decide (x5_1 < (l0.length : Int)) = true := decide_eq_true c7
            clear c7
            by_cases c8 : 0 ≤ x5_1
            · rw [if_pos c8] at H
              have c8b0 : decide (0 ≤ x5_1) = true := decide_eq_true c8
              clear c8
              replace H := Option.bind_eq_some_iff.mp H
              obtain ⟨⟨t117, t118, t119⟩, A90, H⟩ := H
              replace H : (if x3_1 = 4 then (nunciolaw18_StreamEnds.j1 k1 l0 x4_1 x5_1 (rd l0 x5_1) t117 t118 (t117 != 4)) else (nunciolaw18_StreamEnds.j1 k1 l0 x4_1 x5_1 (rd l0 x5_1) t117 t118 false)) = some r := H
              have A9 := Aside0.mk A90
              clear A90
              have HC10 := Aside0.mk H
              clear H
              have p116 : 0 ≤ (x5_1 : Int) := of_decide_eq_true (by first | (with_reducible assumption) | assumption)
              have q116 : x5_1 < (l0.length : Int) := of_decide_eq_true (by first | (with_reducible assumption) | assumption)
              obtain ⟨ad116, e116, hx116_0⟩ := Kd.at_int HR0.out x5_1 p116 q116
              cases e116
              replace hx116_0 := (HB.out.cell (World.block_lt_of_cell? w _ hx116_0)).trans hx116_0
              replace p116 := eq_true p116
              replace q116 := eq_true q116
              go_upto_region 12 with (first | ((with_reducible refine gate_callee (f := 10) rfl ?_); refine goesL_ (some 29) rfl rfl Try.func10 (by kernel_rfl) rfl #[.int .i64 x3_1, .int .i64 (rd l0 x5_1)] rfl (by (try simp only [List.map_toArray, List.map_cons, List.map_nil]); first | done | rfl | (simp only [List.length_drop, List.length_take]; rfl)) ?_; (with_reducible refine (stream_Next.calls k1 x3_1 (rd l0 x5_1) t117 t118 t119 _ A9.out).mono ?_); rintro e w' ⟨rfl, ⟨nd, rfl⟩⟩; refine ⟨_, rfl, ?_⟩))
              (try simp only [Act.put, List.setIfInBounds_toArray, List.set_cons_zero, List.set_cons_succ])
              go_cut [38] (fun v38 wc => ∃ (kq : Nat) (x38_9 : Bool), v38 = .bool x38_9 ∧ Aside0 (nunciolaw18_StreamEnds.j1 kq l0 x4_1 x5_1 (rd l0 x5_1) t117 t118 x38_9 = some r) ∧ Aside0 (kq ≤ k1) ∧ Aside0 (Below w.heap.size w wc))
              case first =>
                have H := HC10.out
                clear HC10
                by_cases c11 : x3_1 = 4
                · rw [if_pos c11] at H
                  have c11b0 : (x3_1 == 4) = true := beq_iff_eq.mpr c11
                  have c11b1 : (x3_1 != 4) = false := bne_eq_false_iff_eq.mpr c11
                  clear c11
                  (first | rw [c11b0] | (simp only [i64_w, i32_w]; rw [c11b0]) | skip)
                  have H' := Aside0.mk H
                  clear H
                  go_wp2
                  go_meet
                  case rel => exact ⟨_, ((t117 != 4)), (by first | rfl | (simp; done) | (simp [*]; done)), H', ⟨by have := HK1.out; first | omega | exact Nat.le_refl _⟩, ⟨by repeat (first | (with_reducible first | exact HB.out | apply below_alloc | apply pw_below_drewN | apply below_drew1) | exact HB.out)⟩⟩
                · rw [if_neg c11] at H
                  have c11b0 : (x3_1 == 4) = false := beq_eq_false_iff_ne.mpr c11
                  have c11b1 : (x3_1 != 4) = true := bne_iff_ne.mpr c11
                  (first | rw [c11b0] | (simp only [i64_w, i32_w]; rw [c11b0]) | skip)
                  have H' := Aside0.mk H
                  clear H
                  go_wp2
                  go_meet
                  case rel => exact ⟨_, (false), (by first | rfl | (simp; done) | (simp [*]; done)), H', ⟨by have := HK1.out; first | omega | exact Nat.le_refl _⟩, ⟨by repeat (first | (with_reducible first | exact HB.out | apply below_alloc | apply pw_below_drewN | apply below_drew1) | exact HB.out)⟩⟩
              case rest =>
                clear HC10
                try clear c1
                try clear p1
                try clear q1
                try clear hx1
                try clear p2
                try clear c3
                try clear c4
                try clear c4b0
                try clear c4b1
                try clear c7
                try clear c7b0
                try clear c8
                try clear c8b0
                try clear c9
                try clear c10
                try clear c11
                try clear c11b0
                try clear c11b1
                try clear p11
                try clear q11
                try clear hx11
                try clear hx116_0
                try clear p116
                try clear p2
                try clear q116
                obtain ⟨kq, x38_9, rfl, HA, HJ9, HB⟩ := hcut
                cases kq with
                | zero => exact absurd HA.out (by simp [nunciolaw18_StreamEnds.j1])
                | succ kj9 =>
                  have H := HA.out
                  clear HA
                  simp only [nunciolaw18_StreamEnds.j1] at H
                  by_cases c12 : x38_9 = true
                  · subst c12
                    have H1 : (some false) = some r := by rw [if_pos rfl] at H; exact H
                    clear H
                    have H := H1
                    clear H1
                    obtain rfl := Option.some.inj H
                    go_wp2
                    go_ret
                    exact ⟨by first | rfl | (simp [errW_none, errW_some] <;> rfl) | (simp [*, errW_none, errW_some] <;> rfl), by repeat (first | (with_reducible first | exact HB.out | apply below_alloc | apply pw_below_drewN | apply below_drew1) | exact HB.out)⟩
                  · replace c12 := Bool.eq_false_iff.mpr c12
                    subst c12
                    have H1 : (if (rd l0 x5_1) ≥ 6 then (nunciolaw18_StreamEnds.j2 kj9 l0 x4_1 x5_1 (rd l0 x5_1) t117 t118 (decide ((rd l0 x5_1) ≤ 9))) else (nunciolaw18_StreamEnds.j2 kj9 l0 x4_1 x5_1 (rd l0 x5_1) t117 t118 false)) = some r := by rw [if_neg (show ¬ (false = true) by decide)] at H; exact H
                    clear H
                    have H := H1
                    clear H1
                    have HC13 := Aside0.mk H
                    clear H
                    go_upto_region 14 with (fail)
                    go_cut [10] (fun v10 wc => ∃ (kq : Nat) (x10_12 : Bool), v10 = .bool x10_12 ∧ Aside0 (nunciolaw18_StreamEnds.j2 kq l0 x4_1 x5_1 (rd l0 x5_1) t117 t118 x10_12 = some r) ∧ Aside0 (kq ≤ kj9) ∧ Aside0 (Below w.heap.size w wc))
                    case first =>
                      have H := HC13.out
                      clear HC13
                      by_cases c14 : (rd l0 x5_1) ≥ 6
                      · rw [if_pos c14] at H
                        have c14b0 : decide (6 ≤ (rd l0 x5_1)) = true := decide_eq_true c14
                        clear c14
                        (first | rw [c14b0] | (simp only [i64_w, i32_w]; rw [c14b0]) | skip)
                        have H' := Aside0.mk H
                        clear H
                        go_wp2
                        go_meet
                        case rel => exact ⟨_, (decide ((rd l0 x5_1) ≤ 9)), (by first | rfl | (simp; done) | (simp [*]; done)), H', ⟨by have := HK1.out; have := HJ9.out; first | omega | exact Nat.le_refl _⟩, ⟨by repeat (first | (with_reducible first | exact HB.out | apply below_alloc | apply pw_below_drewN | apply below_drew1) | exact HB.out)⟩⟩
                      · rw [if_neg c14] at H
                        have c14b0 : decide (6 ≤ (rd l0 x5_1)) = false := decide_eq_false c14
                        clear c14
                        (first | rw [c14b0] | (simp only [i64_w, i32_w]; rw [c14b0]) | skip)
                        have H' := Aside0.mk H
                        clear H
                        go_wp2
                        go_meet
                        case rel => exact ⟨_, (false), (by first | rfl | (simp; done) | (simp [*]; done)), H', ⟨by have := HK1.out; have := HJ9.out; first | omega | exact Nat.le_refl _⟩, ⟨by repeat (first | (with_reducible first | exact HB.out | apply below_alloc | apply pw_below_drewN | apply below_drew1) | exact HB.out)⟩⟩
                    case rest =>
                      clear HC13
                      try clear c1
                      try clear p1
                      try clear q1
                      try clear hx1
                      try clear p2
                      try clear c3
                      try clear c4
                      try clear c4b0
                      try clear c4b1
                      try clear c7
                      try clear c7b0
                      try clear c8
                      try clear c8b0
                      try clear c9
                      try clear c10
                      try clear c11
                      try clear c11b0
                      try clear c11b1
                      try clear p11
                      try clear q11
                      try clear hx11
                      try clear c12
                      try clear c14
                      try clear c14b0
                      try clear hx116_0
                      try clear p1
                      try clear p11
                      try clear p116
                      try clear p2
                      try clear q1
                      try clear q11
                      try clear q116
                      obtain ⟨kq, x10_12, rfl, HA, HJ12, HB⟩ := hcut
                      cases kq with
                      | zero => exact absurd HA.out (by simp [nunciolaw18_StreamEnds.j2])
                      | succ kj12 =>
                        have H := HA.out
                        clear HA
                        simp only [nunciolaw18_StreamEnds.j2] at H
                        have HC15 := Aside0.mk H
                        clear H
                        go_upto_region 15 with (fail)
                        go_cut [52] (fun v52 wc => ∃ (kq : Nat) (x52_14 : Bool), v52 = .bool x52_14 ∧ Aside0 (nunciolaw18_StreamEnds.j3 kq l0 x4_1 x5_1 (rd l0 x5_1) t117 t118 x52_14 = some r) ∧ Aside0 (kq ≤ kj12) ∧ Aside0 (Below w.heap.size w wc))
                        case first =>
                          have H := HC15.out
                          clear HC15
                          by_cases c16 : x4_1 = true
                          · subst c16
                            have H1 : (if x10_12 = true then (nunciolaw18_StreamEnds.j3 kj12 l0 true x5_1 (rd l0 x5_1) t117 t118 (t118 == 0)) else (nunciolaw18_StreamEnds.j3 kj12 l0 true x5_1 (rd l0 x5_1) t117 t118 false)) = some r := by rw [if_pos rfl] at H; exact H
                            clear H
                            have H := H1
                            clear H1
                            by_cases c17 : x10_12 = true
                            · subst c17
                              have H1 : (nunciolaw18_StreamEnds.j3 kj12 l0 true x5_1 (rd l0 x5_1) t117 t118 (t118 == 0)) = some r := by rw [if_pos rfl] at H; exact H
                              clear H
                              have H := H1
                              clear H1
                              have H' := Aside0.mk H
                              clear H
                              go_wp2
                              go_meet
                              case rel => exact ⟨_, ((t118 == 0)), (by first | rfl | (simp; done) | (simp [*]; done)), H', ⟨by have := HK1.out; have := HJ9.out; have := HJ12.out; first | omega | exact Nat.le_refl _⟩, ⟨by repeat (first | (with_reducible first | exact HB.out | apply below_alloc | apply pw_below_drewN | apply below_drew1) | exact HB.out)⟩⟩
                            · replace c17 := Bool.eq_false_iff.mpr c17
                              subst c17
                              have H1 : (nunciolaw18_StreamEnds.j3 kj12 l0 true x5_1 (rd l0 x5_1) t117 t118 false) = some r := by rw [if_neg (show ¬ (false = true) by decide)] at H; exact H
                              clear H
                              have H := H1
                              clear H1
                              have H' := Aside0.mk H
                              clear H
                              go_wp2
                              go_meet
                              case rel => exact ⟨_, (false), (by first | rfl | (simp; done) | (simp [*]; done)), H', ⟨by have := HK1.out; have := HJ9.out; have := HJ12.out; first | omega | exact Nat.le_refl _⟩, ⟨by repeat (first | (with_reducible first | exact HB.out | apply below_alloc | apply pw_below_drewN | apply below_drew1) | exact HB.out)⟩⟩
                          · replace c16 := Bool.eq_false_iff.mpr c16
                            subst c16
                            have H1 : (nunciolaw18_StreamEnds.j3 kj12 l0 false x5_1 (rd l0 x5_1) t117 t118 false) = some r := by rw [if_neg (show ¬ (false = true) by decide)] at H; exact H
                            clear H
                            have H := H1
                            clear H1
                            have H' := Aside0.mk H
                            clear H
                            go_wp2
                            go_meet
                            case rel => exact ⟨_, (false), (by first | rfl | (simp; done) | (simp [*]; done)), H', ⟨by have := HK1.out; have := HJ9.out; have := HJ12.out; first | omega | exact Nat.le_refl _⟩, ⟨by repeat (first | (with_reducible first | exact HB.out | apply below_alloc | apply pw_below_drewN | apply below_drew1) | exact HB.out)⟩⟩
                        case rest =>
                          clear HC15
                          try clear c1
                          try clear p1
                          try clear q1
                          try clear hx1
                          try clear p2
                          try clear c3
                          try clear c4
                          try clear c4b0
                          try clear c4b1
                          try clear c7
                          try clear c7b0
                          try clear c8
                          try clear c8b0
                          try clear c9
                          try clear c10
                          try clear c11
                          try clear c11b0
                          try clear c11b1
                          try clear p11
                          try clear q11
                          try clear hx11
                          try clear c12
                          try clear c14
                          try clear c14b0
                          try clear c16
                          try clear c17
                          try clear hx116_0
                          try clear p1
                          try clear p11
                          try clear p116
                          try clear p2
                          try clear q1
                          try clear q11
                          try clear q116
                          obtain ⟨kq, x52_14, rfl, HA, HJ14, HB⟩ := hcut
                          cases kq with
                          | zero => exact absurd HA.out (by simp [nunciolaw18_StreamEnds.j3])
                          | succ kj14 =>
                            have H := HA.out
                            clear HA
                            simp only [nunciolaw18_StreamEnds.j3] at H
                            by_cases c18 : x52_14 = true
                            · subst c18
                              have H1 : (some false) = some r := by rw [if_pos rfl] at H; exact H
                              clear H
                              have H := H1
                              clear H1
                              obtain rfl := Option.some.inj H
                              go_wp2
                              go_ret
                              exact ⟨by first | rfl | (simp [errW_none, errW_some] <;> rfl) | (simp [*, errW_none, errW_some] <;> rfl), by repeat (first | (with_reducible first | exact HB.out | apply below_alloc | apply pw_below_drewN | apply below_drew1) | exact HB.out)⟩
                            · replace c18 := Bool.eq_false_iff.mpr c18
                              subst c18
                              have H1 : (if (rd l0 x5_1) = 5 then (if t118 = 0 then (nunciolaw18_StreamEnds.j4 kj14 l0 x4_1 x5_1 (rd l0 x5_1) t117 t118 (t117 != 4)) else (nunciolaw18_StreamEnds.j4 kj14 l0 x4_1 x5_1 (rd l0 x5_1) t117 t118 false)) else (if (rd l0 x5_1) = 10 then (if t118 = 0 then (nunciolaw18_StreamEnds.j4 kj14 l0 x4_1 x5_1 (rd l0 x5_1) t117 t118 (t117 != 4)) else (nunciolaw18_StreamEnds.j4 kj14 l0 x4_1 x5_1 (rd l0 x5_1) t117 t118 false)) else (nunciolaw18_StreamEnds.j4 kj14 l0 x4_1 x5_1 (rd l0 x5_1) t117 t118 false))) = some r := by rw [if_neg (show ¬ (false = true) by decide)] at H; exact H
                              clear H
                              have H := H1
                              clear H1
                              have HC19 := Aside0.mk H
                              clear H
                              go_upto_region 17 with (fail)
                              go_cut [66] (fun v66 wc => ∃ (kq : Nat) (x66_18 : Bool), v66 = .bool x66_18 ∧ Aside0 (nunciolaw18_StreamEnds.j4 kq l0 x4_1 x5_1 (rd l0 x5_1) t117 t118 x66_18 = some r) ∧ Aside0 (kq ≤ kj14) ∧ Aside0 (Below w.heap.size w wc))
                              case first =>
                                have H := HC19.out
                                clear HC19
                                by_cases c20 : (rd l0 x5_1) = 5
                                · rw [if_pos c20] at H
                                  have c20b0 : ((rd l0 x5_1) == 5) = true := beq_iff_eq.mpr c20
                                  have c20b1 : ((rd l0 x5_1) != 5) = false := bne_eq_false_iff_eq.mpr c20
                                  clear c20
                                  (first | rw [c20b0] | (simp only [i64_w, i32_w]; rw [c20b0]) | skip)
                                  by_cases c21 : t118 = 0
                                  · rw [if_pos c21] at H
                                    have c21b0 : (t118 == 0) = true := beq_iff_eq.mpr c21
                                    have c21b1 : (t118 != 0) = false := bne_eq_false_iff_eq.mpr c21
                                    clear c21
                                    have H' := Aside0.mk H
                                    clear H
                                    go_wp2
                                    go_meet
                                    case rel => exact ⟨_, ((t117 != 4)), (by first | rfl | (simp; done) | (simp [*]; done)), H', ⟨by have := HK1.out; have := HJ9.out; have := HJ12.out; have := HJ14.out; first | omega | exact Nat.le_refl _⟩, ⟨by repeat (first | (with_reducible first | exact HB.out | apply below_alloc | apply pw_below_drewN | apply below_drew1) | exact HB.out)⟩⟩
                                  · rw [if_neg c21] at H
                                    have c21b0 : (t118 == 0) = false := beq_eq_false_iff_ne.mpr c21
                                    have c21b1 : (t118 != 0) = true := bne_iff_ne.mpr c21
                                    have H' := Aside0.mk H
                                    clear H
                                    go_wp2
                                    go_meet
                                    case rel => exact ⟨_, (false), (by first | rfl | (simp; done) | (simp [*]; done)), H', ⟨by have := HK1.out; have := HJ9.out; have := HJ12.out; have := HJ14.out; first | omega | exact Nat.le_refl _⟩, ⟨by repeat (first | (with_reducible first | exact HB.out | apply below_alloc | apply pw_below_drewN | apply below_drew1) | exact HB.out)⟩⟩
                                · rw [if_neg c20] at H
                                  have c20b0 : ((rd l0 x5_1) == 5) = false := beq_eq_false_iff_ne.mpr c20
                                  have c20b1 : ((rd l0 x5_1) != 5) = true := bne_iff_ne.mpr c20
                                  (first | rw [c20b0] | (simp only [i64_w, i32_w]; rw [c20b0]) | skip)
                                  by_cases c22 : (rd l0 x5_1) = 10
                                  · rw [if_pos c22] at H
                                    have c22b0 : ((rd l0 x5_1) == 10) = true := beq_iff_eq.mpr c22
                                    have c22b1 : ((rd l0 x5_1) != 10) = false := bne_eq_false_iff_eq.mpr c22
                                    clear c22
                                    by_cases c23 : t118 = 0
                                    · rw [if_pos c23] at H
                                      have c23b0 : (t118 == 0) = true := beq_iff_eq.mpr c23
                                      have c23b1 : (t118 != 0) = false := bne_eq_false_iff_eq.mpr c23
                                      clear c23
                                      have H' := Aside0.mk H
                                      clear H
                                      go_wp2
                                      go_meet
                                      case rel => exact ⟨_, ((t117 != 4)), (by first | rfl | (simp; done) | (simp [*]; done)), H', ⟨by have := HK1.out; have := HJ9.out; have := HJ12.out; have := HJ14.out; first | omega | exact Nat.le_refl _⟩, ⟨by repeat (first | (with_reducible first | exact HB.out | apply below_alloc | apply pw_below_drewN | apply below_drew1) | exact HB.out)⟩⟩
                                    · rw [if_neg c23] at H
                                      have c23b0 : (t118 == 0) = false := beq_eq_false_iff_ne.mpr c23
                                      have c23b1 : (t118 != 0) = true := bne_iff_ne.mpr c23
                                      have H' := Aside0.mk H
                                      clear H
                                      go_wp2
                                      go_meet
                                      case rel => exact ⟨_, (false), (by first | rfl | (simp; done) | (simp [*]; done)), H', ⟨by have := HK1.out; have := HJ9.out; have := HJ12.out; have := HJ14.out; first | omega | exact Nat.le_refl _⟩, ⟨by repeat (first | (with_reducible first | exact HB.out | apply below_alloc | apply pw_below_drewN | apply below_drew1) | exact HB.out)⟩⟩
                                  · rw [if_neg c22] at H
                                    have c22b0 : ((rd l0 x5_1) == 10) = false := beq_eq_false_iff_ne.mpr c22
                                    have c22b1 : ((rd l0 x5_1) != 10) = true := bne_iff_ne.mpr c22
                                    have H' := Aside0.mk H
                                    clear H
                                    go_wp2
                                    go_meet
                                    case rel => exact ⟨_, (false), (by first | rfl | (simp; done) | (simp [*]; done)), H', ⟨by have := HK1.out; have := HJ9.out; have := HJ12.out; have := HJ14.out; first | omega | exact Nat.le_refl _⟩, ⟨by repeat (first | (with_reducible first | exact HB.out | apply below_alloc | apply pw_below_drewN | apply below_drew1) | exact HB.out)⟩⟩
                              case rest =>
                                clear HC19
                                try clear c1
                                try clear p1
                                try clear q1
                                try clear hx1
                                try clear c2
                                try clear p2
                                try clear c3
                                try clear c4
                                try clear c4b0
                                try clear c4b1
                                try clear c7
                                try clear c7b0
                                try clear c8
                                try clear c8b0
                                try clear c9
                                try clear c10
                                try clear c11
                                try clear c11b0
                                try clear c11b1
                                try clear p11
                                try clear q11
                                try clear hx11
                                try clear c12
                                try clear c14
                                try clear c14b0
                                try clear c16
                                try clear c17
                                try clear c18
                                try clear c20
                                try clear c20b0
                                try clear c20b1
                                try clear c21
                                try clear c21b0
                                try clear c21b1
                                try clear c22
                                try clear c22b0
                                try clear c22b1
                                try clear c23
                                try clear c23b0
                                try clear c23b1
                                try clear hx116_0
                                try clear p1
                                try clear p11
                                try clear p116
                                try clear p2
                                try clear q1
                                try clear q11
                                try clear q116
                                obtain ⟨kq, x66_18, rfl, HA, HJ18, HB⟩ := hcut
                                cases kq with
                                | zero => exact absurd HA.out (by simp [nunciolaw18_StreamEnds.j4])
                                | succ kj18 =>
                                  have H := HA.out
                                  clear HA
                                  simp only [nunciolaw18_StreamEnds.j4] at H
                                  by_cases c24 : x66_18 = true
                                  · subst c24
                                    have H1 : (some false) = some r := by rw [if_pos rfl] at H; exact H
                                    clear H
                                    have H := H1
                                    clear H1
                                    obtain rfl := Option.some.inj H
                                    go_wp2
                                    go_ret
                                    exact ⟨by first | rfl | (simp [errW_none, errW_some] <;> rfl) | (simp [*, errW_none, errW_some] <;> rfl), by repeat (first | (with_reducible first | exact HB.out | apply below_alloc | apply pw_below_drewN | apply below_drew1) | exact HB.out)⟩
                                  · replace c24 := Bool.eq_false_iff.mpr c24
                                    subst c24
                                    have H1 : (if t118 = 0 then (if (rd l0 x5_1) = 7 then (nunciolaw18_StreamEnds.l0 kj18 l0 t117 true (wrap64 (x5_1 + 1))) else (if (rd l0 x5_1) = 9 then (nunciolaw18_StreamEnds.l0 kj18 l0 t117 true (wrap64 (x5_1 + 1))) else (if (rd l0 x5_1) = 10 then (nunciolaw18_StreamEnds.l0 kj18 l0 t117 true (wrap64 (x5_1 + 1))) else (nunciolaw18_StreamEnds.l0 kj18 l0 t117 x4_1 (wrap64 (x5_1 + 1)))))) else (nunciolaw18_StreamEnds.l0 kj18 l0 t117 x4_1 (wrap64 (x5_1 + 1)))) = some r := by rw [if_neg (show ¬ (false = true) by decide)] at H; exact H
                                    clear H
                                    have H := H1
                                    clear H1
                                    by_cases c25 : t118 = 0
                                    · rw [if_pos c25] at H
                                      have c25b0 : (t118 == 0) = true := beq_iff_eq.mpr c25
                                      have c25b1 : (t118 != 0) = false := bne_eq_false_iff_eq.mpr c25
                                      clear c25
                                      by_cases c26 : (rd l0 x5_1) = 7
                                      · rw [if_pos c26] at H
                                        have c26b0 : ((rd l0 x5_1) == 7) = true := beq_iff_eq.mpr c26
                                        have c26b1 : ((rd l0 x5_1) != 7) = false := bne_eq_false_iff_eq.mpr c26
                                        clear c26
                                        have H' := Aside0.mk H
                                        clear H
                                        go_wp2
                                        go_roundg kj18
                                        case measure => have := HK1.out; have := HJ9.out; have := HJ12.out; have := HJ14.out; have := HJ18.out; omega
                                        case rel => exact ⟨(t117), (true), (wrap64 (x5_1 + 1)), (by first | rfl | (simp; done) | (simp [*]; done)), (by first | rfl | (simp; done) | (simp [*]; done)), (by first | rfl | (simp; done) | (simp [*]; done)), H', ⟨by have := HK1.out; have := HJ9.out; have := HJ12.out; have := HJ14.out; have := HJ18.out; omega⟩, ⟨by repeat (first | (with_reducible first | exact HB.out | apply below_alloc | apply pw_below_drewN | apply below_drew1) | exact HB.out)⟩⟩
                                      · rw [if_neg c26] at H
                                        have c26b0 : ((rd l0 x5_1) == 7) = false := beq_eq_false_iff_ne.mpr c26
                                        have c26b1 : ((rd l0 x5_1) != 7) = true := bne_iff_ne.mpr c26
                                        by_cases c27 : (rd l0 x5_1) = 9
                                        · rw [if_pos c27] at H
                                          have c27b0 : ((rd l0 x5_1) == 9) = true := beq_iff_eq.mpr c27
                                          have c27b1 : ((rd l0 x5_1) != 9) = false := bne_eq_false_iff_eq.mpr c27
                                          clear c27
                                          have H' := Aside0.mk H
                                          clear H
                                          go_wp2
                                          go_roundg kj18
                                          case measure => have := HK1.out; have := HJ9.out; have := HJ12.out; have := HJ14.out; have := HJ18.out; omega
                                          case rel => exact ⟨(t117), (true), (wrap64 (x5_1 + 1)), (by first | rfl | (simp; done) | (simp [*]; done)), (by first | rfl | (simp; done) | (simp [*]; done)), (by first | rfl | (simp; done) | (simp [*]; done)), H', ⟨by have := HK1.out; have := HJ9.out; have := HJ12.out; have := HJ14.out; have := HJ18.out; omega⟩, ⟨by repeat (first | (with_reducible first | exact HB.out | apply below_alloc | apply pw_below_drewN | apply below_drew1) | exact HB.out)⟩⟩
                                        · rw [if_neg c27] at H
                                          have c27b0 : ((rd l0 x5_1) == 9) = false := beq_eq_false_iff_ne.mpr c27
                                          have c27b1 : ((rd l0 x5_1) != 9) = true := bne_iff_ne.mpr c27
                                          by_cases c28 : (rd l0 x5_1) = 10
                                          · rw [if_pos c28] at H
                                            have c28b0 : ((rd l0 x5_1) == 10) = true := beq_iff_eq.mpr c28
                                            have c28b1 : ((rd l0 x5_1) != 10) = false := bne_eq_false_iff_eq.mpr c28
                                            clear c28
                                            have H' := Aside0.mk H
                                            clear H
                                            go_wp2
                                            go_roundg kj18
                                            case measure => have := HK1.out; have := HJ9.out; have := HJ12.out; have := HJ14.out; have := HJ18.out; omega
                                            case rel => exact ⟨(t117), (true), (wrap64 (x5_1 + 1)), (by first | rfl | (simp; done) | (simp [*]; done)), (by first | rfl | (simp; done) | (simp [*]; done)), (by first | rfl | (simp; done) | (simp [*]; done)), H', ⟨by have := HK1.out; have := HJ9.out; have := HJ12.out; have := HJ14.out; have := HJ18.out; omega⟩, ⟨by repeat (first | (with_reducible first | exact HB.out | apply below_alloc | apply pw_below_drewN | apply below_drew1) | exact HB.out)⟩⟩
                                          · rw [if_neg c28] at H
                                            have c28b0 : ((rd l0 x5_1) == 10) = false := beq_eq_false_iff_ne.mpr c28
                                            have c28b1 : ((rd l0 x5_1) != 10) = true := bne_iff_ne.mpr c28
                                            have H' := Aside0.mk H
                                            clear H
                                            go_wp2
                                            go_roundg kj18
                                            case measure => have := HK1.out; have := HJ9.out; have := HJ12.out; have := HJ14.out; have := HJ18.out; omega
                                            case rel => exact ⟨(t117), (x4_1), (wrap64 (x5_1 + 1)), (by first | rfl | (simp; done) | (simp [*]; done)), (by first | rfl | (simp; done) | (simp [*]; done)), (by first | rfl | (simp; done) | (simp [*]; done)), H', ⟨by have := HK1.out; have := HJ9.out; have := HJ12.out; have := HJ14.out; have := HJ18.out; omega⟩, ⟨by repeat (first | (with_reducible first | exact HB.out | apply below_alloc | apply pw_below_drewN | apply below_drew1) | exact HB.out)⟩⟩
                                    · rw [if_neg c25] at H
                                      have c25b0 : (t118 == 0) = false := beq_eq_false_iff_ne.mpr c25
                                      have c25b1 : (t118 != 0) = true := bne_iff_ne.mpr c25
                                      have H' := Aside0.mk H
                                      clear H
                                      go_wp2
                                      go_roundg kj18
                                      case measure => have := HK1.out; have := HJ9.out; have := HJ12.out; have := HJ14.out; have := HJ18.out; omega
                                      case rel => exact ⟨(t117), (x4_1), (wrap64 (x5_1 + 1)), (by first | rfl | (simp; done) | (simp [*]; done)), (by first | rfl | (simp; done) | (simp [*]; done)), (by first | rfl | (simp; done) | (simp [*]; done)), H', ⟨by have := HK1.out; have := HJ9.out; have := HJ12.out; have := HJ14.out; have := HJ18.out; omega⟩, ⟨by repeat (first | (with_reducible first | exact HB.out | apply below_alloc | apply pw_below_drewN | apply below_drew1) | exact HB.out)⟩⟩
            · rw [if_neg c8] at H
              exact absurd H (by simp)
          · rw [if_neg c7] at H
            have c7b0 : decide (x5_1 < (l0.length : Int)) = false := decide_eq_false c7
            clear c7
            by_cases c29 : x3_1 ≥ 0
            · rw [if_pos c29] at H
              have c29b0 : decide (0 ≤ x3_1) = true := decide_eq_true c29
              clear c29
              obtain rfl := Option.some.inj H
              go_wp2
              go_ret
              exact ⟨by first | rfl | (simp [errW_none, errW_some] <;> rfl) | (simp [*, errW_none, errW_some] <;> rfl), by repeat (first | (with_reducible first | exact HB.out | apply below_alloc | apply pw_below_drewN | apply below_drew1) | exact HB.out)⟩
            · rw [if_neg c29] at H
              have c29b0 : decide (0 ≤ x3_1) = false := decide_eq_false c29
              clear c29
              obtain rfl := Option.some.inj H
              go_wp2
              go_ret
              exact ⟨by first | rfl | (simp [errW_none, errW_some] <;> rfl) | (simp [*, errW_none, errW_some] <;> rfl), by repeat (first | (with_reducible first | exact HB.out | apply below_alloc | apply pw_below_drewN | apply below_drew1) | exact HB.out)⟩
  · replace c3 := Bool.eq_false_iff.mpr c3
    subst c3
    have H1 : (some false) = some r := by rw [if_neg (show ¬ (false = true) by decide)] at H; exact H
    clear H
    have H := H1
    clear H1
    obtain rfl := Option.some.inj H
    go_enter Try.func7, Try.ntmps7
    go_wp2_with (first | ((with_reducible refine gate_callee (f := 9) rfl ?_); refine goesL_ (some 11) rfl rfl Try.func9 (by kernel_rfl) rfl #[] rfl (by (try simp only [List.map_toArray, List.map_cons, List.map_nil]); first | done | rfl | (simp only [List.length_drop, List.length_take]; rfl)) ?_; (with_reducible refine (nunciolaw18_awake.calls k  false _ A2.out).mono ?_); rintro e w30 ⟨rfl, hb⟩; refine ⟨_, rfl, ?_⟩; have n0_ := Aside0.mk (below_step (by repeat (first | (with_reducible first | exact HB.out | apply below_alloc | apply pw_below_drewN | apply below_drew1) | exact HB.out)) hb); clear HB; have HB := n0_; clear n0_; (try clear hb); (try clear hb2); (try clear hk); (try clear hi)))
    go_ret
    exact ⟨by first | rfl | (simp [errW_none, errW_some] <;> rfl) | (simp [*, errW_none, errW_some] <;> rfl), by repeat (first | (with_reducible first | exact HB.out | apply below_alloc | apply pw_below_drewN | apply below_drew1) | exact HB.out)⟩

/-- THE ONE PURE STATEMENT of nunciolaw18_StreamEnds: yours. -/
def nunciolaw18_StreamEnds.Pure : Prop := ∀ (l0 : List Int), l0.length ≤ maxLen → l0.length * 8 ≤ 140737488351232 → (∀ x ∈ l0, (Lit.int .i64 x).wf = true) → ∃ k, nunciolaw18_StreamEnds.f k l0 = some true
theorem nunciolaw18_StreamEnds.walk (P : nunciolaw18_StreamEnds.Pure) (a0 : Option Addr) (len0 cap0 : Nat) (z0 : List Int) (w : World) (w0 : (a0 = none ∧ len0 = 0 ∧ cap0 = 0 ∧ z0 = []) ∨ ∃ x, a0 = some x ∧ len0 ≤ cap0 ∧ cap0 ≤ maxLen ∧ z0.length = cap0 ∧ (∀ i, i < z0.length → w.cell? (x.add i) = some (.int .i64 (z0.getD i 0))) ∧ ∀ n ∈ z0, (Lit.int .i64 n).wf = true) (y0 : len0 * 8 ≤ 140737488351232) :
    Calls Try.prog 7 #[.slice a0 len0 cap0] w fun e w' => e = .returned (.bool true) ∧ Below w.heap.size w w' := by
  obtain ⟨l0, rfl, hr0, hm0, hw0, hc0⟩ := ReadsInt.ofRowC w0
  obtain ⟨k, h⟩ := P l0 hm0 y0 hw0
  refine (nunciolaw18_StreamEnds.calls k _ _ l0 true w (Kd.C_of_reads (d := (0 : Int)) (h1 := fun _ => rfl) hr0) hc0 h).mono ?_
  rintro e w' ⟨rfl, hd⟩
  exact ⟨rfl, hd⟩

end Go.Proofs.Ytkaijdhnnfldkaa.PStreamEnds
