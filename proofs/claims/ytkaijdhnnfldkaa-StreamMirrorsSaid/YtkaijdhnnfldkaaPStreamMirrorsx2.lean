-- PRINTED BY print.sh 35421559b90ae4d0a3588c463048766b98c2df88dd9212a6774a882060cdf62d: not written by this session
import Derived.Test.YtkaijdhnnfldkaaPStreamMirrorsx0
import Derived.Test.YtkaijdhnnfldkaaPStreamMirrorsx1
namespace Go.Proofs.Ytkaijdhnnfldkaa.PStreamMirrors
open Go.RowKit Go.Proofs.YtkaijdhnnfldkaaW.PrintWords Go.Proofs.YtkaijdhnnfldkaaW.PrintLast Go.Proofs.YtkaijdhnnfldkaaW.PrintMore
attribute [local go_sem] max2_int min2_int max_two min_two max_three min_three max_four min_four   -- for this text's walks alone
set_option linter.unusedVariables false
set_option linter.unusedSimpArgs false

/-! ### nunciolaw18_StreamMirrors: function 6 -/
mutual
def nunciolaw18_StreamMirrors.l0 : Nat → List Int → List Bool → Int → Int → Int → Option (Bool)
  | 0, _, _, _, _, _ => none
  | k + 1, x0, x1, x5, x6, x7 => if x7 < (x0.length : Int) then (if x7 < (x1.length : Int) then (if 0 ≤ x7 then (nunciolaw18_StreamMirrors.j1 k x0 x1 x5 x6 x7 (rdOf false x1 x7)) else (none)) else (nunciolaw18_StreamMirrors.j1 k x0 x1 x5 x6 x7 false)) else ((stream_Mirror.f x6).bind fun t116 => (some (x5 == t116)))
def nunciolaw18_StreamMirrors.j1 : Nat → List Int → List Bool → Int → Int → Int → Bool → Option (Bool)
  | 0, _, _, _, _, _, _ => none
  | k + 1, x0, x1, x5, x6, x7, x8 => if x8 = true then (nunciolaw18_StreamMirrors.j2 k x0 x1 x5 x6 x7 x8 x5 x6) else (nunciolaw18_StreamMirrors.j2 k x0 x1 x5 x6 x7 x8 x6 x5)
def nunciolaw18_StreamMirrors.j2 : Nat → List Int → List Bool → Int → Int → Int → Bool → Int → Int → Option (Bool)
  | 0, _, _, _, _, _, _, _, _ => none
  | k + 1, x0, x1, x5, x6, x7, x8, x9, x10 => if 0 ≤ x7 then (if x7 < (x0.length : Int) then ((stream_Over.f (rd x0 x7)).bind fun t119 => (if t119 = 0 then (nunciolaw18_StreamMirrors.l0 k x0 x1 x5 x6 (wrap64 (x7 + 1))) else ((stream_Next.f k x9 (rd x0 x7)).bind fun bt120 => (if bt120.2.1 = 0 then ((stream_Over.f (rd x0 x7)).bind fun t123 => ((stream_Next.f k x10 t123).bind fun bt124 => (if bt124.2.1 = 0 then ((stream_Mirror.f bt120.1).bind fun t127 => (nunciolaw18_StreamMirrors.j3 k x0 x1 x7 x8 bt120.1 bt124.1 (bt124.1 != t127))) else (nunciolaw18_StreamMirrors.j3 k x0 x1 x7 x8 bt120.1 bt124.1 true)))) else (if bt120.1 = x9 then (nunciolaw18_StreamMirrors.l0 k x0 x1 x5 x6 (wrap64 (x7 + 1))) else (some false)))))) else (none)) else (none)
def nunciolaw18_StreamMirrors.j3 : Nat → List Int → List Bool → Int → Bool → Int → Int → Bool → Option (Bool)
  | 0, _, _, _, _, _, _, _ => none
  | k + 1, x0, x1, x7, x8, x12, x15, x79 => if x79 = true then (some false) else (if x8 = true then (nunciolaw18_StreamMirrors.l0 k x0 x1 x12 x15 (wrap64 (x7 + 1))) else (nunciolaw18_StreamMirrors.l0 k x0 x1 x15 x12 (wrap64 (x7 + 1))))
end
def nunciolaw18_StreamMirrors.f (k : Nat) (l0 : List Int) (l1 : List Bool) : Option (Bool) := (nunciolaw18_awake.f k).bind fun t115 => (if t115 = true then (if (l0.length : Int) > 2000 then (some true) else (nunciolaw18_StreamMirrors.l0 k l0 l1 0 0 0)) else (some false))
theorem nunciolaw18_StreamMirrors.mono_l : ∀ k, (∀ y0 y1 y2 y3 y4, LeO (nunciolaw18_StreamMirrors.l0 k y0 y1 y2 y3 y4) (nunciolaw18_StreamMirrors.l0 (k + 1) y0 y1 y2 y3 y4)) ∧ (∀ y0 y1 y2 y3 y4 y5, LeO (nunciolaw18_StreamMirrors.j1 k y0 y1 y2 y3 y4 y5) (nunciolaw18_StreamMirrors.j1 (k + 1) y0 y1 y2 y3 y4 y5)) ∧ (∀ y0 y1 y2 y3 y4 y5 y6 y7, LeO (nunciolaw18_StreamMirrors.j2 k y0 y1 y2 y3 y4 y5 y6 y7) (nunciolaw18_StreamMirrors.j2 (k + 1) y0 y1 y2 y3 y4 y5 y6 y7)) ∧ (∀ y0 y1 y2 y3 y4 y5 y6, LeO (nunciolaw18_StreamMirrors.j3 k y0 y1 y2 y3 y4 y5 y6) (nunciolaw18_StreamMirrors.j3 (k + 1) y0 y1 y2 y3 y4 y5 y6))
  | 0 => ⟨fun _ _ _ _ _ r h => by simp [nunciolaw18_StreamMirrors.l0] at h, fun _ _ _ _ _ _ r h => by simp [nunciolaw18_StreamMirrors.j1] at h, fun _ _ _ _ _ _ _ _ r h => by simp [nunciolaw18_StreamMirrors.j2] at h, fun _ _ _ _ _ _ _ r h => by simp [nunciolaw18_StreamMirrors.j3] at h⟩
  | k + 1 => by
    obtain ⟨ih0, ih1, ih2, ih3⟩ := nunciolaw18_StreamMirrors.mono_l k
    refine ⟨?_, ?_, ?_, ?_⟩
    · intro y0 y1 y2 y3 y4
      unfold nunciolaw18_StreamMirrors.l0
      repeat' first
      | (with_reducible exact ih0 _ _ _ _ _)
      | (with_reducible exact ih1 _ _ _ _ _ _)
      | (with_reducible exact ih2 _ _ _ _ _ _ _ _)
      | (with_reducible exact ih3 _ _ _ _ _ _ _)
      | (with_reducible exact nunciolaw18_awake.mono _)
      | (with_reducible exact stream_Next.mono _ _ _)
      | (with_reducible exact LeO.refl _)
      | (with_reducible exact LeO.none _)
      | (with_reducible refine LeO.ite ?_ ?_)
      | (with_reducible refine LeO.bind ?_ (fun _ => ?_))
      | exact ih0 _ _ _ _ _
      | exact ih1 _ _ _ _ _ _
      | exact ih2 _ _ _ _ _ _ _ _
      | exact ih3 _ _ _ _ _ _ _
      | exact nunciolaw18_awake.mono _
      | exact stream_Next.mono _ _ _
      | exact LeO.none _
      | refine LeO.ite ?_ ?_
      | refine LeO.bind ?_ (fun _ => ?_)
    · intro y0 y1 y2 y3 y4 y5
      unfold nunciolaw18_StreamMirrors.j1
      repeat' first
      | (with_reducible exact ih0 _ _ _ _ _)
      | (with_reducible exact ih1 _ _ _ _ _ _)
      | (with_reducible exact ih2 _ _ _ _ _ _ _ _)
      | (with_reducible exact ih3 _ _ _ _ _ _ _)
      | (with_reducible exact nunciolaw18_awake.mono _)
      | (with_reducible exact stream_Next.mono _ _ _)
      | (with_reducible exact LeO.refl _)
      | (with_reducible exact LeO.none _)
      | (with_reducible refine LeO.ite ?_ ?_)
      | (with_reducible refine LeO.bind ?_ (fun _ => ?_))
      | exact ih0 _ _ _ _ _
      | exact ih1 _ _ _ _ _ _
      | exact ih2 _ _ _ _ _ _ _ _
      | exact ih3 _ _ _ _ _ _ _
      | exact nunciolaw18_awake.mono _
      | exact stream_Next.mono _ _ _
      | exact LeO.none _
      | refine LeO.ite ?_ ?_
      | refine LeO.bind ?_ (fun _ => ?_)
    · intro y0 y1 y2 y3 y4 y5 y6 y7
      unfold nunciolaw18_StreamMirrors.j2
      repeat' first
      | (with_reducible exact ih0 _ _ _ _ _)
      | (with_reducible exact ih1 _ _ _ _ _ _)
      | (with_reducible exact ih2 _ _ _ _ _ _ _ _)
      | (with_reducible exact ih3 _ _ _ _ _ _ _)
      | (with_reducible exact nunciolaw18_awake.mono _)
      | (with_reducible exact stream_Next.mono _ _ _)
      | (with_reducible exact LeO.refl _)
      | (with_reducible exact LeO.none _)
      | (with_reducible refine LeO.ite ?_ ?_)
      | (with_reducible refine LeO.bind ?_ (fun _ => ?_))
      | exact ih0 _ _ _ _ _
      | exact ih1 _ _ _ _ _ _
      | exact ih2 _ _ _ _ _ _ _ _
      | exact ih3 _ _ _ _ _ _ _
      | exact nunciolaw18_awake.mono _
      | exact stream_Next.mono _ _ _
      | exact LeO.none _
      | refine LeO.ite ?_ ?_
      | refine LeO.bind ?_ (fun _ => ?_)
    · intro y0 y1 y2 y3 y4 y5 y6
      unfold nunciolaw18_StreamMirrors.j3
      repeat' first
      | (with_reducible exact ih0 _ _ _ _ _)
      | (with_reducible exact ih1 _ _ _ _ _ _)
      | (with_reducible exact ih2 _ _ _ _ _ _ _ _)
      | (with_reducible exact ih3 _ _ _ _ _ _ _)
      | (with_reducible exact nunciolaw18_awake.mono _)
      | (with_reducible exact stream_Next.mono _ _ _)
      | (with_reducible exact LeO.refl _)
      | (with_reducible exact LeO.none _)
      | (with_reducible refine LeO.ite ?_ ?_)
      | (with_reducible refine LeO.bind ?_ (fun _ => ?_))
      | exact ih0 _ _ _ _ _
      | exact ih1 _ _ _ _ _ _
      | exact ih2 _ _ _ _ _ _ _ _
      | exact ih3 _ _ _ _ _ _ _
      | exact nunciolaw18_awake.mono _
      | exact stream_Next.mono _ _ _
      | exact LeO.none _
      | refine LeO.ite ?_ ?_
      | refine LeO.bind ?_ (fun _ => ?_)
theorem nunciolaw18_StreamMirrors.mono : ∀ a0 a1 k, LeO (nunciolaw18_StreamMirrors.f k a0 a1) (nunciolaw18_StreamMirrors.f (k + 1) a0 a1) := by
  intro a0 a1 k
  obtain ⟨ih0, ih1, ih2, ih3⟩ := nunciolaw18_StreamMirrors.mono_l k
  unfold nunciolaw18_StreamMirrors.f
  repeat' first
      | (with_reducible exact ih0 _ _ _ _ _)
      | (with_reducible exact ih1 _ _ _ _ _ _)
      | (with_reducible exact ih2 _ _ _ _ _ _ _ _)
      | (with_reducible exact ih3 _ _ _ _ _ _ _)
      | (with_reducible exact nunciolaw18_awake.mono _)
      | (with_reducible exact stream_Next.mono _ _ _)
      | (with_reducible exact LeO.refl _)
      | (with_reducible exact LeO.none _)
      | (with_reducible refine LeO.ite ?_ ?_)
      | (with_reducible refine LeO.bind ?_ (fun _ => ?_))
      | exact ih0 _ _ _ _ _
      | exact ih1 _ _ _ _ _ _
      | exact ih2 _ _ _ _ _ _ _ _
      | exact ih3 _ _ _ _ _ _ _
      | exact nunciolaw18_awake.mono _
      | exact stream_Next.mono _ _ _
      | exact LeO.none _
      | refine LeO.ite ?_ ?_
      | refine LeO.bind ?_ (fun _ => ?_)
set_option maxHeartbeats 8000000 in
set_option maxRecDepth 100000 in
theorem nunciolaw18_StreamMirrors.calls (k : Nat) (A0 : Option Addr) (c0 : Nat) (l0 : List Int) (A1 : Option Addr) (c1 : Nat) (l1 : List Bool) (r : Bool) (w : World) (hr0 : Kd.C (Kd.int .i64) w A0 l0.length l0) (hc0 : l0.length ≤ c0) (hr1 : Kd.C Kd.bool w A1 l1.length l1) (hc1 : l1.length ≤ c1) (h : nunciolaw18_StreamMirrors.f k l0 l1 = some r) :
    Calls Try.prog 6 #[.slice A0 l0.length c0, .slice A1 l1.length c1] w fun e w' => e = .returned (.bool r) ∧ Below w.heap.size w w' := by
  have HR0 := Aside0.mk hr0
  have HC0 := Aside0.mk hc0
  clear hr0 hc0
  have HR1 := Aside0.mk hr1
  have HC1 := Aside0.mk hc1
  clear hr1 hc1
  have HB := Aside0.mk (Below.refl w.heap.size w)
  have H : ((nunciolaw18_awake.f k).bind fun t115 => (if t115 = true then (if (l0.length : Int) > 2000 then (some true) else (nunciolaw18_StreamMirrors.l0 k l0 l1 0 0 0)) else (some false))) = some r := h
  clear h
  replace H := Option.bind_eq_some_iff.mp H
  obtain ⟨t115, A30, H⟩ := H
  replace H : (if t115 = true then (if (l0.length : Int) > 2000 then (some true) else (nunciolaw18_StreamMirrors.l0 k l0 l1 0 0 0)) else (some false)) = some r := H
  have A3 := Aside0.mk A30
  clear A30
  by_cases c4 : t115 = true
  · subst c4
    have H1 : (if (l0.length : Int) > 2000 then (some true) else (nunciolaw18_StreamMirrors.l0 k l0 l1 0 0 0)) = some r := by rw [if_pos rfl] at H; exact H
    clear H
    have H := H1
    clear H1
    by_cases c5 : (l0.length : Int) > 2000
    · rw [if_pos c5] at H
      have c5b0 : decide (2000 < (l0.length : Int)) = true := decide_eq_true c5
      have c5b1 : decide (2000 < l0.length) = true := decide_eq_true (by omega)
      clear c5
      obtain rfl := Option.some.inj H
      go_enter Try.func6, Try.ntmps6
      go_wp2_with (first | ((with_reducible refine gate_callee (f := 9) rfl ?_); refine goesL_ (some 18) rfl rfl Try.func9 (by kernel_rfl) rfl #[] rfl (by (try simp only [List.map_toArray, List.map_cons, List.map_nil]); first | done | rfl | (simp only [List.length_drop, List.length_take]; rfl)) ?_; (with_reducible refine (nunciolaw18_awake.calls k  true _ A3.out).mono ?_); rintro e w6 ⟨rfl, hb⟩; refine ⟨_, rfl, ?_⟩; have n0_ := Aside0.mk (below_step (by repeat (first | (with_reducible first | exact HB.out | apply below_alloc | apply pw_below_drewN | apply below_drew1) | exact HB.out)) hb); clear HB; have HB := n0_; clear n0_; (try clear hb); (try clear hb2); (try clear hk); (try clear hi)))
      go_ret
      exact ⟨by first | rfl | (simp [errW_none, errW_some] <;> rfl) | (simp [*, errW_none, errW_some] <;> rfl), by repeat (first | (with_reducible first | exact HB.out | apply below_alloc | apply pw_below_drewN | apply below_drew1) | exact HB.out)⟩
    · rw [if_neg c5] at H
      have c5b0 : decide (2000 < (l0.length : Int)) = false := decide_eq_false c5
      have c5b1 : decide (2000 < l0.length) = false := decide_eq_false (by omega)
      clear c5
      have H' := Aside0.mk H
      clear H
      go_enter Try.func6, Try.ntmps6
      go_wp2_with (first | ((with_reducible refine gate_callee (f := 9) rfl ?_); refine goesL_ (some 18) rfl rfl Try.func9 (by kernel_rfl) rfl #[] rfl (by (try simp only [List.map_toArray, List.map_cons, List.map_nil]); first | done | rfl | (simp only [List.length_drop, List.length_take]; rfl)) ?_; (with_reducible refine (nunciolaw18_awake.calls k  true _ A3.out).mono ?_); rintro e w7 ⟨rfl, hb⟩; refine ⟨_, rfl, ?_⟩; have n0_ := Aside0.mk (below_step (by repeat (first | (with_reducible first | exact HB.out | apply below_alloc | apply pw_below_drewN | apply below_drew1) | exact HB.out)) hb); clear HB; have HB := n0_; clear n0_; (try clear hb); (try clear hb2); (try clear hk); (try clear hi)))
      go_loopg [5, 6, 7] k (fun kq v5 v6 v7 w' => ∃ (x5_1 : Int) (x6_1 : Int) (x7_1 : Int), v5 = .int .i64 x5_1 ∧ v6 = .int .i64 x6_1 ∧ v7 = .int .i64 x7_1 ∧ Aside0 (nunciolaw18_StreamMirrors.l0 kq l0 l1 x5_1 x6_1 x7_1 = some r) ∧ Aside0 (kq ≤ k) ∧ Aside0 (Below w.heap.size w w'))
      case atStart => exact ⟨(0), (0), (0), (by first | rfl | (simp; done) | (simp [*]; done)), (by first | rfl | (simp; done) | (simp [*]; done)), (by first | rfl | (simp; done) | (simp [*]; done)), H', ⟨Nat.le_refl _⟩, ⟨by repeat (first | (with_reducible first | exact HB.out | apply below_alloc | apply pw_below_drewN | apply below_drew1) | exact HB.out)⟩⟩
      case round =>
        clear H'
        try clear c1
        try clear p2
        try clear c4
        try clear c5
        try clear c5b0
        try clear c5b1
        try clear c6
        obtain ⟨x5_1, x6_1, x7_1, rfl, rfl, rfl, HA, HK1, HB⟩ := hrel
        cases gk with
        | zero => exact absurd HA.out (by simp [nunciolaw18_StreamMirrors.l0])
        | succ k1 =>
          have H := HA.out
          clear HA
          simp only [nunciolaw18_StreamMirrors.l0] at H
          by_cases c8 : x7_1 < (l0.length : Int)
          · rw [if_pos c8] at H
            have c8b0 : decide (x7_1 < (l0.length : Int)) = true := decide_eq_true c8
            clear c8
            have HC9 := Aside0.mk H
            clear H
            go_upto_region 9 with (fail)
            go_cut [8] (fun v8 wc => ∃ (kq : Nat) (x8_8 : Bool), v8 = .bool x8_8 ∧ Aside0 (nunciolaw18_StreamMirrors.j1 kq l0 l1 x5_1 x6_1 x7_1 x8_8 = some r) ∧ Aside0 (kq ≤ k1) ∧ Aside0 (Below w.heap.size w wc))
            case first =>
              have H := HC9.out
              clear HC9
              by_cases c10 : x7_1 < (l1.length : Int)
              · rw [if_pos c10] at H
                have c10b0 : decide (x7_1 < (l1.length : Int)) = true := decide_eq_true c10
                clear c10
                (first | rw [c10b0] | (simp only [i64_w, i32_w]; rw [c10b0]) | skip)
                by_cases c11 : 0 ≤ x7_1
                · rw [if_pos c11] at H
                  have c11b0 : decide (0 ≤ x7_1) = true := decide_eq_true c11
                  clear c11
                  have H' := Aside0.mk H
                  clear H
                  have p117 : 0 ≤ (x7_1 : Int) := of_decide_eq_true (by first | (with_reducible assumption) | assumption)
                  have q117 : x7_1 < (l1.length : Int) := of_decide_eq_true (by first | (with_reducible assumption) | assumption)
                  obtain ⟨ad117, e117, hx117_0⟩ := Kd.at_bool HR1.out x7_1 p117 q117
                  cases e117
                  replace hx117_0 := (HB.out.cell (World.block_lt_of_cell? w _ hx117_0)).trans hx117_0
                  replace p117 := eq_true p117
                  replace q117 := eq_true q117
                  go_wp2
                  go_meet
                  case rel => exact ⟨_, (rdOf false l1 x7_1), (by first | rfl | (simp; done) | (simp [*]; done)), H', ⟨by have := HK1.out; first | omega | exact Nat.le_refl _⟩, ⟨by repeat (first | (with_reducible first | exact HB.out | apply below_alloc | apply pw_below_drewN | apply below_drew1) | exact HB.out)⟩⟩
                · rw [if_neg c11] at H
                  exact absurd H (by simp)
              · rw [if_neg c10] at H
                have c10b0 : decide (x7_1 < (l1.length : Int)) = false := decide_eq_false c10
                clear c10
                (first | rw [c10b0] | (simp only [i64_w, i32_w]; rw [c10b0]) | skip)
                have H' := Aside0.mk H
                clear H
                go_wp2
                go_meet
                case rel => exact ⟨_, (false), (by first | rfl | (simp; done) | (simp [*]; done)), H', ⟨by have := HK1.out; first | omega | exact Nat.le_refl _⟩, ⟨by repeat (first | (with_reducible first | exact HB.out | apply below_alloc | apply pw_below_drewN | apply below_drew1) | exact HB.out)⟩⟩
            case rest =>
              clear HC9
              try clear c1
              try clear p1
              try clear q1
              try clear hx1
              try clear p2
              try clear c4
              try clear c5
              try clear c5b0
              try clear c5b1
              try clear c6
              try clear c8
              try clear c8b0
              try clear c9
              try clear c10
              try clear c10b0
              try clear c11
              try clear c11b0
              try clear p11
              try clear q11
              try clear hx11
              try clear hx117_0
              try clear p117
              try clear p2
              try clear q117
              obtain ⟨kq, x8_8, rfl, HA, HJ8, HB⟩ := hcut
              cases kq with
              | zero => exact absurd HA.out (by simp [nunciolaw18_StreamMirrors.j1])
              | succ kj8 =>
                have H := HA.out
                clear HA
                simp only [nunciolaw18_StreamMirrors.j1] at H
                have HC12 := Aside0.mk H
                clear H
                go_upto_if 42 with (fail)
                go_cut [9, 10] (fun v9 v10 wc => ∃ (kq : Nat) (x9_11 : Int) (x10_11 : Int), v9 = .int .i64 x9_11 ∧ v10 = .int .i64 x10_11 ∧ Aside0 (nunciolaw18_StreamMirrors.j2 kq l0 l1 x5_1 x6_1 x7_1 x8_8 x9_11 x10_11 = some r) ∧ Aside0 (kq ≤ kj8) ∧ Aside0 (Below w.heap.size w wc))
                case first =>
                  have H := HC12.out
                  clear HC12
                  by_cases c13 : x8_8 = true
                  · subst c13
                    have H1 : (nunciolaw18_StreamMirrors.j2 kj8 l0 l1 x5_1 x6_1 x7_1 true x5_1 x6_1) = some r := by rw [if_pos rfl] at H; exact H
                    clear H
                    have H := H1
                    clear H1
                    have H' := Aside0.mk H
                    clear H
                    go_wp2
                    go_meet
                    case rel => exact ⟨_, (x5_1), (x6_1), (by first | rfl | (simp; done) | (simp [*]; done)), (by first | rfl | (simp; done) | (simp [*]; done)), H', ⟨by have := HK1.out; have := HJ8.out; first | omega | exact Nat.le_refl _⟩, ⟨by repeat (first | (with_reducible first | exact HB.out | apply below_alloc | apply pw_below_drewN | apply below_drew1) | exact HB.out)⟩⟩
                  · replace c13 := Bool.eq_false_iff.mpr c13
                    subst c13
                    have H1 : (nunciolaw18_StreamMirrors.j2 kj8 l0 l1 x5_1 x6_1 x7_1 false x6_1 x5_1) = some r := by rw [if_neg (show ¬ (false = true) by decide)] at H; exact H
                    clear H
                    have H := H1
                    clear H1
                    have H' := Aside0.mk H
                    clear H
                    go_wp2
                    go_meet
                    case rel => exact ⟨_, (x6_1), (x5_1), (by first | rfl | (simp; done) | (simp [*]; done)), (by first | rfl | (simp; done) | (simp [*]; done)), H', ⟨by have := HK1.out; have := HJ8.out; first | omega | exact Nat.le_refl _⟩, ⟨by repeat (first | (with_reducible first | exact HB.out | apply below_alloc | apply pw_below_drewN | apply below_drew1) | exact HB.out)⟩⟩
                case rest =>
                  clear HC12
                  try clear c1
                  try clear p1
                  try clear q1
                  try clear hx1
                  try clear p2
                  try clear c4
                  try clear c5
                  try clear c5b0
                  try clear c5b1
                  try clear c6
                  try clear c8
                  try clear c8b0
                  try clear c9
                  try clear c10
                  try clear c10b0
                  try clear c11
                  try clear c11b0
                  try clear p11
                  try clear q11
                  try clear hx11
                  try clear c13
                  try clear hx117_0
                  try clear p1
                  try clear p11
                  try clear p117
                  try clear p2
                  try clear q1
                  try clear q11
                  try clear q117
                  obtain ⟨kq, x9_11, x10_11, rfl, rfl, HA, HJ11, HB⟩ := hcut
                  cases kq with
                  | zero => exact absurd HA.out (by simp [nunciolaw18_StreamMirrors.j2])
                  | succ kj11 =>
                    have H := HA.out
                    clear HA
                    simp only [nunciolaw18_StreamMirrors.j2] at H
                    by_cases c14 : 0 ≤ x7_1
                    · rw [if_pos c14] at H
                      have c14b0 : decide (0 ≤ x7_1) = true := decide_eq_true c14
                      clear c14
                      by_cases c15 : x7_1 < (l0.length : Int)
                      · rw [if_pos c15] at H
                        have c15b0 : decide (x7_1 < (l0.length : Int)) = true := decide_eq_true c15
                        clear c15
                        replace H := Option.bind_eq_some_iff.mp H
                        obtain ⟨t119, A160, H⟩ := H
                        replace H : (if t119 = 0 then (nunciolaw18_StreamMirrors.l0 kj11 l0 l1 x5_1 x6_1 (wrap64 (x7_1 + 1))) else ((stream_Next.f kj11 x9_11 (rd l0 x7_1)).bind fun bt120 => (if bt120.2.1 = 0 then ((stream_Over.f (rd l0 x7_1)).bind fun t123 => ((stream_Next.f kj11 x10_11 t123).bind fun bt124 => (if bt124.2.1 = 0 then ((stream_Mirror.f bt120.1).bind fun t127 => (nunciolaw18_StreamMirrors.j3 kj11 l0 l1 x7_1 x8_8 bt120.1 bt124.1 (bt124.1 != t127))) else (nunciolaw18_StreamMirrors.j3 kj11 l0 l1 x7_1 x8_8 bt120.1 bt124.1 true)))) else (if bt120.1 = x9_11 then (nunciolaw18_StreamMirrors.l0 kj11 l0 l1 x5_1 x6_1 (wrap64 (x7_1 + 1))) else (some false))))) = some r := H
                        have A16 := Aside0.mk A160
                        clear A160
                        by_cases c17 : t119 = 0
                        · rw [if_pos c17] at H
                          have c17b0 : (t119 == 0) = true := beq_iff_eq.mpr c17
                          have c17b1 : (t119 != 0) = false := bne_eq_false_iff_eq.mpr c17
                          clear c17
                          have H' := Aside0.mk H
                          clear H
                          have p118 : 0 ≤ (x7_1 : Int) := of_decide_eq_true (by first | (with_reducible assumption) | assumption)
                          have q118 : x7_1 < (l0.length : Int) := of_decide_eq_true (by first | (with_reducible assumption) | assumption)
                          obtain ⟨ad118, e118, hx118_0⟩ := Kd.at_int HR0.out x7_1 p118 q118
                          cases e118
                          replace hx118_0 := (HB.out.cell (World.block_lt_of_cell? w _ hx118_0)).trans hx118_0
                          replace p118 := eq_true p118
                          replace q118 := eq_true q118
                          go_wp2_with (first | ((with_reducible refine gate_callee (f := 14) rfl ?_); refine goesL_ (some 50) rfl rfl Try.func14 (by kernel_rfl) rfl #[.int .i64 (rd l0 x7_1)] rfl (by (try simp only [List.map_toArray, List.map_cons, List.map_nil]); first | done | rfl | (simp only [List.length_drop, List.length_take]; rfl)) ?_; (with_reducible refine (stream_Over.calls (rd l0 x7_1) t119 _ A16.out).mono ?_); rintro e w' ⟨rfl, ⟨nd, rfl⟩⟩; refine ⟨_, rfl, ?_⟩))
                          go_roundg kj11
                          case measure => have := HK1.out; have := HJ8.out; have := HJ11.out; omega
                          case rel => exact ⟨(x5_1), (x6_1), (wrap64 (x7_1 + 1)), (by first | rfl | (simp; done) | (simp [*]; done)), (by first | rfl | (simp; done) | (simp [*]; done)), (by first | rfl | (simp; done) | (simp [*]; done)), H', ⟨by have := HK1.out; have := HJ8.out; have := HJ11.out; omega⟩, ⟨by repeat (first | (with_reducible first | exact HB.out | apply below_alloc | apply pw_below_drewN | apply below_drew1) | exact HB.out)⟩⟩
                        · rw [if_neg c17] at H
                          have c17b0 : (t119 == 0) = false := beq_eq_false_iff_ne.mpr c17
                          have c17b1 : (t119 != 0) = true := bne_iff_ne.mpr c17
                          replace H := Option.bind_eq_some_iff.mp H
                          obtain ⟨⟨t120, t121, t122⟩, A180, H⟩ := H
                          replace H : (if t121 = 0 then ((stream_Over.f (rd l0 x7_1)).bind fun t123 => ((stream_Next.f kj11 x10_11 t123).bind fun bt124 => (if bt124.2.1 = 0 then ((stream_Mirror.f t120).bind fun t127 => (nunciolaw18_StreamMirrors.j3 kj11 l0 l1 x7_1 x8_8 t120 bt124.1 (bt124.1 != t127))) else (nunciolaw18_StreamMirrors.j3 kj11 l0 l1 x7_1 x8_8 t120 bt124.1 true)))) else (if t120 = x9_11 then (nunciolaw18_StreamMirrors.l0 kj11 l0 l1 x5_1 x6_1 (wrap64 (x7_1 + 1))) else (some false))) = some r := H
                          have A18 := Aside0.mk A180
                          clear A180
                          by_cases c19 : t121 = 0
                          · rw [if_pos c19] at H
                            have c19b0 : (t121 == 0) = true := beq_iff_eq.mpr c19
                            have c19b1 : (t121 != 0) = false := bne_eq_false_iff_eq.mpr c19
                            clear c19
                            replace H := Option.bind_eq_some_iff.mp H
                            obtain ⟨t123, A200, H⟩ := H
                            replace H : ((stream_Next.f kj11 x10_11 t123).bind fun bt124 => (if bt124.2.1 = 0 then ((stream_Mirror.f t120).bind fun t127 => (nunciolaw18_StreamMirrors.j3 kj11 l0 l1 x7_1 x8_8 t120 bt124.1 (bt124.1 != t127))) else (nunciolaw18_StreamMirrors.j3 kj11 l0 l1 x7_1 x8_8 t120 bt124.1 true))) = some r := H
                            have A20 := Aside0.mk A200
                            clear A200
                            replace H := Option.bind_eq_some_iff.mp H
                            obtain ⟨⟨t124, t125, t126⟩, A210, H⟩ := H
                            replace H : (if t125 = 0 then ((stream_Mirror.f t120).bind fun t127 => (nunciolaw18_StreamMirrors.j3 kj11 l0 l1 x7_1 x8_8 t120 t124 (t124 != t127))) else (nunciolaw18_StreamMirrors.j3 kj11 l0 l1 x7_1 x8_8 t120 t124 true)) = some r := H
                            have A21 := Aside0.mk A210
                            clear A210
                            have HC22 := Aside0.mk H
                            clear H
                            have p118 : 0 ≤ (x7_1 : Int) := of_decide_eq_true (by first | (with_reducible assumption) | assumption)
                            have q118 : x7_1 < (l0.length : Int) := of_decide_eq_true (by first | (with_reducible assumption) | assumption)
                            obtain ⟨ad118, e118, hx118_0⟩ := Kd.at_int HR0.out x7_1 p118 q118
                            cases e118
                            replace hx118_0 := (HB.out.cell (World.block_lt_of_cell? w _ hx118_0)).trans hx118_0
                            replace p118 := eq_true p118
                            replace q118 := eq_true q118
                            go_upto_region 20 with (first | ((with_reducible refine gate_callee (f := 14) rfl ?_); refine goesL_ (some 50) rfl rfl Try.func14 (by kernel_rfl) rfl #[.int .i64 (rd l0 x7_1)] rfl (by (try simp only [List.map_toArray, List.map_cons, List.map_nil]); first | done | rfl | (simp only [List.length_drop, List.length_take]; rfl)) ?_; (with_reducible refine (stream_Over.calls (rd l0 x7_1) t119 _ A16.out).mono ?_); rintro e w' ⟨rfl, ⟨nd, rfl⟩⟩; refine ⟨_, rfl, ?_⟩) | ((with_reducible refine gate_callee (f := 10) rfl ?_); refine goesL_ (some 55) rfl rfl Try.func10 (by kernel_rfl) rfl #[.int .i64 x9_11, .int .i64 (rd l0 x7_1)] rfl (by (try simp only [List.map_toArray, List.map_cons, List.map_nil]); first | done | rfl | (simp only [List.length_drop, List.length_take]; rfl)) ?_; (with_reducible refine (stream_Next.calls kj11 x9_11 (rd l0 x7_1) t120 t121 t122 _ A18.out).mono ?_); rintro e w' ⟨rfl, ⟨nd, rfl⟩⟩; refine ⟨_, rfl, ?_⟩) | ((with_reducible refine gate_callee (f := 14) rfl ?_); refine goesL_ (some 67) rfl rfl Try.func14 (by kernel_rfl) rfl #[.int .i64 (rd l0 x7_1)] rfl (by (try simp only [List.map_toArray, List.map_cons, List.map_nil]); first | done | rfl | (simp only [List.length_drop, List.length_take]; rfl)) ?_; (with_reducible refine (stream_Over.calls (rd l0 x7_1) t123 _ A20.out).mono ?_); rintro e w' ⟨rfl, ⟨nd, rfl⟩⟩; refine ⟨_, rfl, ?_⟩) | ((with_reducible refine gate_callee (f := 10) rfl ?_); refine goesL_ (some 68) rfl rfl Try.func10 (by kernel_rfl) rfl #[.int .i64 x10_11, .int .i64 t123] rfl (by (try simp only [List.map_toArray, List.map_cons, List.map_nil]); first | done | rfl | (simp only [List.length_drop, List.length_take]; rfl)) ?_; (with_reducible refine (stream_Next.calls kj11 x10_11 t123 t124 t125 t126 _ A21.out).mono ?_); rintro e w' ⟨rfl, ⟨nd, rfl⟩⟩; refine ⟨_, rfl, ?_⟩))
                            (try simp only [Act.put, List.setIfInBounds_toArray, List.set_cons_zero, List.set_cons_succ])
                            go_cut [79] (fun v79 wc => ∃ (kq : Nat) (x79_21 : Bool), v79 = .bool x79_21 ∧ Aside0 (nunciolaw18_StreamMirrors.j3 kq l0 l1 x7_1 x8_8 t120 t124 x79_21 = some r) ∧ Aside0 (kq ≤ kj11) ∧ Aside0 (Below w.heap.size w wc))
                            case first =>
                              have H := HC22.out
                              clear HC22
                              by_cases c23 : t125 = 0
                              · rw [if_pos c23] at H
                                have c23b0 : (t125 == 0) = true := beq_iff_eq.mpr c23
                                have c23b1 : (t125 != 0) = false := bne_eq_false_iff_eq.mpr c23
                                clear c23
                                (first | rw [c23b0] | (simp only [i64_w, i32_w]; rw [c23b0]) | skip)
                                replace H := Option.bind_eq_some_iff.mp H
                                obtain ⟨t127, A240, H⟩ := H
                                replace H : (nunciolaw18_StreamMirrors.j3 kj11 l0 l1 x7_1 x8_8 t120 t124 (t124 != t127)) = some r := H
                                have A24 := Aside0.mk A240
                                clear A240
                                have H' := Aside0.mk H
                                clear H
                                go_wp2_with (first | (go_at_call 12; (with_reducible refine (stream_Mirror.calls t120 t127 _ A24.out).mono ?_); rintro e w' ⟨rfl, ⟨nd, rfl⟩⟩))
                                go_meet
                                case rel => exact ⟨_, ((t124 != t127)), (by first | rfl | (simp; done) | (simp [*]; done)), H', ⟨by have := HK1.out; have := HJ8.out; have := HJ11.out; first | omega | exact Nat.le_refl _⟩, ⟨by repeat (first | (with_reducible first | exact HB.out | apply below_alloc | apply pw_below_drewN | apply below_drew1) | exact HB.out)⟩⟩
                              · rw [if_neg c23] at H
                                have c23b0 : (t125 == 0) = false := beq_eq_false_iff_ne.mpr c23
                                have c23b1 : (t125 != 0) = true := bne_iff_ne.mpr c23
                                (first | rw [c23b0] | (simp only [i64_w, i32_w]; rw [c23b0]) | skip)
                                have H' := Aside0.mk H
                                clear H
                                go_wp2
                                go_meet
                                case rel => exact ⟨_, (true), (by first | rfl | (simp; done) | (simp [*]; done)), H', ⟨by have := HK1.out; have := HJ8.out; have := HJ11.out; first | omega | exact Nat.le_refl _⟩, ⟨by repeat (first | (with_reducible first | exact HB.out | apply below_alloc | apply pw_below_drewN | apply below_drew1) | exact HB.out)⟩⟩
                            case rest =>
                              clear HC22
                              try clear c1
                              try clear p1
                              try clear q1
                              try clear hx1
                              try clear c2
                              try clear p2
                              try clear c4
                              try clear c5
                              try clear c5b0
                              try clear c5b1
                              try clear c6
                              try clear p6
                              try clear c8
                              try clear c8b0
                              try clear c9
                              try clear c10
                              try clear c10b0
                              try clear c11
                              try clear c11b0
                              try clear p11
                              try clear q11
                              try clear hx11
                              try clear c13
                              try clear c14
                              try clear c14b0
                              try clear c15
                              try clear c15b0
                              try clear c17
                              try clear c17b0
                              try clear c17b1
                              try clear c19
                              try clear c19b0
                              try clear c19b1
                              try clear c23
                              try clear c23b0
                              try clear c23b1
                              try clear hx117_0
                              try clear hx118_0
                              try clear p1
                              try clear p11
                              try clear p117
                              try clear p118
                              try clear p2
                              try clear q1
                              try clear q11
                              try clear q117
                              try clear q118
                              obtain ⟨kq, x79_21, rfl, HA, HJ21, HB⟩ := hcut
                              cases kq with
                              | zero => exact absurd HA.out (by simp [nunciolaw18_StreamMirrors.j3])
                              | succ kj21 =>
                                have H := HA.out
                                clear HA
                                simp only [nunciolaw18_StreamMirrors.j3] at H
                                by_cases c25 : x79_21 = true
                                · subst c25
                                  have H1 : (some false) = some r := by rw [if_pos rfl] at H; exact H
                                  clear H
                                  have H := H1
                                  clear H1
                                  obtain rfl := Option.some.inj H
                                  go_wp2
                                  go_ret
                                  exact ⟨by first | rfl | (simp [errW_none, errW_some] <;> rfl) | (simp [*, errW_none, errW_some] <;> rfl), by repeat (first | (with_reducible first | exact HB.out | apply below_alloc | apply pw_below_drewN | apply below_drew1) | exact HB.out)⟩
                                · replace c25 := Bool.eq_false_iff.mpr c25
                                  subst c25
                                  have H1 : (if x8_8 = true then (nunciolaw18_StreamMirrors.l0 kj21 l0 l1 t120 t124 (wrap64 (x7_1 + 1))) else (nunciolaw18_StreamMirrors.l0 kj21 l0 l1 t124 t120 (wrap64 (x7_1 + 1)))) = some r := by rw [if_neg (show ¬ (false = true) by decide)] at H; exact H
                                  clear H
                                  have H := H1
                                  clear H1
                                  by_cases c26 : x8_8 = true
                                  · subst c26
                                    have H1 : (nunciolaw18_StreamMirrors.l0 kj21 l0 l1 t120 t124 (wrap64 (x7_1 + 1))) = some r := by rw [if_pos rfl] at H; exact H
                                    clear H
                                    have H := H1
                                    clear H1
                                    have H' := Aside0.mk H
                                    clear H
                                    go_wp2
                                    go_roundg kj21
                                    case measure => have := HK1.out; have := HJ8.out; have := HJ11.out; have := HJ21.out; omega
                                    case rel => exact ⟨(t120), (t124), (wrap64 (x7_1 + 1)), (by first | rfl | (simp; done) | (simp [*]; done)), (by first | rfl | (simp; done) | (simp [*]; done)), (by first | rfl | (simp; done) | (simp [*]; done)), H', ⟨by have := HK1.out; have := HJ8.out; have := HJ11.out; have := HJ21.out; omega⟩, ⟨by repeat (first | (with_reducible first | exact HB.out | apply below_alloc | apply pw_below_drewN | apply below_drew1) | exact HB.out)⟩⟩
                                  · replace c26 := Bool.eq_false_iff.mpr c26
                                    subst c26
                                    have H1 : (nunciolaw18_StreamMirrors.l0 kj21 l0 l1 t124 t120 (wrap64 (x7_1 + 1))) = some r := by rw [if_neg (show ¬ (false = true) by decide)] at H; exact H
                                    clear H
                                    have H := H1
                                    clear H1
                                    have H' := Aside0.mk H
                                    clear H
                                    go_wp2
                                    go_roundg kj21
                                    case measure => have := HK1.out; have := HJ8.out; have := HJ11.out; have := HJ21.out; omega
                                    case rel => exact ⟨(t124), (t120), (wrap64 (x7_1 + 1)), (by first | rfl | (simp; done) | (simp [*]; done)), (by first | rfl | (simp; done) | (simp [*]; done)), (by first | rfl | (simp; done) | (simp [*]; done)), H', ⟨by have := HK1.out; have := HJ8.out; have := HJ11.out; have := HJ21.out; omega⟩, ⟨by repeat (first | (with_reducible first | exact HB.out | apply below_alloc | apply pw_below_drewN | apply below_drew1) | exact HB.out)⟩⟩
                          · rw [if_neg c19] at H
                            have c19b0 : (t121 == 0) = false := beq_eq_false_iff_ne.mpr c19
                            have c19b1 : (t121 != 0) = true := bne_iff_ne.mpr c19
                            by_cases c27 : t120 = x9_11
                            · rw [if_pos c27] at H
                              have c27b0 : (t120 == x9_11) = true := beq_iff_eq.mpr c27
                              have c27b1 : (t120 != x9_11) = false := bne_eq_false_iff_eq.mpr c27
                              clear c27
                              have H' := Aside0.mk H
                              clear H
                              have p118 : 0 ≤ (x7_1 : Int) := of_decide_eq_true (by first | (with_reducible assumption) | assumption)
                              have q118 : x7_1 < (l0.length : Int) := of_decide_eq_true (by first | (with_reducible assumption) | assumption)
                              obtain ⟨ad118, e118, hx118_0⟩ := Kd.at_int HR0.out x7_1 p118 q118
                              cases e118
                              replace hx118_0 := (HB.out.cell (World.block_lt_of_cell? w _ hx118_0)).trans hx118_0
                              replace p118 := eq_true p118
                              replace q118 := eq_true q118
                              go_wp2_with (first | ((with_reducible refine gate_callee (f := 14) rfl ?_); refine goesL_ (some 50) rfl rfl Try.func14 (by kernel_rfl) rfl #[.int .i64 (rd l0 x7_1)] rfl (by (try simp only [List.map_toArray, List.map_cons, List.map_nil]); first | done | rfl | (simp only [List.length_drop, List.length_take]; rfl)) ?_; (with_reducible refine (stream_Over.calls (rd l0 x7_1) t119 _ A16.out).mono ?_); rintro e w' ⟨rfl, ⟨nd, rfl⟩⟩; refine ⟨_, rfl, ?_⟩) | ((with_reducible refine gate_callee (f := 10) rfl ?_); refine goesL_ (some 55) rfl rfl Try.func10 (by kernel_rfl) rfl #[.int .i64 x9_11, .int .i64 (rd l0 x7_1)] rfl (by (try simp only [List.map_toArray, List.map_cons, List.map_nil]); first | done | rfl | (simp only [List.length_drop, List.length_take]; rfl)) ?_; (with_reducible refine (stream_Next.calls kj11 x9_11 (rd l0 x7_1) t120 t121 t122 _ A18.out).mono ?_); rintro e w' ⟨rfl, ⟨nd, rfl⟩⟩; refine ⟨_, rfl, ?_⟩))
                              go_roundg kj11
                              case measure => have := HK1.out; have := HJ8.out; have := HJ11.out; omega
                              case rel => exact ⟨(x5_1), (x6_1), (wrap64 (x7_1 + 1)), (by first | rfl | (simp; done) | (simp [*]; done)), (by first | rfl | (simp; done) | (simp [*]; done)), (by first | rfl | (simp; done) | (simp [*]; done)), H', ⟨by have := HK1.out; have := HJ8.out; have := HJ11.out; omega⟩, ⟨by repeat (first | (with_reducible first | exact HB.out | apply below_alloc | apply pw_below_drewN | apply below_drew1) | exact HB.out)⟩⟩
                            · rw [if_neg c27] at H
                              have c27b0 : (t120 == x9_11) = false := beq_eq_false_iff_ne.mpr c27
                              have c27b1 : (t120 != x9_11) = true := bne_iff_ne.mpr c27
                              obtain rfl := Option.some.inj H
                              have p118 : 0 ≤ (x7_1 : Int) := of_decide_eq_true (by first | (with_reducible assumption) | assumption)
                              have q118 : x7_1 < (l0.length : Int) := of_decide_eq_true (by first | (with_reducible assumption) | assumption)
                              obtain ⟨ad118, e118, hx118_0⟩ := Kd.at_int HR0.out x7_1 p118 q118
                              cases e118
                              replace hx118_0 := (HB.out.cell (World.block_lt_of_cell? w _ hx118_0)).trans hx118_0
                              replace p118 := eq_true p118
                              replace q118 := eq_true q118
                              go_wp2_with (first | ((with_reducible refine gate_callee (f := 14) rfl ?_); refine goesL_ (some 50) rfl rfl Try.func14 (by kernel_rfl) rfl #[.int .i64 (rd l0 x7_1)] rfl (by (try simp only [List.map_toArray, List.map_cons, List.map_nil]); first | done | rfl | (simp only [List.length_drop, List.length_take]; rfl)) ?_; (with_reducible refine (stream_Over.calls (rd l0 x7_1) t119 _ A16.out).mono ?_); rintro e w' ⟨rfl, ⟨nd, rfl⟩⟩; refine ⟨_, rfl, ?_⟩) | ((with_reducible refine gate_callee (f := 10) rfl ?_); refine goesL_ (some 55) rfl rfl Try.func10 (by kernel_rfl) rfl #[.int .i64 x9_11, .int .i64 (rd l0 x7_1)] rfl (by (try simp only [List.map_toArray, List.map_cons, List.map_nil]); first | done | rfl | (simp only [List.length_drop, List.length_take]; rfl)) ?_; (with_reducible refine (stream_Next.calls kj11 x9_11 (rd l0 x7_1) t120 t121 t122 _ A18.out).mono ?_); rintro e w' ⟨rfl, ⟨nd, rfl⟩⟩; refine ⟨_, rfl, ?_⟩))
                              go_ret
                              exact ⟨by first | rfl | (simp [errW_none, errW_some] <;> rfl) | (simp [*, errW_none, errW_some] <;> rfl), by repeat (first | (with_reducible first | exact HB.out | apply below_alloc | apply pw_below_drewN | apply below_drew1) | exact HB.out)⟩
                      · rw [if_neg c15] at H
                        exact absurd H (by simp)
                    · rw [if_neg c14] at H
                      exact absurd H (by simp)
          · rw [if_neg c8] at H
            have c8b0 : decide (x7_1 < (l0.length : Int)) = false := decide_eq_false c8
            clear c8
            replace H := Option.bind_eq_some_iff.mp H
            obtain ⟨t116, A280, H⟩ := H
            replace H : (some (x5_1 == t116)) = some r := H
            have A28 := Aside0.mk A280
            clear A280
            obtain rfl := Option.some.inj H
            go_wp2_with (first | ((with_reducible refine gate_callee (f := 12) rfl ?_); refine goesL_ (some 88) rfl rfl Try.func12 (by kernel_rfl) rfl #[.int .i64 x6_1] rfl (by (try simp only [List.map_toArray, List.map_cons, List.map_nil]); first | done | rfl | (simp only [List.length_drop, List.length_take]; rfl)) ?_; (with_reducible refine (stream_Mirror.calls x6_1 t116 _ A28.out).mono ?_); rintro e w' ⟨rfl, ⟨nd, rfl⟩⟩; refine ⟨_, rfl, ?_⟩))
            go_ret
            exact ⟨by first | rfl | (simp [errW_none, errW_some] <;> rfl) | (simp [*, errW_none, errW_some] <;> rfl), by repeat (first | (with_reducible first | exact HB.out | apply below_alloc | apply pw_below_drewN | apply below_drew1) | exact HB.out)⟩
  · replace c4 := Bool.eq_false_iff.mpr c4
    subst c4
    have H1 : (some false) = some r := by rw [if_neg (show ¬ (false = true) by decide)] at H; exact H
    clear H
    have H := H1
    clear H1
    obtain rfl := Option.some.inj H
    go_enter Try.func6, Try.ntmps6
    go_wp2_with (first | ((with_reducible refine gate_callee (f := 9) rfl ?_); refine goesL_ (some 18) rfl rfl Try.func9 (by kernel_rfl) rfl #[] rfl (by (try simp only [List.map_toArray, List.map_cons, List.map_nil]); first | done | rfl | (simp only [List.length_drop, List.length_take]; rfl)) ?_; (with_reducible refine (nunciolaw18_awake.calls k  false _ A3.out).mono ?_); rintro e w29 ⟨rfl, hb⟩; refine ⟨_, rfl, ?_⟩; have n0_ := Aside0.mk (below_step (by repeat (first | (with_reducible first | exact HB.out | apply below_alloc | apply pw_below_drewN | apply below_drew1) | exact HB.out)) hb); clear HB; have HB := n0_; clear n0_; (try clear hb); (try clear hb2); (try clear hk); (try clear hi)))
    go_ret
    exact ⟨by first | rfl | (simp [errW_none, errW_some] <;> rfl) | (simp [*, errW_none, errW_some] <;> rfl), by repeat (first | (with_reducible first | exact HB.out | apply below_alloc | apply pw_below_drewN | apply below_drew1) | exact HB.out)⟩

end Go.Proofs.Ytkaijdhnnfldkaa.PStreamMirrors
