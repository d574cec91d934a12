import Derived.Test.YtkaijdhnnfldkaaPStreamAllx0
import Derived.Test.YtkaijdhnnfldkaaRefNext
import Derived.Test.YtkaijdhnnfldkaaPStreamAllx1
namespace Go.Proofs.Ytkaijdhnnfldkaa.PStreamAll
open Go.RowKit Go.Proofs.YtkaijdhnnfldkaaW.PrintWords Go.Proofs.YtkaijdhnnfldkaaW.PrintLast Go.Proofs.YtkaijdhnnfldkaaW.PrintMore
attribute [local go_sem] max2_int min2_int max_two min_two max_three min_three max_four min_four   -- for this text's walks alone
set_option linter.unusedVariables false
set_option linter.unusedSimpArgs false

/-! ### nuncioref18_Next: function 11 -/
mutual
def nuncioref18_Next.j0 : Nat → Int → Int → Bool → Option (Int × Int × Int)
  | 0, _, _, _ => none
  | k + 1, x0, x1, x22 => if x22 = true then (some (x0, 3, 0)) else (if x0 = 4 then (if x1 > 5 then (nuncioref18_Next.j1 k x0 (decide (x1 > 5)) false) else (nuncioref18_Next.j1 k x0 (decide (x1 > 5)) ((Int.tmod (wrap64 (x1 - 1)) 5) == 4))) else (if x0 = 0 then ((nuncioref18_first.f k (decide (x1 > 5)) (Int.tmod (wrap64 (x1 - 1)) 5)).bind fun bt115 => (some (bt115.1, bt115.2.1, bt115.2.2))) else (if (Int.tmod (wrap64 (x1 - 1)) 5) = 4 then (some (4, 0, 0)) else (if x1 > 5 then (nuncioref18_Next.j2 k x0 (decide (x1 > 5)) (Int.tmod (wrap64 (x1 - 1)) 5) (x0 == 2)) else (nuncioref18_Next.j2 k x0 (decide (x1 > 5)) (Int.tmod (wrap64 (x1 - 1)) 5) false)))))
def nuncioref18_Next.j1 : Nat → Int → Bool → Bool → Option (Int × Int × Int)
  | 0, _, _, _ => none
  | k + 1, x0, x7, x36 => if x36 = true then (some (4, 0, 0)) else (if x7 = true then (some (x0, 3, 0)) else (some (x0, 2, 5)))
def nuncioref18_Next.j2 : Nat → Int → Bool → Int → Bool → Option (Int × Int × Int)
  | 0, _, _, _, _ => none
  | k + 1, x0, x7, x8, x54 => if x54 = true then (some (x0, 3, 0)) else (if x7 = true then (nuncioref18_Next.j3 k x0 x7 x8 false) else (nuncioref18_Next.j3 k x0 x7 x8 (x0 == 3)))
def nuncioref18_Next.j3 : Nat → Int → Bool → Int → Bool → Option (Int × Int × Int)
  | 0, _, _, _, _ => none
  | k + 1, x0, x7, x8, x61 => if x61 = true then (some (x0, 1, 5)) else (if x8 = 0 then (nuncioref18_Next.j4 k x0 x7 true) else (nuncioref18_Next.j4 k x0 x7 (x8 == 2)))
def nuncioref18_Next.j4 : Nat → Int → Bool → Bool → Option (Int × Int × Int)
  | 0, _, _, _ => none
  | k + 1, x0, x7, x68 => if x68 = true then (some (x0, 0, 0)) else (if x0 = 1 then (if x7 = true then (some (2, 0, 0)) else (some (3, 0, 0))) else (some (4, 0, 0)))
end
def nuncioref18_Next.f (k : Nat) (a0 : Int) (a1 : Int) : Option (Int × Int × Int) := if a0 < 0 then (nuncioref18_Next.j0 k a0 a1 true) else (if a0 > 4 then (nuncioref18_Next.j0 k a0 a1 true) else (if a1 < 1 then (nuncioref18_Next.j0 k a0 a1 true) else (nuncioref18_Next.j0 k a0 a1 (decide (a1 > 10)))))
theorem nuncioref18_Next.mono_l : ∀ k, (∀ y0 y1 y2, LeO (nuncioref18_Next.j0 k y0 y1 y2) (nuncioref18_Next.j0 (k + 1) y0 y1 y2)) ∧ (∀ y0 y1 y2, LeO (nuncioref18_Next.j1 k y0 y1 y2) (nuncioref18_Next.j1 (k + 1) y0 y1 y2)) ∧ (∀ y0 y1 y2 y3, LeO (nuncioref18_Next.j2 k y0 y1 y2 y3) (nuncioref18_Next.j2 (k + 1) y0 y1 y2 y3)) ∧ (∀ y0 y1 y2 y3, LeO (nuncioref18_Next.j3 k y0 y1 y2 y3) (nuncioref18_Next.j3 (k + 1) y0 y1 y2 y3)) ∧ (∀ y0 y1 y2, LeO (nuncioref18_Next.j4 k y0 y1 y2) (nuncioref18_Next.j4 (k + 1) y0 y1 y2))
  | 0 => ⟨fun _ _ _ r h => by simp [nuncioref18_Next.j0] at h, fun _ _ _ r h => by simp [nuncioref18_Next.j1] at h, fun _ _ _ _ r h => by simp [nuncioref18_Next.j2] at h, fun _ _ _ _ r h => by simp [nuncioref18_Next.j3] at h, fun _ _ _ r h => by simp [nuncioref18_Next.j4] at h⟩
  | k + 1 => by
    obtain ⟨ih0, ih1, ih2, ih3, ih4⟩ := nuncioref18_Next.mono_l k
    refine ⟨?_, ?_, ?_, ?_, ?_⟩
    · intro y0 y1 y2
      unfold nuncioref18_Next.j0
      repeat' first
      | (with_reducible exact ih0 _ _ _)
      | (with_reducible exact ih1 _ _ _)
      | (with_reducible exact ih2 _ _ _ _)
      | (with_reducible exact ih3 _ _ _ _)
      | (with_reducible exact ih4 _ _ _)
      | (with_reducible exact nuncioref18_first.mono _ _ _)
      | (with_reducible exact LeO.refl _)
      | (with_reducible exact LeO.none _)
      | (with_reducible refine LeO.ite ?_ ?_)
      | (with_reducible refine LeO.bind ?_ (fun _ => ?_))
      | exact ih0 _ _ _
      | exact ih1 _ _ _
      | exact ih2 _ _ _ _
      | exact ih3 _ _ _ _
      | exact ih4 _ _ _
      | exact nuncioref18_first.mono _ _ _
      | exact LeO.none _
      | refine LeO.ite ?_ ?_
      | refine LeO.bind ?_ (fun _ => ?_)
    · intro y0 y1 y2
      unfold nuncioref18_Next.j1
      repeat' first
      | (with_reducible exact ih0 _ _ _)
      | (with_reducible exact ih1 _ _ _)
      | (with_reducible exact ih2 _ _ _ _)
      | (with_reducible exact ih3 _ _ _ _)
      | (with_reducible exact ih4 _ _ _)
      | (with_reducible exact nuncioref18_first.mono _ _ _)
      | (with_reducible exact LeO.refl _)
      | (with_reducible exact LeO.none _)
      | (with_reducible refine LeO.ite ?_ ?_)
      | (with_reducible refine LeO.bind ?_ (fun _ => ?_))
      | exact ih0 _ _ _
      | exact ih1 _ _ _
      | exact ih2 _ _ _ _
      | exact ih3 _ _ _ _
      | exact ih4 _ _ _
      | exact nuncioref18_first.mono _ _ _
      | exact LeO.none _
      | refine LeO.ite ?_ ?_
      | refine LeO.bind ?_ (fun _ => ?_)
    · intro y0 y1 y2 y3
      unfold nuncioref18_Next.j2
      repeat' first
      | (with_reducible exact ih0 _ _ _)
      | (with_reducible exact ih1 _ _ _)
      | (with_reducible exact ih2 _ _ _ _)
      | (with_reducible exact ih3 _ _ _ _)
      | (with_reducible exact ih4 _ _ _)
      | (with_reducible exact nuncioref18_first.mono _ _ _)
      | (with_reducible exact LeO.refl _)
      | (with_reducible exact LeO.none _)
      | (with_reducible refine LeO.ite ?_ ?_)
      | (with_reducible refine LeO.bind ?_ (fun _ => ?_))
      | exact ih0 _ _ _
      | exact ih1 _ _ _
      | exact ih2 _ _ _ _
      | exact ih3 _ _ _ _
      | exact ih4 _ _ _
      | exact nuncioref18_first.mono _ _ _
      | exact LeO.none _
      | refine LeO.ite ?_ ?_
      | refine LeO.bind ?_ (fun _ => ?_)
    · intro y0 y1 y2 y3
      unfold nuncioref18_Next.j3
      repeat' first
      | (with_reducible exact ih0 _ _ _)
      | (with_reducible exact ih1 _ _ _)
      | (with_reducible exact ih2 _ _ _ _)
      | (with_reducible exact ih3 _ _ _ _)
      | (with_reducible exact ih4 _ _ _)
      | (with_reducible exact nuncioref18_first.mono _ _ _)
      | (with_reducible exact LeO.refl _)
      | (with_reducible exact LeO.none _)
      | (with_reducible refine LeO.ite ?_ ?_)
      | (with_reducible refine LeO.bind ?_ (fun _ => ?_))
      | exact ih0 _ _ _
      | exact ih1 _ _ _
      | exact ih2 _ _ _ _
      | exact ih3 _ _ _ _
      | exact ih4 _ _ _
      | exact nuncioref18_first.mono _ _ _
      | exact LeO.none _
      | refine LeO.ite ?_ ?_
      | refine LeO.bind ?_ (fun _ => ?_)
    · intro y0 y1 y2
      unfold nuncioref18_Next.j4
      repeat' first
      | (with_reducible exact ih0 _ _ _)
      | (with_reducible exact ih1 _ _ _)
      | (with_reducible exact ih2 _ _ _ _)
      | (with_reducible exact ih3 _ _ _ _)
      | (with_reducible exact ih4 _ _ _)
      | (with_reducible exact nuncioref18_first.mono _ _ _)
      | (with_reducible exact LeO.refl _)
      | (with_reducible exact LeO.none _)
      | (with_reducible refine LeO.ite ?_ ?_)
      | (with_reducible refine LeO.bind ?_ (fun _ => ?_))
      | exact ih0 _ _ _
      | exact ih1 _ _ _
      | exact ih2 _ _ _ _
      | exact ih3 _ _ _ _
      | exact ih4 _ _ _
      | exact nuncioref18_first.mono _ _ _
      | exact LeO.none _
      | refine LeO.ite ?_ ?_
      | refine LeO.bind ?_ (fun _ => ?_)
theorem nuncioref18_Next.mono : ∀ a0 a1 k, LeO (nuncioref18_Next.f k a0 a1) (nuncioref18_Next.f (k + 1) a0 a1) := by
  intro a0 a1 k
  obtain ⟨ih0, ih1, ih2, ih3, ih4⟩ := nuncioref18_Next.mono_l k
  unfold nuncioref18_Next.f
  repeat' first
      | (with_reducible exact ih0 _ _ _)
      | (with_reducible exact ih1 _ _ _)
      | (with_reducible exact ih2 _ _ _ _)
      | (with_reducible exact ih3 _ _ _ _)
      | (with_reducible exact ih4 _ _ _)
      | (with_reducible exact nuncioref18_first.mono _ _ _)
      | (with_reducible exact LeO.refl _)
      | (with_reducible exact LeO.none _)
      | (with_reducible refine LeO.ite ?_ ?_)
      | (with_reducible refine LeO.bind ?_ (fun _ => ?_))
      | exact ih0 _ _ _
      | exact ih1 _ _ _
      | exact ih2 _ _ _ _
      | exact ih3 _ _ _ _
      | exact ih4 _ _ _
      | exact nuncioref18_first.mono _ _ _
      | exact LeO.none _
      | refine LeO.ite ?_ ?_
      | refine LeO.bind ?_ (fun _ => ?_)
theorem ref_pure (s e : Int) : nuncioref18_Next.f 9 s e = some (RefNext.nx s e) := by
  by_cases h : 0 ≤ s ∧ s ≤ 4 ∧ 1 ≤ e ∧ e ≤ 10
  · exact RefNext.all_fifty (fun s e => nuncioref18_Next.f 9 s e = some (RefNext.nx s e)) (by decide +kernel) s e h.1 h.2.1 h.2.2.1 h.2.2.2
  · rw [RefNext.nx_out s e h]
    unfold nuncioref18_Next.f
    by_cases h1 : s < 0
    · simp only [h1, if_pos, nuncioref18_Next.j0]
    · by_cases h2 : s > 4
      · simp only [h1, h2, if_pos, if_neg, nuncioref18_Next.j0, not_false_eq_true]
      · by_cases h3 : e < 1
        · simp only [h1, h2, h3, nuncioref18_Next.j0, reduceIte]
        · have h4 : e > 10 := by omega
          simp only [h1, h2, h3, h4, decide_true, nuncioref18_Next.j0, reduceIte]
/-- What the reference's step answers is the table's answer: told by the walk in RefNext. -/
theorem nuncioref18_Next.calls (k : Nat) (a0 : Int) (a1 : Int) (r1 : Int) (r2 : Int) (r3 : Int) (w : World) (h : nuncioref18_Next.f k a0 a1 = some (r1, r2, r3)) :
    Calls Try.prog 11 #[.int .i64 a0, .int .i64 a1] w fun e w' => e = .returned (.tuple #[.int .i64 r1, .int .i64 r2, .int .i64 r3]) ∧ Drawn0 w w' := by
  have h1 := at_rounds (nuncioref18_Next.mono a0 a1) (Nat.le_max_left k 9) h
  have h2 := at_rounds (nuncioref18_Next.mono a0 a1) (Nat.le_max_right k 9) (ref_pure a0 a1)
  rw [h1] at h2
  injection h2 with h2
  have hr := RefNext.ref_any a0 a1 w
  rw [← h2] at hr
  exact hr

/-! ### nunciolaw18_StreamAll: function 4 -/
mutual
def nunciolaw18_StreamAll.l0 : Nat → Int → Option (Bool)
  | 0, _ => none
  | k + 1, x1 => if x1 ≤ 5 then (nunciolaw18_StreamAll.l1 k x1 0) else ((nunciolaw18_awake.f k).bind fun t118 => (some t118))
def nunciolaw18_StreamAll.l1 : Nat → Int → Int → Option (Bool)
  | 0, _, _ => none
  | k + 1, x1, x2 => if x2 ≤ 11 then ((stream_Next.f k x1 x2).bind fun bt119 => ((nuncioref18_Next.f k x1 x2).bind fun bt122 => (if bt119.1 = bt122.1 then (if bt119.2.1 = bt122.2.1 then (if (wrap64 (bt119.2.2)) = bt122.2.2 then (nunciolaw18_StreamAll.l1 k x1 (wrap64 (x2 + 1))) else (some false)) else (some false)) else (some false)))) else (nunciolaw18_StreamAll.l0 k (wrap64 (x1 + 1)))
end
def nunciolaw18_StreamAll.f (k : Nat)  : Option (Bool) := nunciolaw18_StreamAll.l0 k (-1)
theorem nunciolaw18_StreamAll.mono_l : ∀ k, (∀ y0, LeO (nunciolaw18_StreamAll.l0 k y0) (nunciolaw18_StreamAll.l0 (k + 1) y0)) ∧ (∀ y0 y1, LeO (nunciolaw18_StreamAll.l1 k y0 y1) (nunciolaw18_StreamAll.l1 (k + 1) y0 y1))
  | 0 => ⟨fun _ r h => by simp [nunciolaw18_StreamAll.l0] at h, fun _ _ r h => by simp [nunciolaw18_StreamAll.l1] at h⟩
  | k + 1 => by
    obtain ⟨ih0, ih1⟩ := nunciolaw18_StreamAll.mono_l k
    refine ⟨?_, ?_⟩
    · intro y0
      unfold nunciolaw18_StreamAll.l0
      repeat' first
      | (with_reducible exact ih0 _)
      | (with_reducible exact ih1 _ _)
      | (with_reducible exact nunciolaw18_awake.mono _)
      | (with_reducible exact nuncioref18_Next.mono _ _ _)
      | (with_reducible exact stream_Next.mono _ _ _)
      | (with_reducible exact LeO.refl _)
      | (with_reducible exact LeO.none _)
      | (with_reducible refine LeO.ite ?_ ?_)
      | (with_reducible refine LeO.bind ?_ (fun _ => ?_))
      | exact ih0 _
      | exact ih1 _ _
      | exact nunciolaw18_awake.mono _
      | exact nuncioref18_Next.mono _ _ _
      | exact stream_Next.mono _ _ _
      | exact LeO.none _
      | refine LeO.ite ?_ ?_
      | refine LeO.bind ?_ (fun _ => ?_)
    · intro y0 y1
      unfold nunciolaw18_StreamAll.l1
      repeat' first
      | (with_reducible exact ih0 _)
      | (with_reducible exact ih1 _ _)
      | (with_reducible exact nunciolaw18_awake.mono _)
      | (with_reducible exact nuncioref18_Next.mono _ _ _)
      | (with_reducible exact stream_Next.mono _ _ _)
      | (with_reducible exact LeO.refl _)
      | (with_reducible exact LeO.none _)
      | (with_reducible refine LeO.ite ?_ ?_)
      | (with_reducible refine LeO.bind ?_ (fun _ => ?_))
      | exact ih0 _
      | exact ih1 _ _
      | exact nunciolaw18_awake.mono _
      | exact nuncioref18_Next.mono _ _ _
      | exact stream_Next.mono _ _ _
      | exact LeO.none _
      | refine LeO.ite ?_ ?_
      | refine LeO.bind ?_ (fun _ => ?_)
theorem nunciolaw18_StreamAll.mono : ∀ k, LeO (nunciolaw18_StreamAll.f k ) (nunciolaw18_StreamAll.f (k + 1) ) := by
  intro  k
  obtain ⟨ih0, ih1⟩ := nunciolaw18_StreamAll.mono_l k
  unfold nunciolaw18_StreamAll.f
  repeat' first
      | (with_reducible exact ih0 _)
      | (with_reducible exact ih1 _ _)
      | (with_reducible exact nunciolaw18_awake.mono _)
      | (with_reducible exact nuncioref18_Next.mono _ _ _)
      | (with_reducible exact stream_Next.mono _ _ _)
      | (with_reducible exact LeO.refl _)
      | (with_reducible exact LeO.none _)
      | (with_reducible refine LeO.ite ?_ ?_)
      | (with_reducible refine LeO.bind ?_ (fun _ => ?_))
      | exact ih0 _
      | exact ih1 _ _
      | exact nunciolaw18_awake.mono _
      | exact nuncioref18_Next.mono _ _ _
      | exact stream_Next.mono _ _ _
      | exact LeO.none _
      | refine LeO.ite ?_ ?_
      | refine LeO.bind ?_ (fun _ => ?_)
set_option maxHeartbeats 8000000 in
set_option maxRecDepth 100000 in
theorem nunciolaw18_StreamAll.calls (k : Nat)  (r : Bool) (w : World) (h : nunciolaw18_StreamAll.f k  = some r) :
    Calls Try.prog 4 #[] w fun e w' => e = .returned (.bool r) ∧ Below w.heap.size w w' := by
  have HB := Aside0.mk (Below.refl w.heap.size w)
  have H : (nunciolaw18_StreamAll.l0 k (-1)) = some r := h
  clear h
  have H' := Aside0.mk H
  clear H
  go_enter Try.func4, Try.ntmps4
  go_wp2
  go_loopg [1] k (fun kq v1 w' => ∃ (x1_1 : Int), v1 = .int .i64 x1_1 ∧ Aside0 (nunciolaw18_StreamAll.l0 kq x1_1 = some r) ∧ Aside0 (kq ≤ k) ∧ Aside0 (Below w.heap.size w w'))
  case atStart => exact ⟨((-1)), (by first | rfl | (simp; done) | (simp [*]; done)), H', ⟨Nat.le_refl _⟩, ⟨by repeat (first | (with_reducible first | exact HB.out | apply below_alloc | apply pw_below_drewN | apply below_drew1) | exact HB.out)⟩⟩
  case round =>
    clear H'
    obtain ⟨x1_1, rfl, HA, HK1, HB⟩ := hrel
    cases gk with
    | zero => exact absurd HA.out (by simp [nunciolaw18_StreamAll.l0])
    | succ k1 =>
      have H := HA.out
      clear HA
      simp only [nunciolaw18_StreamAll.l0] at H
      by_cases c1 : x1_1 ≤ 5
      · rw [if_pos c1] at H
        have c1b0 : decide (x1_1 ≤ 5) = true := decide_eq_true c1
        clear c1
        have H' := Aside0.mk H
        clear H
        go_wp2
        go_loopg [2] k1 (fun kq v2 w' => ∃ (x2_2 : Int), v2 = .int .i64 x2_2 ∧ Aside0 (nunciolaw18_StreamAll.l1 kq x1_1 x2_2 = some r) ∧ Aside0 (kq ≤ k1) ∧ Aside0 (Below w.heap.size w w'))
        case atStart => exact ⟨(0), (by first | rfl | (simp; done) | (simp [*]; done)), H', ⟨Nat.le_refl _⟩, ⟨by repeat (first | (with_reducible first | exact HB.out | apply below_alloc | apply pw_below_drewN | apply below_drew1) | exact HB.out)⟩⟩
        case round =>
          clear H'
          try clear c1
          try clear c1b0
          obtain ⟨x2_2, rfl, HA, HK2, HB⟩ := hrel
          cases gk with
          | zero => exact absurd HA.out (by simp [nunciolaw18_StreamAll.l1])
          | succ k2 =>
            have H := HA.out
            clear HA
            simp only [nunciolaw18_StreamAll.l1] at H
            by_cases c2 : x2_2 ≤ 11
            · rw [if_pos c2] at H
              have c2b0 : decide (x2_2 ≤ 11) = true := decide_eq_true c2
              clear c2
              replace H := Option.bind_eq_some_iff.mp H
              obtain ⟨⟨t119, t120, t121⟩, A30, H⟩ := H
              replace H : ((nuncioref18_Next.f k2 x1_1 x2_2).bind fun bt122 => (if t119 = bt122.1 then (if t120 = bt122.2.1 then (if (wrap64 (t121)) = bt122.2.2 then (nunciolaw18_StreamAll.l1 k2 x1_1 (wrap64 (x2_2 + 1))) else (some false)) else (some false)) else (some false))) = some r := H
              have A3 := Aside0.mk A30
              clear A30
              replace H := Option.bind_eq_some_iff.mp H
              obtain ⟨⟨t122, t123, t124⟩, A40, H⟩ := H
              replace H : (if t119 = t122 then (if t120 = t123 then (if (wrap64 (t121)) = t124 then (nunciolaw18_StreamAll.l1 k2 x1_1 (wrap64 (x2_2 + 1))) else (some false)) else (some false)) else (some false)) = some r := H
              have A4 := Aside0.mk A40
              clear A40
              by_cases c5 : t119 = t122
              · rw [if_pos c5] at H
                have c5b0 : (t119 == t122) = true := beq_iff_eq.mpr c5
                have c5b1 : (t119 != t122) = false := bne_eq_false_iff_eq.mpr c5
                clear c5
                by_cases c6 : t120 = t123
                · rw [if_pos c6] at H
                  have c6b0 : (t120 == t123) = true := beq_iff_eq.mpr c6
                  have c6b1 : (t120 != t123) = false := bne_eq_false_iff_eq.mpr c6
                  clear c6
                  by_cases c7 : (wrap64 (t121)) = t124
                  · rw [if_pos c7] at H
                    have c7b0 : ((wrap64 (t121)) == t124) = true := beq_iff_eq.mpr c7
                    have c7b1 : ((wrap64 (t121)) != t124) = false := bne_eq_false_iff_eq.mpr c7
                    clear c7
                    have H' := Aside0.mk H
                    clear H
                    go_wp2_with (first | ((with_reducible refine gate_callee (f := 10) rfl ?_); refine goesL_ (some 20) rfl rfl Try.func10 (by kernel_rfl) rfl #[.int .i64 x1_1, .int .i64 x2_2] rfl (by (try simp only [List.map_toArray, List.map_cons, List.map_nil]); first | done | rfl | (simp only [List.length_drop, List.length_take]; rfl)) ?_; (with_reducible refine (stream_Next.calls k2 x1_1 x2_2 t119 t120 t121 _ A3.out).mono ?_); rintro e w' ⟨rfl, ⟨nd, rfl⟩⟩; refine ⟨_, rfl, ?_⟩) | ((with_reducible refine gate_callee (f := 11) rfl ?_); refine goesL_ (some 27) rfl rfl Try.func11 (by kernel_rfl) rfl #[.int .i64 x1_1, .int .i64 x2_2] rfl (by (try simp only [List.map_toArray, List.map_cons, List.map_nil]); first | done | rfl | (simp only [List.length_drop, List.length_take]; rfl)) ?_; (with_reducible refine (nuncioref18_Next.calls k2 x1_1 x2_2 t122 t123 t124 _ A4.out).mono ?_); rintro e w' ⟨rfl, ⟨nd, rfl⟩⟩; refine ⟨_, rfl, ?_⟩))
                    go_roundg k2
                    case measure => have := HK1.out; have := HK2.out; omega
                    case rel => exact ⟨(wrap64 (x2_2 + 1)), (by first | rfl | (simp; done) | (simp [*]; done)), H', ⟨by have := HK1.out; have := HK2.out; omega⟩, ⟨by repeat (first | (with_reducible first | exact HB.out | apply below_alloc | apply pw_below_drewN | apply below_drew1) | exact HB.out)⟩⟩
                  · rw [if_neg c7] at H
                    have c7b0 : ((wrap64 (t121)) == t124) = false := beq_eq_false_iff_ne.mpr c7
                    have c7b1 : ((wrap64 (t121)) != t124) = true := bne_iff_ne.mpr c7
                    obtain rfl := Option.some.inj H
                    go_wp2_with (first | ((with_reducible refine gate_callee (f := 10) rfl ?_); refine goesL_ (some 20) rfl rfl Try.func10 (by kernel_rfl) rfl #[.int .i64 x1_1, .int .i64 x2_2] rfl (by (try simp only [List.map_toArray, List.map_cons, List.map_nil]); first | done | rfl | (simp only [List.length_drop, List.length_take]; rfl)) ?_; (with_reducible refine (stream_Next.calls k2 x1_1 x2_2 t119 t120 t121 _ A3.out).mono ?_); rintro e w' ⟨rfl, ⟨nd, rfl⟩⟩; refine ⟨_, rfl, ?_⟩) | ((with_reducible refine gate_callee (f := 11) rfl ?_); refine goesL_ (some 27) rfl rfl Try.func11 (by kernel_rfl) rfl #[.int .i64 x1_1, .int .i64 x2_2] rfl (by (try simp only [List.map_toArray, List.map_cons, List.map_nil]); first | done | rfl | (simp only [List.length_drop, List.length_take]; rfl)) ?_; (with_reducible refine (nuncioref18_Next.calls k2 x1_1 x2_2 t122 t123 t124 _ A4.out).mono ?_); rintro e w' ⟨rfl, ⟨nd, rfl⟩⟩; refine ⟨_, rfl, ?_⟩))
                    go_ret
                    exact ⟨by first | rfl | (simp [errW_none, errW_some] <;> rfl) | (simp [*, errW_none, errW_some] <;> rfl), by repeat (first | (with_reducible first | exact HB.out | apply below_alloc | apply pw_below_drewN | apply below_drew1) | exact HB.out)⟩
                · rw [if_neg c6] at H
                  have c6b0 : (t120 == t123) = false := beq_eq_false_iff_ne.mpr c6
                  have c6b1 : (t120 != t123) = true := bne_iff_ne.mpr c6
                  obtain rfl := Option.some.inj H
                  go_wp2_with (first | ((with_reducible refine gate_callee (f := 10) rfl ?_); refine goesL_ (some 20) rfl rfl Try.func10 (by kernel_rfl) rfl #[.int .i64 x1_1, .int .i64 x2_2] rfl (by (try simp only [List.map_toArray, List.map_cons, List.map_nil]); first | done | rfl | (simp only [List.length_drop, List.length_take]; rfl)) ?_; (with_reducible refine (stream_Next.calls k2 x1_1 x2_2 t119 t120 t121 _ A3.out).mono ?_); rintro e w' ⟨rfl, ⟨nd, rfl⟩⟩; refine ⟨_, rfl, ?_⟩) | ((with_reducible refine gate_callee (f := 11) rfl ?_); refine goesL_ (some 27) rfl rfl Try.func11 (by kernel_rfl) rfl #[.int .i64 x1_1, .int .i64 x2_2] rfl (by (try simp only [List.map_toArray, List.map_cons, List.map_nil]); first | done | rfl | (simp only [List.length_drop, List.length_take]; rfl)) ?_; (with_reducible refine (nuncioref18_Next.calls k2 x1_1 x2_2 t122 t123 t124 _ A4.out).mono ?_); rintro e w' ⟨rfl, ⟨nd, rfl⟩⟩; refine ⟨_, rfl, ?_⟩))
                  go_ret
                  exact ⟨by first | rfl | (simp [errW_none, errW_some] <;> rfl) | (simp [*, errW_none, errW_some] <;> rfl), by repeat (first | (with_reducible first | exact HB.out | apply below_alloc | apply pw_below_drewN | apply below_drew1) | exact HB.out)⟩
              · rw [if_neg c5] at H
                have c5b0 : (t119 == t122) = false := beq_eq_false_iff_ne.mpr c5
                have c5b1 : (t119 != t122) = true := bne_iff_ne.mpr c5
                obtain rfl := Option.some.inj H
                go_wp2_with (first | ((with_reducible refine gate_callee (f := 10) rfl ?_); refine goesL_ (some 20) rfl rfl Try.func10 (by kernel_rfl) rfl #[.int .i64 x1_1, .int .i64 x2_2] rfl (by (try simp only [List.map_toArray, List.map_cons, List.map_nil]); first | done | rfl | (simp only [List.length_drop, List.length_take]; rfl)) ?_; (with_reducible refine (stream_Next.calls k2 x1_1 x2_2 t119 t120 t121 _ A3.out).mono ?_); rintro e w' ⟨rfl, ⟨nd, rfl⟩⟩; refine ⟨_, rfl, ?_⟩) | ((with_reducible refine gate_callee (f := 11) rfl ?_); refine goesL_ (some 27) rfl rfl Try.func11 (by kernel_rfl) rfl #[.int .i64 x1_1, .int .i64 x2_2] rfl (by (try simp only [List.map_toArray, List.map_cons, List.map_nil]); first | done | rfl | (simp only [List.length_drop, List.length_take]; rfl)) ?_; (with_reducible refine (nuncioref18_Next.calls k2 x1_1 x2_2 t122 t123 t124 _ A4.out).mono ?_); rintro e w' ⟨rfl, ⟨nd, rfl⟩⟩; refine ⟨_, rfl, ?_⟩))
                go_ret
                exact ⟨by first | rfl | (simp [errW_none, errW_some] <;> rfl) | (simp [*, errW_none, errW_some] <;> rfl), by repeat (first | (with_reducible first | exact HB.out | apply below_alloc | apply pw_below_drewN | apply below_drew1) | exact HB.out)⟩
            · rw [if_neg c2] at H
              have c2b0 : decide (x2_2 ≤ 11) = false := decide_eq_false c2
              clear c2
              have H' := Aside0.mk H
              clear H
              go_wp2
              go_roundg k2
              case measure => have := HK1.out; have := HK2.out; omega
              case rel => exact ⟨(wrap64 (x1_1 + 1)), (by first | rfl | (simp; done) | (simp [*]; done)), H', ⟨by have := HK1.out; have := HK2.out; omega⟩, ⟨by repeat (first | (with_reducible first | exact HB.out | apply below_alloc | apply pw_below_drewN | apply below_drew1) | exact HB.out)⟩⟩
      · rw [if_neg c1] at H
        have c1b0 : decide (x1_1 ≤ 5) = false := decide_eq_false c1
        clear c1
        replace H := Option.bind_eq_some_iff.mp H
        obtain ⟨t118, A80, H⟩ := H
        replace H : (some t118) = some r := H
        have A8 := Aside0.mk A80
        clear A80
        obtain rfl := Option.some.inj H
        go_wp2_with (first | ((with_reducible refine gate_callee (f := 9) rfl ?_); refine goesL_ (some 45) rfl rfl Try.func9 (by kernel_rfl) rfl #[] rfl (by (try simp only [List.map_toArray, List.map_cons, List.map_nil]); first | done | rfl | (simp only [List.length_drop, List.length_take]; rfl)) ?_; (with_reducible refine (nunciolaw18_awake.calls k1  t118 _ A8.out).mono ?_); rintro e w9 ⟨rfl, hb⟩; refine ⟨_, rfl, ?_⟩; have n0_ := Aside0.mk (below_step (by repeat (first | (with_reducible first | exact HB.out | apply below_alloc | apply pw_below_drewN | apply below_drew1) | exact HB.out)) hb); clear HB; have HB := n0_; clear n0_; (try clear hb); (try clear hb2); (try clear hk); (try clear hi)))
        go_ret
        exact ⟨by first | rfl | (simp [errW_none, errW_some] <;> rfl) | (simp [*, errW_none, errW_some] <;> rfl), by repeat (first | (with_reducible first | exact HB.out | apply below_alloc | apply pw_below_drewN | apply below_drew1) | exact HB.out)⟩

/-- THE ONE PURE STATEMENT of nunciolaw18_StreamAll: yours. -/
def nunciolaw18_StreamAll.Pure : Prop := ∃ k, nunciolaw18_StreamAll.f k  = some true
theorem nunciolaw18_StreamAll.walk (P : nunciolaw18_StreamAll.Pure)  (w : World)  :
    Calls Try.prog 4 #[] w fun e w' => e = .returned (.bool true) ∧ Below w.heap.size w w' := by
  obtain ⟨k, h⟩ := P  
  refine (nunciolaw18_StreamAll.calls k  true w h).mono ?_
  rintro e w' ⟨rfl, hd⟩
  exact ⟨rfl, hd⟩

end Go.Proofs.Ytkaijdhnnfldkaa.PStreamAll
