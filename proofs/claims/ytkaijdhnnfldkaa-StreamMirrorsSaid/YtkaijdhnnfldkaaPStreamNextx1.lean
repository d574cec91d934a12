-- PRINTED BY print.sh 35421559b90ae4d0a3588c463048766b98c2df88dd9212a6774a882060cdf62d: not written by this session
import Derived.Test.YtkaijdhnnfldkaaPStreamNextx0
namespace Go.Proofs.Ytkaijdhnnfldkaa.PStreamNext
open Go.RowKit Go.Proofs.YtkaijdhnnfldkaaW.PrintWords Go.Proofs.YtkaijdhnnfldkaaW.PrintLast Go.Proofs.YtkaijdhnnfldkaaW.PrintMore
attribute [local go_sem] max2_int min2_int max_two min_two max_three min_three max_four min_four   -- for this text's walks alone
set_option linter.unusedVariables false
set_option linter.unusedSimpArgs false

/-! ### stream_Next: function 10 -/
def stream_Next.j0 : Nat → Int → Int → Bool → Option (Int × Int × Int)
  | 0, _, _, _ => none
  | k + 1, x0, x1, x21 => if x21 = true then (some (x0, 3, 0)) else (if 0 ≤ (wrap64 ((wrap64 ((wrap64 (x0 * 10)) + x1)) - 1)) then (if (wrap64 ((wrap64 ((wrap64 (x0 * 10)) + x1)) - 1)) < 50 then (if (bt (⟨#[49, 51, 112, 112, 112, 49, 50, 45, 45, 45, 49, 51, 49, 51, 52, 49, 50, 49, 50, 52, 50, 52, 50, 52, 52, 45, 45, 45, 45, 52, 99, 99, 99, 99, 52, 51, 52, 51, 52, 52, 100, 100, 100, 100, 52, 45, 45, 45, 45, 45]⟩ : ByteArray) (wrap64 ((wrap64 ((wrap64 (x0 * 10)) + x1)) - 1))) = 112 then (some (x0, 2, 1)) else (if (bt (⟨#[49, 51, 112, 112, 112, 49, 50, 45, 45, 45, 49, 51, 49, 51, 52, 49, 50, 49, 50, 52, 50, 52, 50, 52, 52, 45, 45, 45, 45, 52, 99, 99, 99, 99, 52, 51, 52, 51, 52, 52, 100, 100, 100, 100, 52, 45, 45, 45, 45, 45]⟩ : ByteArray) (wrap64 ((wrap64 ((wrap64 (x0 * 10)) + x1)) - 1))) = 99 then (some (x0, 1, 5)) else (if (bt (⟨#[49, 51, 112, 112, 112, 49, 50, 45, 45, 45, 49, 51, 49, 51, 52, 49, 50, 49, 50, 52, 50, 52, 50, 52, 52, 45, 45, 45, 45, 52, 99, 99, 99, 99, 52, 51, 52, 51, 52, 52, 100, 100, 100, 100, 52, 45, 45, 45, 45, 45]⟩ : ByteArray) (wrap64 ((wrap64 ((wrap64 (x0 * 10)) + x1)) - 1))) = 100 then (some (x0, 2, 5)) else (if (bt (⟨#[49, 51, 112, 112, 112, 49, 50, 45, 45, 45, 49, 51, 49, 51, 52, 49, 50, 49, 50, 52, 50, 52, 50, 52, 52, 45, 45, 45, 45, 52, 99, 99, 99, 99, 52, 51, 52, 51, 52, 52, 100, 100, 100, 100, 52, 45, 45, 45, 45, 45]⟩ : ByteArray) (wrap64 ((wrap64 ((wrap64 (x0 * 10)) + x1)) - 1))) = 45 then (some (x0, 3, 0)) else (some (((bt (⟨#[49, 51, 112, 112, 112, 49, 50, 45, 45, 45, 49, 51, 49, 51, 52, 49, 50, 49, 50, 52, 50, 52, 50, 52, 52, 45, 45, 45, 45, 52, 99, 99, 99, 99, 52, 51, 52, 51, 52, 52, 100, 100, 100, 100, 52, 45, 45, 45, 45, 45]⟩ : ByteArray) (wrap64 ((wrap64 ((wrap64 (x0 * 10)) + x1)) - 1))) - 48) % 256, 0, 0)))))) else (none)) else (none))
def stream_Next.f (k : Nat) (a0 : Int) (a1 : Int) : Option (Int × Int × Int) := if a0 < 0 then (stream_Next.j0 k a0 a1 true) else (if a0 > 4 then (stream_Next.j0 k a0 a1 true) else (if a1 < 1 then (stream_Next.j0 k a0 a1 true) else (stream_Next.j0 k a0 a1 (decide (a1 > 10)))))
theorem stream_Next.mono_l : ∀ k, (∀ y0 y1 y2, LeO (stream_Next.j0 k y0 y1 y2) (stream_Next.j0 (k + 1) y0 y1 y2))
  | 0 => fun _ _ _ r h => by simp [stream_Next.j0] at h
  | k + 1 => by
    have ih0 := stream_Next.mono_l k
    · intro y0 y1 y2
      unfold stream_Next.j0
      repeat' first
      | (with_reducible exact ih0 _ _ _)
      | (with_reducible exact LeO.refl _)
      | (with_reducible exact LeO.none _)
      | (with_reducible refine LeO.ite ?_ ?_)
      | (with_reducible refine LeO.bind ?_ (fun _ => ?_))
      | exact ih0 _ _ _
      | exact LeO.none _
      | refine LeO.ite ?_ ?_
      | refine LeO.bind ?_ (fun _ => ?_)
theorem stream_Next.mono : ∀ a0 a1 k, LeO (stream_Next.f k a0 a1) (stream_Next.f (k + 1) a0 a1) := by
  intro a0 a1 k
  have ih0 := stream_Next.mono_l k
  unfold stream_Next.f
  repeat' first
      | (with_reducible exact ih0 _ _ _)
      | (with_reducible exact LeO.refl _)
      | (with_reducible exact LeO.none _)
      | (with_reducible refine LeO.ite ?_ ?_)
      | (with_reducible refine LeO.bind ?_ (fun _ => ?_))
      | exact ih0 _ _ _
      | exact LeO.none _
      | refine LeO.ite ?_ ?_
      | refine LeO.bind ?_ (fun _ => ?_)
set_option maxHeartbeats 8000000 in
set_option maxRecDepth 100000 in
theorem stream_Next.calls (k : Nat) (a0 : Int) (a1 : Int) (r1 : Int) (r2 : Int) (r3 : Int) (w : World) (h : stream_Next.f k a0 a1 = some (r1, r2, r3)) :
    Calls Try.prog 10 #[.int .i64 a0, .int .i64 a1] w fun e w' => e = .returned (.tuple #[.int .i64 r1, .int .i64 r2, .int .u32 r3]) ∧ Drawn0 w w' := by
  have H : (if a0 < 0 then (stream_Next.j0 k a0 a1 true) else (if a0 > 4 then (stream_Next.j0 k a0 a1 true) else (if a1 < 1 then (stream_Next.j0 k a0 a1 true) else (stream_Next.j0 k a0 a1 (decide (a1 > 10)))))) = some (r1, r2, r3) := h
  clear h
  have HC3 := Aside0.mk H
  clear H
  go_enter Try.func10, Try.ntmps10
  go_upto_region 1 with (fail)
  go_cut [21] (fun v21 wc => ∃ (kq : Nat) (x21_2 : Bool), v21 = .bool x21_2 ∧ Aside0 (stream_Next.j0 kq a0 a1 x21_2 = some (r1, r2, r3)) ∧ Aside0 (kq ≤ k) ∧ Drawn0 w wc)
  case first =>
    have H := HC3.out
    clear HC3
    by_cases c4 : a0 < 0
    · rw [if_pos c4] at H
      have c4b0 : decide (a0 < 0) = true := decide_eq_true c4
      clear c4
      (first | rw [c4b0] | (simp only [i64_w, i32_w]; rw [c4b0]) | skip)
      have H' := Aside0.mk H
      clear H
      go_wp2
      go_meet
      case rel => exact ⟨_, (true), (by first | rfl | (simp; done) | (simp [*]; done)), H', ⟨by first | omega | exact Nat.le_refl _⟩, by repeat (first | exact Drawn0.refl _ | apply Drawn0.step)⟩
    · rw [if_neg c4] at H
      have c4b0 : decide (a0 < 0) = false := decide_eq_false c4
      clear c4
      (first | rw [c4b0] | (simp only [i64_w, i32_w]; rw [c4b0]) | skip)
      by_cases c5 : a0 > 4
      · rw [if_pos c5] at H
        have c5b0 : decide (4 < a0) = true := decide_eq_true c5
        clear c5
        have H' := Aside0.mk H
        clear H
        go_wp2
        go_meet
        case rel => exact ⟨_, (true), (by first | rfl | (simp; done) | (simp [*]; done)), H', ⟨by first | omega | exact Nat.le_refl _⟩, by repeat (first | exact Drawn0.refl _ | apply Drawn0.step)⟩
      · rw [if_neg c5] at H
        have c5b0 : decide (4 < a0) = false := decide_eq_false c5
        clear c5
        by_cases c6 : a1 < 1
        · rw [if_pos c6] at H
          have c6b0 : decide (a1 < 1) = true := decide_eq_true c6
          clear c6
          have H' := Aside0.mk H
          clear H
          go_wp2
          go_meet
          case rel => exact ⟨_, (true), (by first | rfl | (simp; done) | (simp [*]; done)), H', ⟨by first | omega | exact Nat.le_refl _⟩, by repeat (first | exact Drawn0.refl _ | apply Drawn0.step)⟩
        · rw [if_neg c6] at H
          have c6b0 : decide (a1 < 1) = false := decide_eq_false c6
          clear c6
          have H' := Aside0.mk H
          clear H
          go_wp2
          go_meet
          case rel => exact ⟨_, (decide (a1 > 10)), (by first | rfl | (simp; done) | (simp [*]; done)), H', ⟨by first | omega | exact Nat.le_refl _⟩, by repeat (first | exact Drawn0.refl _ | apply Drawn0.step)⟩
  case rest =>
    clear HC3
    try clear c1
    try clear p2
    try clear c4
    try clear c4b0
    try clear c5
    try clear c5b0
    try clear c6
    try clear c6b0
    obtain ⟨kq, x21_2, rfl, HA, HJ2, ⟨mc2, rfl⟩⟩ := hcut
    cases kq with
    | zero => exact absurd HA.out (by simp [stream_Next.j0])
    | succ kj2 =>
      have H := HA.out
      clear HA
      simp only [stream_Next.j0] at H
      by_cases c7 : x21_2 = true
      · subst c7
        have H1 : (some (a0, 3, 0)) = some (r1, r2, r3) := by rw [if_pos rfl] at H; exact H
        clear H
        have H := H1
        clear H1
        simp only [Option.some.injEq, Prod.mk.injEq] at H
        obtain ⟨rfl, rfl, rfl⟩ := H
        go_wp2
        go_ret3
        exact ⟨by first | rfl | (simp; done) | (simp [*]; done), by repeat (first | exact Drawn0.refl _ | apply Drawn0.step)⟩
      · replace c7 := Bool.eq_false_iff.mpr c7
        subst c7
        have H1 : (if 0 ≤ (wrap64 ((wrap64 ((wrap64 (a0 * 10)) + a1)) - 1)) then (if (wrap64 ((wrap64 ((wrap64 (a0 * 10)) + a1)) - 1)) < 50 then (if (bt (⟨#[49, 51, 112, 112, 112, 49, 50, 45, 45, 45, 49, 51, 49, 51, 52, 49, 50, 49, 50, 52, 50, 52, 50, 52, 52, 45, 45, 45, 45, 52, 99, 99, 99, 99, 52, 51, 52, 51, 52, 52, 100, 100, 100, 100, 52, 45, 45, 45, 45, 45]⟩ : ByteArray) (wrap64 ((wrap64 ((wrap64 (a0 * 10)) + a1)) - 1))) = 112 then (some (a0, 2, 1)) else (if (bt (⟨#[49, 51, 112, 112, 112, 49, 50, 45, 45, 45, 49, 51, 49, 51, 52, 49, 50, 49, 50, 52, 50, 52, 50, 52, 52, 45, 45, 45, 45, 52, 99, 99, 99, 99, 52, 51, 52, 51, 52, 52, 100, 100, 100, 100, 52, 45, 45, 45, 45, 45]⟩ : ByteArray) (wrap64 ((wrap64 ((wrap64 (a0 * 10)) + a1)) - 1))) = 99 then (some (a0, 1, 5)) else (if (bt (⟨#[49, 51, 112, 112, 112, 49, 50, 45, 45, 45, 49, 51, 49, 51, 52, 49, 50, 49, 50, 52, 50, 52, 50, 52, 52, 45, 45, 45, 45, 52, 99, 99, 99, 99, 52, 51, 52, 51, 52, 52, 100, 100, 100, 100, 52, 45, 45, 45, 45, 45]⟩ : ByteArray) (wrap64 ((wrap64 ((wrap64 (a0 * 10)) + a1)) - 1))) = 100 then (some (a0, 2, 5)) else (if (bt (⟨#[49, 51, 112, 112, 112, 49, 50, 45, 45, 45, 49, 51, 49, 51, 52, 49, 50, 49, 50, 52, 50, 52, 50, 52, 52, 45, 45, 45, 45, 52, 99, 99, 99, 99, 52, 51, 52, 51, 52, 52, 100, 100, 100, 100, 52, 45, 45, 45, 45, 45]⟩ : ByteArray) (wrap64 ((wrap64 ((wrap64 (a0 * 10)) + a1)) - 1))) = 45 then (some (a0, 3, 0)) else (some (((bt (⟨#[49, 51, 112, 112, 112, 49, 50, 45, 45, 45, 49, 51, 49, 51, 52, 49, 50, 49, 50, 52, 50, 52, 50, 52, 52, 45, 45, 45, 45, 52, 99, 99, 99, 99, 52, 51, 52, 51, 52, 52, 100, 100, 100, 100, 52, 45, 45, 45, 45, 45]⟩ : ByteArray) (wrap64 ((wrap64 ((wrap64 (a0 * 10)) + a1)) - 1))) - 48) % 256, 0, 0)))))) else (none)) else (none)) = some (r1, r2, r3) := by rw [if_neg (show ¬ (false = true) by decide)] at H; exact H
        clear H
        have H := H1
        clear H1
        obtain ⟨ji8, hji8⟩ : ∃ j_ : Int, (wrap64 ((wrap64 ((wrap64 (a0 * 10)) + a1)) - 1)) = j_ := ⟨_, rfl⟩
        replace H : (if 0 ≤ (ji8) then (if (ji8) < 50 then (if (bt (⟨#[49, 51, 112, 112, 112, 49, 50, 45, 45, 45, 49, 51, 49, 51, 52, 49, 50, 49, 50, 52, 50, 52, 50, 52, 52, 45, 45, 45, 45, 52, 99, 99, 99, 99, 52, 51, 52, 51, 52, 52, 100, 100, 100, 100, 52, 45, 45, 45, 45, 45]⟩ : ByteArray) (ji8)) = 112 then (some (a0, 2, 1)) else (if (bt (⟨#[49, 51, 112, 112, 112, 49, 50, 45, 45, 45, 49, 51, 49, 51, 52, 49, 50, 49, 50, 52, 50, 52, 50, 52, 52, 45, 45, 45, 45, 52, 99, 99, 99, 99, 52, 51, 52, 51, 52, 52, 100, 100, 100, 100, 52, 45, 45, 45, 45, 45]⟩ : ByteArray) (ji8)) = 99 then (some (a0, 1, 5)) else (if (bt (⟨#[49, 51, 112, 112, 112, 49, 50, 45, 45, 45, 49, 51, 49, 51, 52, 49, 50, 49, 50, 52, 50, 52, 50, 52, 52, 45, 45, 45, 45, 52, 99, 99, 99, 99, 52, 51, 52, 51, 52, 52, 100, 100, 100, 100, 52, 45, 45, 45, 45, 45]⟩ : ByteArray) (ji8)) = 100 then (some (a0, 2, 5)) else (if (bt (⟨#[49, 51, 112, 112, 112, 49, 50, 45, 45, 45, 49, 51, 49, 51, 52, 49, 50, 49, 50, 52, 50, 52, 50, 52, 52, 45, 45, 45, 45, 52, 99, 99, 99, 99, 52, 51, 52, 51, 52, 52, 100, 100, 100, 100, 52, 45, 45, 45, 45, 45]⟩ : ByteArray) (ji8)) = 45 then (some (a0, 3, 0)) else (some (((bt (⟨#[49, 51, 112, 112, 112, 49, 50, 45, 45, 45, 49, 51, 49, 51, 52, 49, 50, 49, 50, 52, 50, 52, 50, 52, 52, 45, 45, 45, 45, 52, 99, 99, 99, 99, 52, 51, 52, 51, 52, 52, 100, 100, 100, 100, 52, 45, 45, 45, 45, 45]⟩ : ByteArray) (ji8)) - 48) % 256, 0, 0)))))) else (none)) else (none)) = some (r1, r2, r3) := by first | (rw [hji8] at H; exact H) | (simp only [hji8] at H ⊢; exact H)
        have hji8w : (IntKind.i64.wrap ((wrap64 ((wrap64 (a0 * 10)) + a1)) - 1)) = ji8 := (i64_w _).trans hji8
        by_cases c9 : 0 ≤ (ji8)
        · rw [if_pos c9] at H
          have c9b0 : decide (0 ≤ (ji8)) = true := decide_eq_true c9
          clear c9
          by_cases c10 : (ji8) < 50
          · rw [if_pos c10] at H
            have c10b0 : decide ((ji8) < 50) = true := decide_eq_true c10
            clear c10
            by_cases c12 : (bt (⟨#[49, 51, 112, 112, 112, 49, 50, 45, 45, 45, 49, 51, 49, 51, 52, 49, 50, 49, 50, 52, 50, 52, 50, 52, 52, 45, 45, 45, 45, 52, 99, 99, 99, 99, 52, 51, 52, 51, 52, 52, 100, 100, 100, 100, 52, 45, 45, 45, 45, 45]⟩ : ByteArray) (ji8)) = 112
            · rw [if_pos c12] at H
              have c12b0 : ((bt (⟨#[49, 51, 112, 112, 112, 49, 50, 45, 45, 45, 49, 51, 49, 51, 52, 49, 50, 49, 50, 52, 50, 52, 50, 52, 52, 45, 45, 45, 45, 52, 99, 99, 99, 99, 52, 51, 52, 51, 52, 52, 100, 100, 100, 100, 52, 45, 45, 45, 45, 45]⟩ : ByteArray) (ji8)) == 112) = true := beq_iff_eq.mpr c12
              have c12b1 : ((bt (⟨#[49, 51, 112, 112, 112, 49, 50, 45, 45, 45, 49, 51, 49, 51, 52, 49, 50, 49, 50, 52, 50, 52, 50, 52, 52, 45, 45, 45, 45, 52, 99, 99, 99, 99, 52, 51, 52, 51, 52, 52, 100, 100, 100, 100, 52, 45, 45, 45, 45, 45]⟩ : ByteArray) (ji8)) != 112) = false := bne_eq_false_iff_eq.mpr c12
              clear c12
              simp only [Option.some.injEq, Prod.mk.injEq] at H
              obtain ⟨rfl, rfl, rfl⟩ := H
              have p11 : 0 ≤ ((ji8) : Int) := of_decide_eq_true (by first | (with_reducible assumption) | assumption)
              have q11 : (ji8) < (50 : Int) := of_decide_eq_true (by first | (with_reducible assumption) | assumption)
              have hx11 := bt_at (⟨#[49, 51, 112, 112, 112, 49, 50, 45, 45, 45, 49, 51, 49, 51, 52, 49, 50, 49, 50, 52, 50, 52, 50, 52, 52, 45, 45, 45, 45, 52, 99, 99, 99, 99, 52, 51, 52, 51, 52, 52, 100, 100, 100, 100, 52, 45, 45, 45, 45, 45]⟩ : ByteArray) (ji8)
              replace p11 := eq_true p11
              replace q11 := eq_true q11
              go_wp2
              go_ret3
              exact ⟨by first | rfl | (simp; done) | (simp only [← hji8] <;> (first | rfl | simp)) | (simp [*]; done), by repeat (first | exact Drawn0.refl _ | apply Drawn0.step)⟩
            · rw [if_neg c12] at H
              have c12b0 : ((bt (⟨#[49, 51, 112, 112, 112, 49, 50, 45, 45, 45, 49, 51, 49, 51, 52, 49, 50, 49, 50, 52, 50, 52, 50, 52, 52, 45, 45, 45, 45, 52, 99, 99, 99, 99, 52, 51, 52, 51, 52, 52, 100, 100, 100, 100, 52, 45, 45, 45, 45, 45]⟩ : ByteArray) (ji8)) == 112) = false := beq_eq_false_iff_ne.mpr c12
              have c12b1 : ((bt (⟨#[49, 51, 112, 112, 112, 49, 50, 45, 45, 45, 49, 51, 49, 51, 52, 49, 50, 49, 50, 52, 50, 52, 50, 52, 52, 45, 45, 45, 45, 52, 99, 99, 99, 99, 52, 51, 52, 51, 52, 52, 100, 100, 100, 100, 52, 45, 45, 45, 45, 45]⟩ : ByteArray) (ji8)) != 112) = true := bne_iff_ne.mpr c12
              by_cases c13 : (bt (⟨#[49, 51, 112, 112, 112, 49, 50, 45, 45, 45, 49, 51, 49, 51, 52, 49, 50, 49, 50, 52, 50, 52, 50, 52, 52, 45, 45, 45, 45, 52, 99, 99, 99, 99, 52, 51, 52, 51, 52, 52, 100, 100, 100, 100, 52, 45, 45, 45, 45, 45]⟩ : ByteArray) (ji8)) = 99
              · rw [if_pos c13] at H
                have c13b0 : ((bt (⟨#[49, 51, 112, 112, 112, 49, 50, 45, 45, 45, 49, 51, 49, 51, 52, 49, 50, 49, 50, 52, 50, 52, 50, 52, 52, 45, 45, 45, 45, 52, 99, 99, 99, 99, 52, 51, 52, 51, 52, 52, 100, 100, 100, 100, 52, 45, 45, 45, 45, 45]⟩ : ByteArray) (ji8)) == 99) = true := beq_iff_eq.mpr c13
                have c13b1 : ((bt (⟨#[49, 51, 112, 112, 112, 49, 50, 45, 45, 45, 49, 51, 49, 51, 52, 49, 50, 49, 50, 52, 50, 52, 50, 52, 52, 45, 45, 45, 45, 52, 99, 99, 99, 99, 52, 51, 52, 51, 52, 52, 100, 100, 100, 100, 52, 45, 45, 45, 45, 45]⟩ : ByteArray) (ji8)) != 99) = false := bne_eq_false_iff_eq.mpr c13
                clear c13
                simp only [Option.some.injEq, Prod.mk.injEq] at H
                obtain ⟨rfl, rfl, rfl⟩ := H
                have p11 : 0 ≤ ((ji8) : Int) := of_decide_eq_true (by first | (with_reducible assumption) | assumption)
                have q11 : (ji8) < (50 : Int) := of_decide_eq_true (by first | (with_reducible assumption) | assumption)
                have hx11 := bt_at (⟨#[49, 51, 112, 112, 112, 49, 50, 45, 45, 45, 49, 51, 49, 51, 52, 49, 50, 49, 50, 52, 50, 52, 50, 52, 52, 45, 45, 45, 45, 52, 99, 99, 99, 99, 52, 51, 52, 51, 52, 52, 100, 100, 100, 100, 52, 45, 45, 45, 45, 45]⟩ : ByteArray) (ji8)
                replace p11 := eq_true p11
                replace q11 := eq_true q11
                go_wp2
                go_ret3
                exact ⟨by first | rfl | (simp; done) | (simp only [← hji8] <;> (first | rfl | simp)) | (simp [*]; done), by repeat (first | exact Drawn0.refl _ | apply Drawn0.step)⟩
              · rw [if_neg c13] at H
                have c13b0 : ((bt (⟨#[49, 51, 112, 112, 112, 49, 50, 45, 45, 45, 49, 51, 49, 51, 52, 49, 50, 49, 50, 52, 50, 52, 50, 52, 52, 45, 45, 45, 45, 52, 99, 99, 99, 99, 52, 51, 52, 51, 52, 52, 100, 100, 100, 100, 52, 45, 45, 45, 45, 45]⟩ : ByteArray) (ji8)) == 99) = false := beq_eq_false_iff_ne.mpr c13
                have c13b1 : ((bt (⟨#[49, 51, 112, 112, 112, 49, 50, 45, 45, 45, 49, 51, 49, 51, 52, 49, 50, 49, 50, 52, 50, 52, 50, 52, 52, 45, 45, 45, 45, 52, 99, 99, 99, 99, 52, 51, 52, 51, 52, 52, 100, 100, 100, 100, 52, 45, 45, 45, 45, 45]⟩ : ByteArray) (ji8)) != 99) = true := bne_iff_ne.mpr c13
                by_cases c14 : (bt (⟨#[49, 51, 112, 112, 112, 49, 50, 45, 45, 45, 49, 51, 49, 51, 52, 49, 50, 49, 50, 52, 50, 52, 50, 52, 52, 45, 45, 45, 45, 52, 99, 99, 99, 99, 52, 51, 52, 51, 52, 52, 100, 100, 100, 100, 52, 45, 45, 45, 45, 45]⟩ : ByteArray) (ji8)) = 100
                · rw [if_pos c14] at H
                  have c14b0 : ((bt (⟨#[49, 51, 112, 112, 112, 49, 50, 45, 45, 45, 49, 51, 49, 51, 52, 49, 50, 49, 50, 52, 50, 52, 50, 52, 52, 45, 45, 45, 45, 52, 99, 99, 99, 99, 52, 51, 52, 51, 52, 52, 100, 100, 100, 100, 52, 45, 45, 45, 45, 45]⟩ : ByteArray) (ji8)) == 100) = true := beq_iff_eq.mpr c14
                  have c14b1 : ((bt (⟨#[49, 51, 112, 112, 112, 49, 50, 45, 45, 45, 49, 51, 49, 51, 52, 49, 50, 49, 50, 52, 50, 52, 50, 52, 52, 45, 45, 45, 45, 52, 99, 99, 99, 99, 52, 51, 52, 51, 52, 52, 100, 100, 100, 100, 52, 45, 45, 45, 45, 45]⟩ : ByteArray) (ji8)) != 100) = false := bne_eq_false_iff_eq.mpr c14
                  clear c14
                  simp only [Option.some.injEq, Prod.mk.injEq] at H
                  obtain ⟨rfl, rfl, rfl⟩ := H
                  have p11 : 0 ≤ ((ji8) : Int) := of_decide_eq_true (by first | (with_reducible assumption) | assumption)
                  have q11 : (ji8) < (50 : Int) := of_decide_eq_true (by first | (with_reducible assumption) | assumption)
                  have hx11 := bt_at (⟨#[49, 51, 112, 112, 112, 49, 50, 45, 45, 45, 49, 51, 49, 51, 52, 49, 50, 49, 50, 52, 50, 52, 50, 52, 52, 45, 45, 45, 45, 52, 99, 99, 99, 99, 52, 51, 52, 51, 52, 52, 100, 100, 100, 100, 52, 45, 45, 45, 45, 45]⟩ : ByteArray) (ji8)
                  replace p11 := eq_true p11
                  replace q11 := eq_true q11
                  go_wp2
                  go_ret3
                  exact ⟨by first | rfl | (simp; done) | (simp only [← hji8] <;> (first | rfl | simp)) | (simp [*]; done), by repeat (first | exact Drawn0.refl _ | apply Drawn0.step)⟩
                · rw [if_neg c14] at H
                  have c14b0 : ((bt (⟨#[49, 51, 112, 112, 112, 49, 50, 45, 45, 45, 49, 51, 49, 51, 52, 49, 50, 49, 50, 52, 50, 52, 50, 52, 52, 45, 45, 45, 45, 52, 99, 99, 99, 99, 52, 51, 52, 51, 52, 52, 100, 100, 100, 100, 52, 45, 45, 45, 45, 45]⟩ : ByteArray) (ji8)) == 100) = false := beq_eq_false_iff_ne.mpr c14
                  have c14b1 : ((bt (⟨#[49, 51, 112, 112, 112, 49, 50, 45, 45, 45, 49, 51, 49, 51, 52, 49, 50, 49, 50, 52, 50, 52, 50, 52, 52, 45, 45, 45, 45, 52, 99, 99, 99, 99, 52, 51, 52, 51, 52, 52, 100, 100, 100, 100, 52, 45, 45, 45, 45, 45]⟩ : ByteArray) (ji8)) != 100) = true := bne_iff_ne.mpr c14
                  by_cases c15 : (bt (⟨#[49, 51, 112, 112, 112, 49, 50, 45, 45, 45, 49, 51, 49, 51, 52, 49, 50, 49, 50, 52, 50, 52, 50, 52, 52, 45, 45, 45, 45, 52, 99, 99, 99, 99, 52, 51, 52, 51, 52, 52, 100, 100, 100, 100, 52, 45, 45, 45, 45, 45]⟩ : ByteArray) (ji8)) = 45
                  · rw [if_pos c15] at H
                    have c15b0 : ((bt (⟨#[49, 51, 112, 112, 112, 49, 50, 45, 45, 45, 49, 51, 49, 51, 52, 49, 50, 49, 50, 52, 50, 52, 50, 52, 52, 45, 45, 45, 45, 52, 99, 99, 99, 99, 52, 51, 52, 51, 52, 52, 100, 100, 100, 100, 52, 45, 45, 45, 45, 45]⟩ : ByteArray) (ji8)) == 45) = true := beq_iff_eq.mpr c15
                    have c15b1 : ((bt (⟨#[49, 51, 112, 112, 112, 49, 50, 45, 45, 45, 49, 51, 49, 51, 52, 49, 50, 49, 50, 52, 50, 52, 50, 52, 52, 45, 45, 45, 45, 52, 99, 99, 99, 99, 52, 51, 52, 51, 52, 52, 100, 100, 100, 100, 52, 45, 45, 45, 45, 45]⟩ : ByteArray) (ji8)) != 45) = false := bne_eq_false_iff_eq.mpr c15
                    clear c15
                    simp only [Option.some.injEq, Prod.mk.injEq] at H
                    obtain ⟨rfl, rfl, rfl⟩ := H
                    have p11 : 0 ≤ ((ji8) : Int) := of_decide_eq_true (by first | (with_reducible assumption) | assumption)
                    have q11 : (ji8) < (50 : Int) := of_decide_eq_true (by first | (with_reducible assumption) | assumption)
                    have hx11 := bt_at (⟨#[49, 51, 112, 112, 112, 49, 50, 45, 45, 45, 49, 51, 49, 51, 52, 49, 50, 49, 50, 52, 50, 52, 50, 52, 52, 45, 45, 45, 45, 52, 99, 99, 99, 99, 52, 51, 52, 51, 52, 52, 100, 100, 100, 100, 52, 45, 45, 45, 45, 45]⟩ : ByteArray) (ji8)
                    replace p11 := eq_true p11
                    replace q11 := eq_true q11
                    go_wp2
                    go_ret3
                    exact ⟨by first | rfl | (simp; done) | (simp only [← hji8] <;> (first | rfl | simp)) | (simp [*]; done), by repeat (first | exact Drawn0.refl _ | apply Drawn0.step)⟩
                  · rw [if_neg c15] at H
                    have c15b0 : ((bt (⟨#[49, 51, 112, 112, 112, 49, 50, 45, 45, 45, 49, 51, 49, 51, 52, 49, 50, 49, 50, 52, 50, 52, 50, 52, 52, 45, 45, 45, 45, 52, 99, 99, 99, 99, 52, 51, 52, 51, 52, 52, 100, 100, 100, 100, 52, 45, 45, 45, 45, 45]⟩ : ByteArray) (ji8)) == 45) = false := beq_eq_false_iff_ne.mpr c15
                    have c15b1 : ((bt (⟨#[49, 51, 112, 112, 112, 49, 50, 45, 45, 45, 49, 51, 49, 51, 52, 49, 50, 49, 50, 52, 50, 52, 50, 52, 52, 45, 45, 45, 45, 52, 99, 99, 99, 99, 52, 51, 52, 51, 52, 52, 100, 100, 100, 100, 52, 45, 45, 45, 45, 45]⟩ : ByteArray) (ji8)) != 45) = true := bne_iff_ne.mpr c15
                    simp only [Option.some.injEq, Prod.mk.injEq] at H
                    obtain ⟨rfl, rfl, rfl⟩ := H
                    have p11 : 0 ≤ ((ji8) : Int) := of_decide_eq_true (by first | (with_reducible assumption) | assumption)
                    have q11 : (ji8) < (50 : Int) := of_decide_eq_true (by first | (with_reducible assumption) | assumption)
                    have hx11 := bt_at (⟨#[49, 51, 112, 112, 112, 49, 50, 45, 45, 45, 49, 51, 49, 51, 52, 49, 50, 49, 50, 52, 50, 52, 50, 52, 52, 45, 45, 45, 45, 52, 99, 99, 99, 99, 52, 51, 52, 51, 52, 52, 100, 100, 100, 100, 52, 45, 45, 45, 45, 45]⟩ : ByteArray) (ji8)
                    replace p11 := eq_true p11
                    replace q11 := eq_true q11
                    go_wp2
                    go_ret3
                    exact ⟨by first | rfl | (simp; done) | (simp only [← hji8] <;> (first | rfl | simp)) | (simp [*]; done), by repeat (first | exact Drawn0.refl _ | apply Drawn0.step)⟩
          · rw [if_neg c10] at H
            exact absurd H (by simp)
        · rw [if_neg c9] at H
          exact absurd H (by simp)

/-! ### stream_Mirror: function 12 -/
def stream_Mirror.f (a0 : Int) : Option (Int) := if a0 = 2 then (some 3) else (if a0 = 3 then (some 2) else (some a0))
set_option maxHeartbeats 8000000 in
set_option maxRecDepth 100000 in
theorem stream_Mirror.calls (a0 : Int) (r : Int) (w : World) (h : stream_Mirror.f a0 = some r) :
    Calls Try.prog 12 #[.int .i64 a0] w fun e w' => e = .returned (.int .i64 r) ∧ Drawn0 w w' := by
  have H : (if a0 = 2 then (some 3) else (if a0 = 3 then (some 2) else (some a0))) = some r := h
  clear h
  by_cases c2 : a0 = 2
  · rw [if_pos c2] at H
    have c2b0 : (a0 == 2) = true := beq_iff_eq.mpr c2
    have c2b1 : (a0 != 2) = false := bne_eq_false_iff_eq.mpr c2
    clear c2
    obtain rfl := Option.some.inj H
    go_enter Try.func12, Try.ntmps12
    go_wp2
    go_ret
    exact ⟨by first | rfl | (simp; done) | (simp [*]; done), by repeat (first | exact Drawn0.refl _ | apply Drawn0.step)⟩
  · rw [if_neg c2] at H
    have c2b0 : (a0 == 2) = false := beq_eq_false_iff_ne.mpr c2
    have c2b1 : (a0 != 2) = true := bne_iff_ne.mpr c2
    by_cases c3 : a0 = 3
    · rw [if_pos c3] at H
      have c3b0 : (a0 == 3) = true := beq_iff_eq.mpr c3
      have c3b1 : (a0 != 3) = false := bne_eq_false_iff_eq.mpr c3
      clear c3
      obtain rfl := Option.some.inj H
      go_enter Try.func12, Try.ntmps12
      go_wp2
      go_ret
      exact ⟨by first | rfl | (simp; done) | (simp [*]; done), by repeat (first | exact Drawn0.refl _ | apply Drawn0.step)⟩
    · rw [if_neg c3] at H
      have c3b0 : (a0 == 3) = false := beq_eq_false_iff_ne.mpr c3
      have c3b1 : (a0 != 3) = true := bne_iff_ne.mpr c3
      obtain rfl := Option.some.inj H
      go_enter Try.func12, Try.ntmps12
      go_wp2
      go_ret
      exact ⟨by first | rfl | (simp; done) | (simp [*]; done), by repeat (first | exact Drawn0.refl _ | apply Drawn0.step)⟩

/-! ### stream_Over: function 14 -/
def stream_Over.f (a0 : Int) : Option (Int) := if a0 < 6 then (some 0) else (if a0 > 10 then (some 0) else (some (wrap64 ((wrap64 (a0 - 6)) + 1))))
set_option maxHeartbeats 8000000 in
set_option maxRecDepth 100000 in
theorem stream_Over.calls (a0 : Int) (r : Int) (w : World) (h : stream_Over.f a0 = some r) :
    Calls Try.prog 14 #[.int .i64 a0] w fun e w' => e = .returned (.int .i64 r) ∧ Drawn0 w w' := by
  have H : (if a0 < 6 then (some 0) else (if a0 > 10 then (some 0) else (some (wrap64 ((wrap64 (a0 - 6)) + 1))))) = some r := h
  clear h
  by_cases c2 : a0 < 6
  · rw [if_pos c2] at H
    have c2b0 : decide (a0 < 6) = true := decide_eq_true c2
    clear c2
    obtain rfl := Option.some.inj H
    go_enter Try.func14, Try.ntmps14
    go_wp2
    go_ret
    exact ⟨by first | rfl | (simp; done) | (simp [*]; done), by repeat (first | exact Drawn0.refl _ | apply Drawn0.step)⟩
  · rw [if_neg c2] at H
    have c2b0 : decide (a0 < 6) = false := decide_eq_false c2
    clear c2
    by_cases c3 : a0 > 10
    · rw [if_pos c3] at H
      have c3b0 : decide (10 < a0) = true := decide_eq_true c3
      clear c3
      obtain rfl := Option.some.inj H
      go_enter Try.func14, Try.ntmps14
      go_wp2
      go_ret
      exact ⟨by first | rfl | (simp; done) | (simp [*]; done), by repeat (first | exact Drawn0.refl _ | apply Drawn0.step)⟩
    · rw [if_neg c3] at H
      have c3b0 : decide (10 < a0) = false := decide_eq_false c3
      clear c3
      obtain rfl := Option.some.inj H
      go_enter Try.func14, Try.ntmps14
      go_wp2
      go_ret
      exact ⟨by first | rfl | (simp; done) | (simp [*]; done), by repeat (first | exact Drawn0.refl _ | apply Drawn0.step)⟩

/-! ### stream_Run: function 16 -/
def stream_Run.l0 : Nat → Int → List Int → List Int → Int → Int → Option (Int × Int)
  | 0, _, _, _, _, _ => none
  | k + 1, x0, x1, x11, x12, x13 => if x13 < x12 then (if 0 ≤ x13 then (if x13 < (x11.length : Int) then ((stream_Next.f k x0 (rd x11 x13)).bind fun bt102 => (if bt102.2.1 = 0 then (stream_Run.l0 k bt102.1 x1 x11 x12 (wrap64 (x13 + 1))) else (some (x0, x13)))) else (none)) else (none)) else (some (x0, (x1.length : Int)))
def stream_Run.f (k : Nat) (a0 : Int) (l1 : List Int) : Option (Int × Int) := stream_Run.l0 k a0 l1 l1 (l1.length : Int) 0
theorem stream_Run.mono_l : ∀ k, (∀ y0 y1 y2 y3 y4, LeO (stream_Run.l0 k y0 y1 y2 y3 y4) (stream_Run.l0 (k + 1) y0 y1 y2 y3 y4))
  | 0 => fun _ _ _ _ _ r h => by simp [stream_Run.l0] at h
  | k + 1 => by
    have ih0 := stream_Run.mono_l k
    · intro y0 y1 y2 y3 y4
      unfold stream_Run.l0
      repeat' first
      | (with_reducible exact ih0 _ _ _ _ _)
      | (with_reducible exact stream_Next.mono _ _ _)
      | (with_reducible exact LeO.refl _)
      | (with_reducible exact LeO.none _)
      | (with_reducible refine LeO.ite ?_ ?_)
      | (with_reducible refine LeO.bind ?_ (fun _ => ?_))
      | exact ih0 _ _ _ _ _
      | exact stream_Next.mono _ _ _
      | exact LeO.none _
      | refine LeO.ite ?_ ?_
      | refine LeO.bind ?_ (fun _ => ?_)
theorem stream_Run.mono : ∀ a0 a1 k, LeO (stream_Run.f k a0 a1) (stream_Run.f (k + 1) a0 a1) := by
  intro a0 a1 k
  have ih0 := stream_Run.mono_l k
  unfold stream_Run.f
  repeat' first
      | (with_reducible exact ih0 _ _ _ _ _)
      | (with_reducible exact stream_Next.mono _ _ _)
      | (with_reducible exact LeO.refl _)
      | (with_reducible exact LeO.none _)
      | (with_reducible refine LeO.ite ?_ ?_)
      | (with_reducible refine LeO.bind ?_ (fun _ => ?_))
      | exact ih0 _ _ _ _ _
      | exact stream_Next.mono _ _ _
      | exact LeO.none _
      | refine LeO.ite ?_ ?_
      | refine LeO.bind ?_ (fun _ => ?_)
set_option maxHeartbeats 8000000 in
set_option maxRecDepth 100000 in
theorem stream_Run.calls (k : Nat) (a0 : Int) (A1 : Option Addr) (c1 : Nat) (l1 : List Int) (r1 : Int) (r2 : Int) (w : World) (hr1 : Kd.C (Kd.int .i64) w A1 l1.length l1) (hc1 : l1.length ≤ c1) (h : stream_Run.f k a0 l1 = some (r1, r2)) :
    Calls Try.prog 16 #[.int .i64 a0, .slice A1 l1.length c1] w fun e w' => e = .returned (.tuple #[.int .i64 r1, .int .i64 r2]) ∧ Drawn0 w w' := by
  have HR1 := Aside0.mk hr1
  have HC1 := Aside0.mk hc1
  clear hr1 hc1
  have H : (stream_Run.l0 k a0 l1 l1 (l1.length : Int) 0) = some (r1, r2) := h
  clear h
  have H' := Aside0.mk H
  clear H
  go_enter Try.func16, Try.ntmps16
  go_wp2
  go_loopg [0, 13] k (fun kq v0 v13 w' => ∃ (x0_1 : Int) (x13_1 : Int), v0 = .int .i64 x0_1 ∧ v13 = .int .i64 x13_1 ∧ Aside0 (stream_Run.l0 kq x0_1 l1 l1 (l1.length : Int) x13_1 = some (r1, r2)) ∧ Aside0 (kq ≤ k) ∧ Drawn0 w w')
  case atStart => exact ⟨(a0), (0), (by first | rfl | (simp; done) | (simp [*]; done)), (by first | rfl | (simp; done) | (simp [*]; done)), H', ⟨Nat.le_refl _⟩, by repeat (first | exact Drawn0.refl _ | apply Drawn0.step)⟩
  case round =>
    clear H'
    try clear c1
    try clear p2
    obtain ⟨x0_1, x13_1, rfl, rfl, HA, HK1, ⟨m1, rfl⟩⟩ := hrel
    cases gk with
    | zero => exact absurd HA.out (by simp [stream_Run.l0])
    | succ k1 =>
      have H := HA.out
      clear HA
      simp only [stream_Run.l0] at H
      by_cases c3 : x13_1 < (l1.length : Int)
      · rw [if_pos c3] at H
        have c3b0 : decide (x13_1 < (l1.length : Int)) = true := decide_eq_true c3
        clear c3
        by_cases c4 : 0 ≤ x13_1
        · rw [if_pos c4] at H
          have c4b0 : decide (0 ≤ x13_1) = true := decide_eq_true c4
          clear c4
          by_cases c5 : x13_1 < (l1.length : Int)
          · rw [if_pos c5] at H
            have c5b0 : decide (x13_1 < (l1.length : Int)) = true := decide_eq_true c5
            clear c5
            replace H := Option.bind_eq_some_iff.mp H
            obtain ⟨⟨t102, t103, t104⟩, A60, H⟩ := H
            replace H : (if t103 = 0 then (stream_Run.l0 k1 t102 l1 l1 (l1.length : Int) (wrap64 (x13_1 + 1))) else (some (x0_1, x13_1))) = some (r1, r2) := H
            have A6 := Aside0.mk A60
            clear A60
            by_cases c7 : t103 = 0
            · rw [if_pos c7] at H
              have c7b0 : (t103 == 0) = true := beq_iff_eq.mpr c7
              have c7b1 : (t103 != 0) = false := bne_eq_false_iff_eq.mpr c7
              clear c7
              have H' := Aside0.mk H
              clear H
              have p101 : 0 ≤ (x13_1 : Int) := of_decide_eq_true (by first | (with_reducible assumption) | assumption)
              have q101 : x13_1 < (l1.length : Int) := of_decide_eq_true (by first | (with_reducible assumption) | assumption)
              obtain ⟨ad101, e101, hx101_0⟩ := Kd.at_int HR1.out x13_1 p101 q101
              cases e101
              replace p101 := eq_true p101
              replace q101 := eq_true q101
              go_wp2_with (first | ((with_reducible refine gate_callee (f := 10) rfl ?_); refine goesL_ (some 21) rfl rfl Try.func10 (by kernel_rfl) rfl #[.int .i64 x0_1, .int .i64 (rd l1 x13_1)] rfl (by (try simp only [List.map_toArray, List.map_cons, List.map_nil]); first | done | rfl | (simp only [List.length_drop, List.length_take]; rfl)) ?_; (with_reducible refine (stream_Next.calls k1 x0_1 (rd l1 x13_1) t102 t103 t104 _ A6.out).mono ?_); rintro e w' ⟨rfl, ⟨nd, rfl⟩⟩; refine ⟨_, rfl, ?_⟩))
              go_roundg k1
              case measure => have := HK1.out; omega
              case rel => exact ⟨(t102), (wrap64 (x13_1 + 1)), (by first | rfl | (simp; done) | (simp [*]; done)), (by first | rfl | (simp; done) | (simp [*]; done)), H', ⟨by have := HK1.out; omega⟩, by repeat (first | exact Drawn0.refl _ | apply Drawn0.step)⟩
            · rw [if_neg c7] at H
              have c7b0 : (t103 == 0) = false := beq_eq_false_iff_ne.mpr c7
              have c7b1 : (t103 != 0) = true := bne_iff_ne.mpr c7
              simp only [Option.some.injEq, Prod.mk.injEq] at H
              obtain ⟨rfl, rfl⟩ := H
              have p101 : 0 ≤ (x13_1 : Int) := of_decide_eq_true (by first | (with_reducible assumption) | assumption)
              have q101 : x13_1 < (l1.length : Int) := of_decide_eq_true (by first | (with_reducible assumption) | assumption)
              obtain ⟨ad101, e101, hx101_0⟩ := Kd.at_int HR1.out x13_1 p101 q101
              cases e101
              replace p101 := eq_true p101
              replace q101 := eq_true q101
              go_wp2_with (first | ((with_reducible refine gate_callee (f := 10) rfl ?_); refine goesL_ (some 21) rfl rfl Try.func10 (by kernel_rfl) rfl #[.int .i64 x0_1, .int .i64 (rd l1 x13_1)] rfl (by (try simp only [List.map_toArray, List.map_cons, List.map_nil]); first | done | rfl | (simp only [List.length_drop, List.length_take]; rfl)) ?_; (with_reducible refine (stream_Next.calls k1 x0_1 (rd l1 x13_1) t102 t103 t104 _ A6.out).mono ?_); rintro e w' ⟨rfl, ⟨nd, rfl⟩⟩; refine ⟨_, rfl, ?_⟩))
              go_ret2
              exact ⟨by first | rfl | (simp; done) | (simp [*]; done), by repeat (first | exact Drawn0.refl _ | apply Drawn0.step)⟩
          · rw [if_neg c5] at H
            exact absurd H (by simp)
        · rw [if_neg c4] at H
          exact absurd H (by simp)
      · rw [if_neg c3] at H
        have c3b0 : decide (x13_1 < (l1.length : Int)) = false := decide_eq_false c3
        clear c3
        simp only [Option.some.injEq, Prod.mk.injEq] at H
        obtain ⟨rfl, rfl⟩ := H
        go_wp2
        go_ret2
        exact ⟨by first | rfl | (simp; done) | (simp [*]; done), by repeat (first | exact Drawn0.refl _ | apply Drawn0.step)⟩

/-! ### nunciolaw18_awake: function 9 -/
def nunciolaw18_awake.f (k : Nat)  : Option (Bool) := (stream_Run.f k 0 (([2, 6, 9] : List Int))).bind fun bt108 => ((stream_Next.f k 0 3).bind fun bt110 => (if bt108.1 = 4 then (if bt108.2 = 3 then (if bt110.2.1 = 2 then (if bt110.2.2 = 1 then ((stream_Mirror.f 2).bind fun t113 => (if t113 = 3 then ((stream_Over.f 8).bind fun t114 => (some (t114 == 3))) else (some false))) else (some false)) else (some false)) else (some false)) else (some false)))
theorem nunciolaw18_awake.mono : ∀ k, LeO (nunciolaw18_awake.f k ) (nunciolaw18_awake.f (k + 1) ) := by
  intro  k
  unfold nunciolaw18_awake.f
  repeat' first
      | (with_reducible exact stream_Next.mono _ _ _)
      | (with_reducible exact stream_Run.mono _ _ _)
      | (with_reducible exact LeO.refl _)
      | (with_reducible exact LeO.none _)
      | (with_reducible refine LeO.ite ?_ ?_)
      | (with_reducible refine LeO.bind ?_ (fun _ => ?_))
      | exact stream_Next.mono _ _ _
      | exact stream_Run.mono _ _ _
      | exact LeO.none _
      | refine LeO.ite ?_ ?_
      | refine LeO.bind ?_ (fun _ => ?_)
set_option maxHeartbeats 8000000 in
set_option maxRecDepth 100000 in
theorem nunciolaw18_awake.calls (k : Nat)  (r : Bool) (w : World) (h : nunciolaw18_awake.f k  = some r) :
    Calls Try.prog 9 #[] w fun e w' => e = .returned (.bool r) ∧ Below w.heap.size w w' := by
  have HB := Aside0.mk (Below.refl w.heap.size w)
  have H : ((stream_Run.f k 0 (([2, 6, 9] : List Int))).bind fun bt108 => ((stream_Next.f k 0 3).bind fun bt110 => (if bt108.1 = 4 then (if bt108.2 = 3 then (if bt110.2.1 = 2 then (if bt110.2.2 = 1 then ((stream_Mirror.f 2).bind fun t113 => (if t113 = 3 then ((stream_Over.f 8).bind fun t114 => (some (t114 == 3))) else (some false))) else (some false)) else (some false)) else (some false)) else (some false)))) = some r := h
  clear h
  obtain ⟨y105, hy105⟩ : ∃ y_ : List Int, y_ = (([2, 6, 9] : List Int)) := ⟨_, rfl⟩
  replace H : ((stream_Run.f k 0 y105).bind fun bt108 => ((stream_Next.f k 0 3).bind fun bt110 => (if bt108.1 = 4 then (if bt108.2 = 3 then (if bt110.2.1 = 2 then (if bt110.2.2 = 1 then ((stream_Mirror.f 2).bind fun t113 => (if t113 = 3 then ((stream_Over.f 8).bind fun t114 => (some (t114 == 3))) else (some false))) else (some false)) else (some false)) else (some false)) else (some false)))) = some r := by first | (rw [hy105]; with_reducible exact H) | (have H2_ := (Option.bind_some _ _).symm.trans H; rw [hy105]; with_reducible exact H2_) | (have H2_ := (Option.bind_some _ _).symm.trans H; with_reducible exact H2_) | with_reducible exact H | (rw [hy105]; exact H) | exact H
  have Ny105 := Aside0.mk hy105
  clear hy105
  replace H := Option.bind_eq_some_iff.mp H
  obtain ⟨⟨t108, t109⟩, A10, H⟩ := H
  replace H : ((stream_Next.f k 0 3).bind fun bt110 => (if t108 = 4 then (if t109 = 3 then (if bt110.2.1 = 2 then (if bt110.2.2 = 1 then ((stream_Mirror.f 2).bind fun t113 => (if t113 = 3 then ((stream_Over.f 8).bind fun t114 => (some (t114 == 3))) else (some false))) else (some false)) else (some false)) else (some false)) else (some false))) = some r := H
  have A1 := Aside0.mk A10
  clear A10
  replace H := Option.bind_eq_some_iff.mp H
  obtain ⟨⟨t110, t111, t112⟩, A20, H⟩ := H
  replace H : (if t108 = 4 then (if t109 = 3 then (if t111 = 2 then (if t112 = 1 then ((stream_Mirror.f 2).bind fun t113 => (if t113 = 3 then ((stream_Over.f 8).bind fun t114 => (some (t114 == 3))) else (some false))) else (some false)) else (some false)) else (some false)) else (some false)) = some r := H
  have A2 := Aside0.mk A20
  clear A20
  by_cases c3 : t108 = 4
  · rw [if_pos c3] at H
    have c3b0 : (t108 == 4) = true := beq_iff_eq.mpr c3
    have c3b1 : (t108 != 4) = false := bne_eq_false_iff_eq.mpr c3
    clear c3
    by_cases c4 : t109 = 3
    · rw [if_pos c4] at H
      have c4b0 : (t109 == 3) = true := beq_iff_eq.mpr c4
      have c4b1 : (t109 != 3) = false := bne_eq_false_iff_eq.mpr c4
      clear c4
      by_cases c5 : t111 = 2
      · rw [if_pos c5] at H
        have c5b0 : (t111 == 2) = true := beq_iff_eq.mpr c5
        have c5b1 : (t111 != 2) = false := bne_eq_false_iff_eq.mpr c5
        clear c5
        by_cases c6 : t112 = 1
        · rw [if_pos c6] at H
          have c6b0 : (t112 == 1) = true := beq_iff_eq.mpr c6
          have c6b1 : (t112 != 1) = false := bne_eq_false_iff_eq.mpr c6
          clear c6
          replace H := Option.bind_eq_some_iff.mp H
          obtain ⟨t113, A70, H⟩ := H
          replace H : (if t113 = 3 then ((stream_Over.f 8).bind fun t114 => (some (t114 == 3))) else (some false)) = some r := H
          have A7 := Aside0.mk A70
          clear A70
          by_cases c8 : t113 = 3
          · rw [if_pos c8] at H
            have c8b0 : (t113 == 3) = true := beq_iff_eq.mpr c8
            have c8b1 : (t113 != 3) = false := bne_eq_false_iff_eq.mpr c8
            clear c8
            replace H := Option.bind_eq_some_iff.mp H
            obtain ⟨t114, A90, H⟩ := H
            replace H : (some (t114 == 3)) = some r := H
            have A9 := Aside0.mk A90
            clear A90
            obtain rfl := Option.some.inj H
            go_enter Try.func9, Try.ntmps9
            go_wp2_with (first | ((with_reducible refine gate_dst (N := 7) rfl ?_); refine Kd.R_lit (Kd.int .i64) _ 27 ?hg (N := 7) ?hd (xs := ([2, 6, 9] : List Int)) (inner := [.int .i64 2, .int .i64 6, .int .i64 9]) (ok := fun _ => True) (okp := fun _ => True) ?hr ?hp (fun _ hk => hk) trivial (Below.refl _ _) (Nat.le_refl _) (by simp) ?_; (case hd => rfl); (case hg => rfl); (case hr => first | (go_simp; done) | (go_simp; rfl)); (case hp => exact (Reps.one (show Kd.M (Kd.int .i64) _ _ _ 2 [.int .i64 2] from rfl) (Reps.one (show Kd.M (Kd.int .i64) _ _ _ 6 [.int .i64 6] from rfl) (Reps.one (show Kd.M (Kd.int .i64) _ _ _ 9 [.int .i64 9] from rfl) (Reps.none _ _))))); intro v106 w10 ho11 hb hg_ hnew_; clear hg_ hnew_; (first | rw [← Ny105.out] at ho11 | (simp only [Int.reduceToNat] at ho11; rw [← Ny105.out] at ho11)); have n0_ := Aside0.mk (Kd.R_lower ho11 (below_size (by repeat (first | (with_reducible first | exact HB.out | apply below_alloc | apply pw_below_drewN | apply below_drew1) | exact HB.out)))); have n1_ := Aside0.mk (below_step (by repeat (first | (with_reducible first | exact HB.out | apply below_alloc | apply pw_below_drewN | apply below_drew1) | exact HB.out)) hb); clear HB; have HO107 := n0_; have HB := n1_; clear n0_ n1_; clear hb ho11; obtain ⟨Ao12, co12, eo12⟩ := Kd.R_slice HO107.out; subst eo12) | ((with_reducible refine gate_callee (f := 16) rfl ?_); refine goesL_ (some 8) rfl rfl Try.func16 (by kernel_rfl) rfl #[.int .i64 0, .slice Ao12 y105.length co12] rfl (by (try simp only [List.map_toArray, List.map_cons, List.map_nil]); first | done | rfl | (simp only [List.length_drop, List.length_take]; rfl)) ?_; (with_reducible refine (stream_Run.calls k 0 _ _ y105 t108 t109 _ ?side1 ?side2 A1.out).mono ?_); (case side1 => repeat (first | exact (Kd.R_reads' HO107.out).2.2 | (with_reducible refine Kd.C_alloc ?_ _) | (with_reducible refine Kd.C_drewN ?_ _) | (with_reducible refine Kd.C_drew ?_))); (case side2 => exact (Kd.R_reads' HO107.out).2.1); rintro e w' ⟨rfl, ⟨nd, rfl⟩⟩; refine ⟨_, rfl, ?_⟩) | ((with_reducible refine gate_callee (f := 10) rfl ?_); refine goesL_ (some 12) rfl rfl Try.func10 (by kernel_rfl) rfl #[.int .i64 0, .int .i64 3] rfl (by (try simp only [List.map_toArray, List.map_cons, List.map_nil]); first | done | rfl | (simp only [List.length_drop, List.length_take]; rfl)) ?_; (with_reducible refine (stream_Next.calls k 0 3 t110 t111 t112 _ A2.out).mono ?_); rintro e w' ⟨rfl, ⟨nd, rfl⟩⟩; refine ⟨_, rfl, ?_⟩) | (go_at_call 12; (with_reducible refine (stream_Mirror.calls 2 t113 _ A7.out).mono ?_); rintro e w' ⟨rfl, ⟨nd, rfl⟩⟩) | (go_at_call 14; (with_reducible refine (stream_Over.calls 8 t114 _ A9.out).mono ?_); rintro e w' ⟨rfl, ⟨nd, rfl⟩⟩))
            go_ret
            exact ⟨by first | rfl | (simp [errW_none, errW_some] <;> rfl) | (simp [*, errW_none, errW_some] <;> rfl), by repeat (first | (with_reducible first | exact HB.out | apply below_alloc | apply pw_below_drewN | apply below_drew1) | exact HB.out)⟩
          · rw [if_neg c8] at H
            have c8b0 : (t113 == 3) = false := beq_eq_false_iff_ne.mpr c8
            have c8b1 : (t113 != 3) = true := bne_iff_ne.mpr c8
            obtain rfl := Option.some.inj H
            go_enter Try.func9, Try.ntmps9
            go_wp2_with (first | ((with_reducible refine gate_dst (N := 7) rfl ?_); refine Kd.R_lit (Kd.int .i64) _ 27 ?hg (N := 7) ?hd (xs := ([2, 6, 9] : List Int)) (inner := [.int .i64 2, .int .i64 6, .int .i64 9]) (ok := fun _ => True) (okp := fun _ => True) ?hr ?hp (fun _ hk => hk) trivial (Below.refl _ _) (Nat.le_refl _) (by simp) ?_; (case hd => rfl); (case hg => rfl); (case hr => first | (go_simp; done) | (go_simp; rfl)); (case hp => exact (Reps.one (show Kd.M (Kd.int .i64) _ _ _ 2 [.int .i64 2] from rfl) (Reps.one (show Kd.M (Kd.int .i64) _ _ _ 6 [.int .i64 6] from rfl) (Reps.one (show Kd.M (Kd.int .i64) _ _ _ 9 [.int .i64 9] from rfl) (Reps.none _ _))))); intro v106 w13 ho14 hb hg_ hnew_; clear hg_ hnew_; (first | rw [← Ny105.out] at ho14 | (simp only [Int.reduceToNat] at ho14; rw [← Ny105.out] at ho14)); have n0_ := Aside0.mk (Kd.R_lower ho14 (below_size (by repeat (first | (with_reducible first | exact HB.out | apply below_alloc | apply pw_below_drewN | apply below_drew1) | exact HB.out)))); have n1_ := Aside0.mk (below_step (by repeat (first | (with_reducible first | exact HB.out | apply below_alloc | apply pw_below_drewN | apply below_drew1) | exact HB.out)) hb); clear HB; have HO107 := n0_; have HB := n1_; clear n0_ n1_; clear hb ho14; obtain ⟨Ao15, co15, eo15⟩ := Kd.R_slice HO107.out; subst eo15) | ((with_reducible refine gate_callee (f := 16) rfl ?_); refine goesL_ (some 8) rfl rfl Try.func16 (by kernel_rfl) rfl #[.int .i64 0, .slice Ao15 y105.length co15] rfl (by (try simp only [List.map_toArray, List.map_cons, List.map_nil]); first | done | rfl | (simp only [List.length_drop, List.length_take]; rfl)) ?_; (with_reducible refine (stream_Run.calls k 0 _ _ y105 t108 t109 _ ?side1 ?side2 A1.out).mono ?_); (case side1 => repeat (first | exact (Kd.R_reads' HO107.out).2.2 | (with_reducible refine Kd.C_alloc ?_ _) | (with_reducible refine Kd.C_drewN ?_ _) | (with_reducible refine Kd.C_drew ?_))); (case side2 => exact (Kd.R_reads' HO107.out).2.1); rintro e w' ⟨rfl, ⟨nd, rfl⟩⟩; refine ⟨_, rfl, ?_⟩) | ((with_reducible refine gate_callee (f := 10) rfl ?_); refine goesL_ (some 12) rfl rfl Try.func10 (by kernel_rfl) rfl #[.int .i64 0, .int .i64 3] rfl (by (try simp only [List.map_toArray, List.map_cons, List.map_nil]); first | done | rfl | (simp only [List.length_drop, List.length_take]; rfl)) ?_; (with_reducible refine (stream_Next.calls k 0 3 t110 t111 t112 _ A2.out).mono ?_); rintro e w' ⟨rfl, ⟨nd, rfl⟩⟩; refine ⟨_, rfl, ?_⟩) | (go_at_call 12; (with_reducible refine (stream_Mirror.calls 2 t113 _ A7.out).mono ?_); rintro e w' ⟨rfl, ⟨nd, rfl⟩⟩))
            go_ret
            exact ⟨by first | rfl | (simp [errW_none, errW_some] <;> rfl) | (simp [*, errW_none, errW_some] <;> rfl), by repeat (first | (with_reducible first | exact HB.out | apply below_alloc | apply pw_below_drewN | apply below_drew1) | exact HB.out)⟩
        · rw [if_neg c6] at H
          have c6b0 : (t112 == 1) = false := beq_eq_false_iff_ne.mpr c6
          have c6b1 : (t112 != 1) = true := bne_iff_ne.mpr c6
          obtain rfl := Option.some.inj H
          go_enter Try.func9, Try.ntmps9
          go_wp2_with (first | ((with_reducible refine gate_dst (N := 7) rfl ?_); refine Kd.R_lit (Kd.int .i64) _ 27 ?hg (N := 7) ?hd (xs := ([2, 6, 9] : List Int)) (inner := [.int .i64 2, .int .i64 6, .int .i64 9]) (ok := fun _ => True) (okp := fun _ => True) ?hr ?hp (fun _ hk => hk) trivial (Below.refl _ _) (Nat.le_refl _) (by simp) ?_; (case hd => rfl); (case hg => rfl); (case hr => first | (go_simp; done) | (go_simp; rfl)); (case hp => exact (Reps.one (show Kd.M (Kd.int .i64) _ _ _ 2 [.int .i64 2] from rfl) (Reps.one (show Kd.M (Kd.int .i64) _ _ _ 6 [.int .i64 6] from rfl) (Reps.one (show Kd.M (Kd.int .i64) _ _ _ 9 [.int .i64 9] from rfl) (Reps.none _ _))))); intro v106 w16 ho17 hb hg_ hnew_; clear hg_ hnew_; (first | rw [← Ny105.out] at ho17 | (simp only [Int.reduceToNat] at ho17; rw [← Ny105.out] at ho17)); have n0_ := Aside0.mk (Kd.R_lower ho17 (below_size (by repeat (first | (with_reducible first | exact HB.out | apply below_alloc | apply pw_below_drewN | apply below_drew1) | exact HB.out)))); have n1_ := Aside0.mk (below_step (by repeat (first | (with_reducible first | exact HB.out | apply below_alloc | apply pw_below_drewN | apply below_drew1) | exact HB.out)) hb); clear HB; have HO107 := n0_; have HB := n1_; clear n0_ n1_; clear hb ho17; obtain ⟨Ao18, co18, eo18⟩ := Kd.R_slice HO107.out; subst eo18) | ((with_reducible refine gate_callee (f := 16) rfl ?_); refine goesL_ (some 8) rfl rfl Try.func16 (by kernel_rfl) rfl #[.int .i64 0, .slice Ao18 y105.length co18] rfl (by (try simp only [List.map_toArray, List.map_cons, List.map_nil]); first | done | rfl | (simp only [List.length_drop, List.length_take]; rfl)) ?_; (with_reducible refine (stream_Run.calls k 0 _ _ y105 t108 t109 _ ?side1 ?side2 A1.out).mono ?_); (case side1 => repeat (first | exact (Kd.R_reads' HO107.out).2.2 | (with_reducible refine Kd.C_alloc ?_ _) | (with_reducible refine Kd.C_drewN ?_ _) | (with_reducible refine Kd.C_drew ?_))); (case side2 => exact (Kd.R_reads' HO107.out).2.1); rintro e w' ⟨rfl, ⟨nd, rfl⟩⟩; refine ⟨_, rfl, ?_⟩) | ((with_reducible refine gate_callee (f := 10) rfl ?_); refine goesL_ (some 12) rfl rfl Try.func10 (by kernel_rfl) rfl #[.int .i64 0, .int .i64 3] rfl (by (try simp only [List.map_toArray, List.map_cons, List.map_nil]); first | done | rfl | (simp only [List.length_drop, List.length_take]; rfl)) ?_; (with_reducible refine (stream_Next.calls k 0 3 t110 t111 t112 _ A2.out).mono ?_); rintro e w' ⟨rfl, ⟨nd, rfl⟩⟩; refine ⟨_, rfl, ?_⟩))
          go_ret
          exact ⟨by first | rfl | (simp [errW_none, errW_some] <;> rfl) | (simp [*, errW_none, errW_some] <;> rfl), by repeat (first | (with_reducible first | exact HB.out | apply below_alloc | apply pw_below_drewN | apply below_drew1) | exact HB.out)⟩
      · rw [if_neg c5] at H
        have c5b0 : (t111 == 2) = false := beq_eq_false_iff_ne.mpr c5
        have c5b1 : (t111 != 2) = true := bne_iff_ne.mpr c5
        obtain rfl := Option.some.inj H
        go_enter Try.func9, Try.ntmps9
        go_wp2_with (first | ((with_reducible refine gate_dst (N := 7) rfl ?_); refine Kd.R_lit (Kd.int .i64) _ 27 ?hg (N := 7) ?hd (xs := ([2, 6, 9] : List Int)) (inner := [.int .i64 2, .int .i64 6, .int .i64 9]) (ok := fun _ => True) (okp := fun _ => True) ?hr ?hp (fun _ hk => hk) trivial (Below.refl _ _) (Nat.le_refl _) (by simp) ?_; (case hd => rfl); (case hg => rfl); (case hr => first | (go_simp; done) | (go_simp; rfl)); (case hp => exact (Reps.one (show Kd.M (Kd.int .i64) _ _ _ 2 [.int .i64 2] from rfl) (Reps.one (show Kd.M (Kd.int .i64) _ _ _ 6 [.int .i64 6] from rfl) (Reps.one (show Kd.M (Kd.int .i64) _ _ _ 9 [.int .i64 9] from rfl) (Reps.none _ _))))); intro v106 w19 ho20 hb hg_ hnew_; clear hg_ hnew_; (first | rw [← Ny105.out] at ho20 | (simp only [Int.reduceToNat] at ho20; rw [← Ny105.out] at ho20)); have n0_ := Aside0.mk (Kd.R_lower ho20 (below_size (by repeat (first | (with_reducible first | exact HB.out | apply below_alloc | apply pw_below_drewN | apply below_drew1) | exact HB.out)))); have n1_ := Aside0.mk (below_step (by repeat (first | (with_reducible first | exact HB.out | apply below_alloc | apply pw_below_drewN | apply below_drew1) | exact HB.out)) hb); clear HB; have HO107 := n0_; have HB := n1_; clear n0_ n1_; clear hb ho20; obtain ⟨Ao21, co21, eo21⟩ := Kd.R_slice HO107.out; subst eo21) | ((with_reducible refine gate_callee (f := 16) rfl ?_); refine goesL_ (some 8) rfl rfl Try.func16 (by kernel_rfl) rfl #[.int .i64 0, .slice Ao21 y105.length co21] rfl (by (try simp only [List.map_toArray, List.map_cons, List.map_nil]); first | done | rfl | (simp only [List.length_drop, List.length_take]; rfl)) ?_; (with_reducible refine (stream_Run.calls k 0 _ _ y105 t108 t109 _ ?side1 ?side2 A1.out).mono ?_); (case side1 => repeat (first | exact (Kd.R_reads' HO107.out).2.2 | (with_reducible refine Kd.C_alloc ?_ _) | (with_reducible refine Kd.C_drewN ?_ _) | (with_reducible refine Kd.C_drew ?_))); (case side2 => exact (Kd.R_reads' HO107.out).2.1); rintro e w' ⟨rfl, ⟨nd, rfl⟩⟩; refine ⟨_, rfl, ?_⟩) | ((with_reducible refine gate_callee (f := 10) rfl ?_); refine goesL_ (some 12) rfl rfl Try.func10 (by kernel_rfl) rfl #[.int .i64 0, .int .i64 3] rfl (by (try simp only [List.map_toArray, List.map_cons, List.map_nil]); first | done | rfl | (simp only [List.length_drop, List.length_take]; rfl)) ?_; (with_reducible refine (stream_Next.calls k 0 3 t110 t111 t112 _ A2.out).mono ?_); rintro e w' ⟨rfl, ⟨nd, rfl⟩⟩; refine ⟨_, rfl, ?_⟩))
        go_ret
        exact ⟨by first | rfl | (simp [errW_none, errW_some] <;> rfl) | (simp [*, errW_none, errW_some] <;> rfl), by repeat (first | (with_reducible first | exact HB.out | apply below_alloc | apply pw_below_drewN | apply below_drew1) | exact HB.out)⟩
    · rw [if_neg c4] at H
      have c4b0 : (t109 == 3) = false := beq_eq_false_iff_ne.mpr c4
      have c4b1 : (t109 != 3) = true := bne_iff_ne.mpr c4
      obtain rfl := Option.some.inj H
      go_enter Try.func9, Try.ntmps9
      go_wp2_with (first | ((with_reducible refine gate_dst (N := 7) rfl ?_); refine Kd.R_lit (Kd.int .i64) _ 27 ?hg (N := 7) ?hd (xs := ([2, 6, 9] : List Int)) (inner := [.int .i64 2, .int .i64 6, .int .i64 9]) (ok := fun _ => True) (okp := fun _ => True) ?hr ?hp (fun _ hk => hk) trivial (Below.refl _ _) (Nat.le_refl _) (by simp) ?_; (case hd => rfl); (case hg => rfl); (case hr => first | (go_simp; done) | (go_simp; rfl)); (case hp => exact (Reps.one (show Kd.M (Kd.int .i64) _ _ _ 2 [.int .i64 2] from rfl) (Reps.one (show Kd.M (Kd.int .i64) _ _ _ 6 [.int .i64 6] from rfl) (Reps.one (show Kd.M (Kd.int .i64) _ _ _ 9 [.int .i64 9] from rfl) (Reps.none _ _))))); intro v106 w22 ho23 hb hg_ hnew_; clear hg_ hnew_; (first | rw [← Ny105.out] at ho23 | (simp only [Int.reduceToNat] at ho23; rw [← Ny105.out] at ho23)); have n0_ := Aside0.mk (Kd.R_lower ho23 (below_size (by repeat (first | (with_reducible first | exact HB.out | apply below_alloc | apply pw_below_drewN | apply below_drew1) | exact HB.out)))); have n1_ := Aside0.mk (below_step (by repeat (first | (with_reducible first | exact HB.out | apply below_alloc | apply pw_below_drewN | apply below_drew1) | exact HB.out)) hb); clear HB; have HO107 := n0_; have HB := n1_; clear n0_ n1_; clear hb ho23; obtain ⟨Ao24, co24, eo24⟩ := Kd.R_slice HO107.out; subst eo24) | ((with_reducible refine gate_callee (f := 16) rfl ?_); refine goesL_ (some 8) rfl rfl Try.func16 (by kernel_rfl) rfl #[.int .i64 0, .slice Ao24 y105.length co24] rfl (by (try simp only [List.map_toArray, List.map_cons, List.map_nil]); first | done | rfl | (simp only [List.length_drop, List.length_take]; rfl)) ?_; (with_reducible refine (stream_Run.calls k 0 _ _ y105 t108 t109 _ ?side1 ?side2 A1.out).mono ?_); (case side1 => repeat (first | exact (Kd.R_reads' HO107.out).2.2 | (with_reducible refine Kd.C_alloc ?_ _) | (with_reducible refine Kd.C_drewN ?_ _) | (with_reducible refine Kd.C_drew ?_))); (case side2 => exact (Kd.R_reads' HO107.out).2.1); rintro e w' ⟨rfl, ⟨nd, rfl⟩⟩; refine ⟨_, rfl, ?_⟩) | ((with_reducible refine gate_callee (f := 10) rfl ?_); refine goesL_ (some 12) rfl rfl Try.func10 (by kernel_rfl) rfl #[.int .i64 0, .int .i64 3] rfl (by (try simp only [List.map_toArray, List.map_cons, List.map_nil]); first | done | rfl | (simp only [List.length_drop, List.length_take]; rfl)) ?_; (with_reducible refine (stream_Next.calls k 0 3 t110 t111 t112 _ A2.out).mono ?_); rintro e w' ⟨rfl, ⟨nd, rfl⟩⟩; refine ⟨_, rfl, ?_⟩))
      go_ret
      exact ⟨by first | rfl | (simp [errW_none, errW_some] <;> rfl) | (simp [*, errW_none, errW_some] <;> rfl), by repeat (first | (with_reducible first | exact HB.out | apply below_alloc | apply pw_below_drewN | apply below_drew1) | exact HB.out)⟩
  · rw [if_neg c3] at H
    have c3b0 : (t108 == 4) = false := beq_eq_false_iff_ne.mpr c3
    have c3b1 : (t108 != 4) = true := bne_iff_ne.mpr c3
    obtain rfl := Option.some.inj H
    go_enter Try.func9, Try.ntmps9
    go_wp2_with (first | ((with_reducible refine gate_dst (N := 7) rfl ?_); refine Kd.R_lit (Kd.int .i64) _ 27 ?hg (N := 7) ?hd (xs := ([2, 6, 9] : List Int)) (inner := [.int .i64 2, .int .i64 6, .int .i64 9]) (ok := fun _ => True) (okp := fun _ => True) ?hr ?hp (fun _ hk => hk) trivial (Below.refl _ _) (Nat.le_refl _) (by simp) ?_; (case hd => rfl); (case hg => rfl); (case hr => first | (go_simp; done) | (go_simp; rfl)); (case hp => exact (Reps.one (show Kd.M (Kd.int .i64) _ _ _ 2 [.int .i64 2] from rfl) (Reps.one (show Kd.M (Kd.int .i64) _ _ _ 6 [.int .i64 6] from rfl) (Reps.one (show Kd.M (Kd.int .i64) _ _ _ 9 [.int .i64 9] from rfl) (Reps.none _ _))))); intro v106 w25 ho26 hb hg_ hnew_; clear hg_ hnew_; (first | rw [← Ny105.out] at ho26 | (simp only [Int.reduceToNat] at ho26; rw [← Ny105.out] at ho26)); have n0_ := Aside0.mk (Kd.R_lower ho26 (below_size (by repeat (first | (with_reducible first | exact HB.out | apply below_alloc | apply pw_below_drewN | apply below_drew1) | exact HB.out)))); have n1_ := Aside0.mk (below_step (by repeat (first | (with_reducible first | exact HB.out | apply below_alloc | apply pw_below_drewN | apply below_drew1) | exact HB.out)) hb); clear HB; have HO107 := n0_; have HB := n1_; clear n0_ n1_; clear hb ho26; obtain ⟨Ao27, co27, eo27⟩ := Kd.R_slice HO107.out; subst eo27) | ((with_reducible refine gate_callee (f := 16) rfl ?_); refine goesL_ (some 8) rfl rfl Try.func16 (by kernel_rfl) rfl #[.int .i64 0, .slice Ao27 y105.length co27] rfl (by (try simp only [List.map_toArray, List.map_cons, List.map_nil]); first | done | rfl | (simp only [List.length_drop, List.length_take]; rfl)) ?_; (with_reducible refine (stream_Run.calls k 0 _ _ y105 t108 t109 _ ?side1 ?side2 A1.out).mono ?_); (case side1 => repeat (first | exact (Kd.R_reads' HO107.out).2.2 | (with_reducible refine Kd.C_alloc ?_ _) | (with_reducible refine Kd.C_drewN ?_ _) | (with_reducible refine Kd.C_drew ?_))); (case side2 => exact (Kd.R_reads' HO107.out).2.1); rintro e w' ⟨rfl, ⟨nd, rfl⟩⟩; refine ⟨_, rfl, ?_⟩) | ((with_reducible refine gate_callee (f := 10) rfl ?_); refine goesL_ (some 12) rfl rfl Try.func10 (by kernel_rfl) rfl #[.int .i64 0, .int .i64 3] rfl (by (try simp only [List.map_toArray, List.map_cons, List.map_nil]); first | done | rfl | (simp only [List.length_drop, List.length_take]; rfl)) ?_; (with_reducible refine (stream_Next.calls k 0 3 t110 t111 t112 _ A2.out).mono ?_); rintro e w' ⟨rfl, ⟨nd, rfl⟩⟩; refine ⟨_, rfl, ?_⟩))
    go_ret
    exact ⟨by first | rfl | (simp [errW_none, errW_some] <;> rfl) | (simp [*, errW_none, errW_some] <;> rfl), by repeat (first | (with_reducible first | exact HB.out | apply below_alloc | apply pw_below_drewN | apply below_drew1) | exact HB.out)⟩

/-! ### nuncioref18_first: function 21 -/
def nuncioref18_first.j0 : Nat → Bool → Int → Bool → Option (Int × Int × Int)
  | 0, _, _, _ => none
  | k + 1, x0, x1, x11 => if x11 = true then (some (0, 3, 0)) else (if x1 > 1 then (some (0, 2, 1)) else (if x1 = 0 then (some (1, 0, 0)) else (if x0 = true then (some (2, 0, 0)) else (some (3, 0, 0)))))
def nuncioref18_first.f (k : Nat) (a0 : Bool) (a1 : Int) : Option (Int × Int × Int) := if a1 > 1 then (nuncioref18_first.j0 k a0 a1 a0) else (nuncioref18_first.j0 k a0 a1 false)
theorem nuncioref18_first.mono_l : ∀ k, (∀ y0 y1 y2, LeO (nuncioref18_first.j0 k y0 y1 y2) (nuncioref18_first.j0 (k + 1) y0 y1 y2))
  | 0 => fun _ _ _ r h => by simp [nuncioref18_first.j0] at h
  | k + 1 => by
    have ih0 := nuncioref18_first.mono_l k
    · intro y0 y1 y2
      unfold nuncioref18_first.j0
      repeat' first
      | (with_reducible exact ih0 _ _ _)
      | (with_reducible exact LeO.refl _)
      | (with_reducible exact LeO.none _)
      | (with_reducible refine LeO.ite ?_ ?_)
      | (with_reducible refine LeO.bind ?_ (fun _ => ?_))
      | exact ih0 _ _ _
      | exact LeO.none _
      | refine LeO.ite ?_ ?_
      | refine LeO.bind ?_ (fun _ => ?_)
theorem nuncioref18_first.mono : ∀ a0 a1 k, LeO (nuncioref18_first.f k a0 a1) (nuncioref18_first.f (k + 1) a0 a1) := by
  intro a0 a1 k
  have ih0 := nuncioref18_first.mono_l k
  unfold nuncioref18_first.f
  repeat' first
      | (with_reducible exact ih0 _ _ _)
      | (with_reducible exact LeO.refl _)
      | (with_reducible exact LeO.none _)
      | (with_reducible refine LeO.ite ?_ ?_)
      | (with_reducible refine LeO.bind ?_ (fun _ => ?_))
      | exact ih0 _ _ _
      | exact LeO.none _
      | refine LeO.ite ?_ ?_
      | refine LeO.bind ?_ (fun _ => ?_)
set_option maxHeartbeats 8000000 in
set_option maxRecDepth 100000 in
theorem nuncioref18_first.calls (k : Nat) (a0 : Bool) (a1 : Int) (r1 : Int) (r2 : Int) (r3 : Int) (w : World) (h : nuncioref18_first.f k a0 a1 = some (r1, r2, r3)) :
    Calls Try.prog 21 #[.bool a0, .int .i64 a1] w fun e w' => e = .returned (.tuple #[.int .i64 r1, .int .i64 r2, .int .i64 r3]) ∧ Drawn0 w w' := by
  have H : (if a1 > 1 then (nuncioref18_first.j0 k a0 a1 a0) else (nuncioref18_first.j0 k a0 a1 false)) = some (r1, r2, r3) := h
  clear h
  have HC3 := Aside0.mk H
  clear H
  go_enter Try.func21, Try.ntmps21
  go_upto_region 1 with (fail)
  go_cut [11] (fun v11 wc => ∃ (kq : Nat) (x11_2 : Bool), v11 = .bool x11_2 ∧ Aside0 (nuncioref18_first.j0 kq a0 a1 x11_2 = some (r1, r2, r3)) ∧ Aside0 (kq ≤ k) ∧ Drawn0 w wc)
  case first =>
    have H := HC3.out
    clear HC3
    by_cases c4 : a1 > 1
    · rw [if_pos c4] at H
      have c4b0 : decide (1 < a1) = true := decide_eq_true c4
      clear c4
      (first | rw [c4b0] | (simp only [i64_w, i32_w]; rw [c4b0]) | skip)
      have H' := Aside0.mk H
      clear H
      go_wp2
      go_meet
      case rel => exact ⟨_, (a0), (by first | rfl | (simp; done) | (simp [*]; done)), H', ⟨by first | omega | exact Nat.le_refl _⟩, by repeat (first | exact Drawn0.refl _ | apply Drawn0.step)⟩
    · rw [if_neg c4] at H
      have c4b0 : decide (1 < a1) = false := decide_eq_false c4
      clear c4
      (first | rw [c4b0] | (simp only [i64_w, i32_w]; rw [c4b0]) | skip)
      have H' := Aside0.mk H
      clear H
      go_wp2
      go_meet
      case rel => exact ⟨_, (false), (by first | rfl | (simp; done) | (simp [*]; done)), H', ⟨by first | omega | exact Nat.le_refl _⟩, by repeat (first | exact Drawn0.refl _ | apply Drawn0.step)⟩
  case rest =>
    clear HC3
    try clear c2
    try clear p2
    try clear c4
    try clear c4b0
    obtain ⟨kq, x11_2, rfl, HA, HJ2, ⟨mc2, rfl⟩⟩ := hcut
    cases kq with
    | zero => exact absurd HA.out (by simp [nuncioref18_first.j0])
    | succ kj2 =>
      have H := HA.out
      clear HA
      simp only [nuncioref18_first.j0] at H
      by_cases c5 : x11_2 = true
      · subst c5
        have H1 : (some (0, 3, 0)) = some (r1, r2, r3) := by rw [if_pos rfl] at H; exact H
        clear H
        have H := H1
        clear H1
        simp only [Option.some.injEq, Prod.mk.injEq] at H
        obtain ⟨rfl, rfl, rfl⟩ := H
        go_wp2
        go_ret3
        exact ⟨by first | rfl | (simp; done) | (simp [*]; done), by repeat (first | exact Drawn0.refl _ | apply Drawn0.step)⟩
      · replace c5 := Bool.eq_false_iff.mpr c5
        subst c5
        have H1 : (if a1 > 1 then (some (0, 2, 1)) else (if a1 = 0 then (some (1, 0, 0)) else (if a0 = true then (some (2, 0, 0)) else (some (3, 0, 0))))) = some (r1, r2, r3) := by rw [if_neg (show ¬ (false = true) by decide)] at H; exact H
        clear H
        have H := H1
        clear H1
        by_cases c6 : a1 > 1
        · rw [if_pos c6] at H
          have c6b0 : decide (1 < a1) = true := decide_eq_true c6
          clear c6
          simp only [Option.some.injEq, Prod.mk.injEq] at H
          obtain ⟨rfl, rfl, rfl⟩ := H
          go_wp2
          go_ret3
          exact ⟨by first | rfl | (simp; done) | (simp [*]; done), by repeat (first | exact Drawn0.refl _ | apply Drawn0.step)⟩
        · rw [if_neg c6] at H
          have c6b0 : decide (1 < a1) = false := decide_eq_false c6
          clear c6
          by_cases c7 : a1 = 0
          · rw [if_pos c7] at H
            have c7b0 : (a1 == 0) = true := beq_iff_eq.mpr c7
            have c7b1 : (a1 != 0) = false := bne_eq_false_iff_eq.mpr c7
            clear c7
            simp only [Option.some.injEq, Prod.mk.injEq] at H
            obtain ⟨rfl, rfl, rfl⟩ := H
            go_wp2
            go_ret3
            exact ⟨by first | rfl | (simp; done) | (simp [*]; done), by repeat (first | exact Drawn0.refl _ | apply Drawn0.step)⟩
          · rw [if_neg c7] at H
            have c7b0 : (a1 == 0) = false := beq_eq_false_iff_ne.mpr c7
            have c7b1 : (a1 != 0) = true := bne_iff_ne.mpr c7
            by_cases c8 : a0 = true
            · subst c8
              have H1 : (some (2, 0, 0)) = some (r1, r2, r3) := by rw [if_pos rfl] at H; exact H
              clear H
              have H := H1
              clear H1
              simp only [Option.some.injEq, Prod.mk.injEq] at H
              obtain ⟨rfl, rfl, rfl⟩ := H
              go_wp2
              go_ret3
              exact ⟨by first | rfl | (simp; done) | (simp [*]; done), by repeat (first | exact Drawn0.refl _ | apply Drawn0.step)⟩
            · replace c8 := Bool.eq_false_iff.mpr c8
              subst c8
              have H1 : (some (3, 0, 0)) = some (r1, r2, r3) := by rw [if_neg (show ¬ (false = true) by decide)] at H; exact H
              clear H
              have H := H1
              clear H1
              simp only [Option.some.injEq, Prod.mk.injEq] at H
              obtain ⟨rfl, rfl, rfl⟩ := H
              go_wp2
              go_ret3
              exact ⟨by first | rfl | (simp; done) | (simp [*]; done), by repeat (first | exact Drawn0.refl _ | apply Drawn0.step)⟩

end Go.Proofs.Ytkaijdhnnfldkaa.PStreamNext
