/- The reference's step of a stream, walked: what it answers at every state and step. -/
import Derived.Test.YtkaijdhnnfldkaaPStreamNextx1
import Derived.Lib.Hide
set_option linter.unusedVariables false
set_option linter.unusedSimpArgs false
namespace Go.Proofs.Ytkaijdhnnfldkaa.RefNext
open Go.RowKit Go.Proofs.Ytkaijdhnnfldkaa.PStreamNext Go.Proofs.YtkaijdhnnfldkaaW.PrintWords Go.Proofs.YtkaijdhnnfldkaaW.PrintLast

/-- The table of the five states and ten steps. -/
def tbl : List (Int × Int × Int) := [(1, 0, 0), (3, 0, 0), (0, 2, 1), (0, 2, 1), (0, 2, 1), (1, 0, 0), (2, 0, 0), (0, 3, 0), (0, 3, 0), (0, 3, 0), (1, 0, 0), (3, 0, 0), (1, 0, 0), (3, 0, 0), (4, 0, 0), (1, 0, 0), (2, 0, 0), (1, 0, 0), (2, 0, 0), (4, 0, 0), (2, 0, 0), (4, 0, 0), (2, 0, 0), (4, 0, 0), (4, 0, 0), (2, 3, 0), (2, 3, 0), (2, 3, 0), (2, 3, 0), (4, 0, 0), (3, 1, 5), (3, 1, 5), (3, 1, 5), (3, 1, 5), (4, 0, 0), (3, 0, 0), (4, 0, 0), (3, 0, 0), (4, 0, 0), (4, 0, 0), (4, 2, 5), (4, 2, 5), (4, 2, 5), (4, 2, 5), (4, 0, 0), (4, 3, 0), (4, 3, 0), (4, 3, 0), (4, 3, 0), (4, 3, 0)]

/-- The state behind a step, its scope and its code. -/
def nx (s e : Int) : Int × Int × Int := if 0 ≤ s ∧ s ≤ 4 ∧ 1 ≤ e ∧ e ≤ 10 then tbl.getD (s * 10 + e - 1).toNat (0, 0, 0) else (s, 3, 0)

theorem nx_out (s e : Int) (h : ¬(0 ≤ s ∧ s ≤ 4 ∧ 1 ≤ e ∧ e ≤ 10)) : nx s e = (s, 3, 0) := by
  unfold nx
  rw [if_neg h]

theorem next_out (s e : Int) (h : ¬(0 ≤ s ∧ s ≤ 4 ∧ 1 ≤ e ∧ e ≤ 10)) (k : Nat) : stream_Next.f (k + 1) s e = some (s, 3, 0) := by
  unfold stream_Next.f
  by_cases h1 : s < 0
  · simp only [h1, if_pos, stream_Next.j0]
  · by_cases h2 : s > 4
    · simp only [h1, h2, if_pos, if_neg, stream_Next.j0, not_false_eq_true]
    · by_cases h3 : e < 1
      · simp only [h1, h2, h3, stream_Next.j0, reduceIte]
      · have h4 : e > 10 := by omega
        simp only [h1, h2, h3, h4, decide_true, stream_Next.j0, reduceIte]

theorem five {s : Int} (h0 : 0 ≤ s) (h : s ≤ 4) : s = 0 ∨ s = 1 ∨ s = 2 ∨ s = 3 ∨ s = 4 := by omega
theorem ten {e : Int} (h0 : 1 ≤ e) (h : e ≤ 10) : e = 1 ∨ e = 2 ∨ e = 3 ∨ e = 4 ∨ e = 5 ∨ e = 6 ∨ e = 7 ∨ e = 8 ∨ e = 9 ∨ e = 10 := by omega

theorem all_fifty (P : Int → Int → Prop) (h : ∀ s ∈ ([0, 1, 2, 3, 4] : List Int), ∀ e ∈ ([1, 2, 3, 4, 5, 6, 7, 8, 9, 10] : List Int), P s e) (s e : Int) (h0 : 0 ≤ s) (h1 : s ≤ 4) (h2 : 1 ≤ e) (h3 : e ≤ 10) : P s e := by
  rcases five h0 h1 with rfl | rfl | rfl | rfl | rfl <;> rcases ten h2 h3 with rfl | rfl | rfl | rfl | rfl | rfl | rfl | rfl | rfl | rfl <;> exact h _ (by decide) _ (by decide)

theorem next_one (s e : Int) (k : Nat) : stream_Next.f (k + 1) s e = stream_Next.f 1 s e := by
  unfold stream_Next.f
  simp only [stream_Next.j0]

theorem next_eq (s e : Int) (k : Nat) : stream_Next.f (k + 1) s e = some (nx s e) := by
  by_cases h : 0 ≤ s ∧ s ≤ 4 ∧ 1 ≤ e ∧ e ≤ 10
  · rw [next_one]
    exact all_fifty (fun s e => stream_Next.f 1 s e = some (nx s e)) (by decide +kernel) s e h.1 h.2.1 h.2.2.1 h.2.2.2
  · rw [next_out s e h k, nx_out s e h]

theorem nx_stays (s e : Int) (h0 : 0 ≤ s) (h1 : s ≤ 4) : 0 ≤ (nx s e).1 ∧ (nx s e).1 ≤ 4 := by
  by_cases h : 0 ≤ s ∧ s ≤ 4 ∧ 1 ≤ e ∧ e ≤ 10
  · exact all_fifty (fun s e => 0 ≤ (nx s e).1 ∧ (nx s e).1 ≤ 4) (by decide +kernel) s e h.1 h.2.1 h.2.2.1 h.2.2.2
  · rw [nx_out s e h]; exact ⟨h0, h1⟩

theorem wrap_next {i : Int} {n : Nat} (h0 : 0 ≤ i) (h : i < (n : Int)) (hn : (n : Int) ≤ 2000) : wrap64 (i + 1) = i + 1 := by
  unfold wrap64
  omega

theorem first_at (b : Bool) (j r1 r2 r3 : Int) (w : World) (h : nuncioref18_first.f 2 b j = some (r1, r2, r3)) :
    Calls Try.prog 21 #[.bool b, .int .i64 j] w fun e w' => e = .returned (.tuple #[.int .i64 r1, .int .i64 r2, .int .i64 r3]) ∧ Drawn0 w w' := nuncioref18_first.calls 2 b j r1 r2 r3 w h

/-- What the reference's step comes to, as a claim on a state and a step. -/
def Ref (s e : Int) : Prop := ∀ w : World, Calls Try.prog 11 #[.int .i64 s, .int .i64 e] w fun e' w' => e' = .returned (.tuple #[.int .i64 (nx s e).1, .int .i64 (nx s e).2.1, .int .i64 (nx s e).2.2]) ∧ Drawn0 w w'

set_option maxHeartbeats 400000 in
theorem ref_0_1 : Ref 0 1 := by
  intro w
  go_enter Try.func11, Try.ntmps11
  go_wp2_with (go_at_call 21; refine (first_at false 0 1 0 0 _ (by decide +kernel)).mono ?_; rintro e w' ⟨rfl, ⟨n, rfl⟩⟩)
  go_ret3
  exact ⟨by first | rfl | (simp; done), by repeat (first | exact Drawn0.refl _ | apply Drawn0.step)⟩
set_option maxHeartbeats 400000 in
theorem ref_0_2 : Ref 0 2 := by
  intro w
  go_enter Try.func11, Try.ntmps11
  go_wp2_with (go_at_call 21; refine (first_at false 1 3 0 0 _ (by decide +kernel)).mono ?_; rintro e w' ⟨rfl, ⟨n, rfl⟩⟩)
  go_ret3
  exact ⟨by first | rfl | (simp; done), by repeat (first | exact Drawn0.refl _ | apply Drawn0.step)⟩
set_option maxHeartbeats 400000 in
theorem ref_0_3 : Ref 0 3 := by
  intro w
  go_enter Try.func11, Try.ntmps11
  go_wp2_with (go_at_call 21; refine (first_at false 2 0 2 1 _ (by decide +kernel)).mono ?_; rintro e w' ⟨rfl, ⟨n, rfl⟩⟩)
  go_ret3
  exact ⟨by first | rfl | (simp; done), by repeat (first | exact Drawn0.refl _ | apply Drawn0.step)⟩
set_option maxHeartbeats 400000 in
theorem ref_0_4 : Ref 0 4 := by
  intro w
  go_enter Try.func11, Try.ntmps11
  go_wp2_with (go_at_call 21; refine (first_at false 3 0 2 1 _ (by decide +kernel)).mono ?_; rintro e w' ⟨rfl, ⟨n, rfl⟩⟩)
  go_ret3
  exact ⟨by first | rfl | (simp; done), by repeat (first | exact Drawn0.refl _ | apply Drawn0.step)⟩
set_option maxHeartbeats 400000 in
theorem ref_0_5 : Ref 0 5 := by
  intro w
  go_enter Try.func11, Try.ntmps11
  go_wp2_with (go_at_call 21; refine (first_at false 4 0 2 1 _ (by decide +kernel)).mono ?_; rintro e w' ⟨rfl, ⟨n, rfl⟩⟩)
  go_ret3
  exact ⟨by first | rfl | (simp; done), by repeat (first | exact Drawn0.refl _ | apply Drawn0.step)⟩
set_option maxHeartbeats 400000 in
theorem ref_0_6 : Ref 0 6 := by
  intro w
  go_enter Try.func11, Try.ntmps11
  go_wp2_with (go_at_call 21; refine (first_at true 0 1 0 0 _ (by decide +kernel)).mono ?_; rintro e w' ⟨rfl, ⟨n, rfl⟩⟩)
  go_ret3
  exact ⟨by first | rfl | (simp; done), by repeat (first | exact Drawn0.refl _ | apply Drawn0.step)⟩
set_option maxHeartbeats 400000 in
theorem ref_0_7 : Ref 0 7 := by
  intro w
  go_enter Try.func11, Try.ntmps11
  go_wp2_with (go_at_call 21; refine (first_at true 1 2 0 0 _ (by decide +kernel)).mono ?_; rintro e w' ⟨rfl, ⟨n, rfl⟩⟩)
  go_ret3
  exact ⟨by first | rfl | (simp; done), by repeat (first | exact Drawn0.refl _ | apply Drawn0.step)⟩
set_option maxHeartbeats 400000 in
theorem ref_0_8 : Ref 0 8 := by
  intro w
  go_enter Try.func11, Try.ntmps11
  go_wp2_with (go_at_call 21; refine (first_at true 2 0 3 0 _ (by decide +kernel)).mono ?_; rintro e w' ⟨rfl, ⟨n, rfl⟩⟩)
  go_ret3
  exact ⟨by first | rfl | (simp; done), by repeat (first | exact Drawn0.refl _ | apply Drawn0.step)⟩
set_option maxHeartbeats 400000 in
theorem ref_0_9 : Ref 0 9 := by
  intro w
  go_enter Try.func11, Try.ntmps11
  go_wp2_with (go_at_call 21; refine (first_at true 3 0 3 0 _ (by decide +kernel)).mono ?_; rintro e w' ⟨rfl, ⟨n, rfl⟩⟩)
  go_ret3
  exact ⟨by first | rfl | (simp; done), by repeat (first | exact Drawn0.refl _ | apply Drawn0.step)⟩
set_option maxHeartbeats 400000 in
theorem ref_0_10 : Ref 0 10 := by
  intro w
  go_enter Try.func11, Try.ntmps11
  go_wp2_with (go_at_call 21; refine (first_at true 4 0 3 0 _ (by decide +kernel)).mono ?_; rintro e w' ⟨rfl, ⟨n, rfl⟩⟩)
  go_ret3
  exact ⟨by first | rfl | (simp; done), by repeat (first | exact Drawn0.refl _ | apply Drawn0.step)⟩
set_option maxHeartbeats 400000 in
theorem ref_1_1 : Ref 1 1 := by
  intro w
  go_enter Try.func11, Try.ntmps11
  go_wp2
  go_ret3
  exact ⟨by first | rfl | (simp; done), by repeat (first | exact Drawn0.refl _ | apply Drawn0.step)⟩
set_option maxHeartbeats 400000 in
theorem ref_1_2 : Ref 1 2 := by
  intro w
  go_enter Try.func11, Try.ntmps11
  go_wp2
  go_ret3
  exact ⟨by first | rfl | (simp; done), by repeat (first | exact Drawn0.refl _ | apply Drawn0.step)⟩
set_option maxHeartbeats 400000 in
theorem ref_1_3 : Ref 1 3 := by
  intro w
  go_enter Try.func11, Try.ntmps11
  go_wp2
  go_ret3
  exact ⟨by first | rfl | (simp; done), by repeat (first | exact Drawn0.refl _ | apply Drawn0.step)⟩
set_option maxHeartbeats 400000 in
theorem ref_1_4 : Ref 1 4 := by
  intro w
  go_enter Try.func11, Try.ntmps11
  go_wp2
  go_ret3
  exact ⟨by first | rfl | (simp; done), by repeat (first | exact Drawn0.refl _ | apply Drawn0.step)⟩
set_option maxHeartbeats 400000 in
theorem ref_1_5 : Ref 1 5 := by
  intro w
  go_enter Try.func11, Try.ntmps11
  go_wp2
  go_ret3
  exact ⟨by first | rfl | (simp; done), by repeat (first | exact Drawn0.refl _ | apply Drawn0.step)⟩
set_option maxHeartbeats 400000 in
theorem ref_1_6 : Ref 1 6 := by
  intro w
  go_enter Try.func11, Try.ntmps11
  go_wp2
  go_ret3
  exact ⟨by first | rfl | (simp; done), by repeat (first | exact Drawn0.refl _ | apply Drawn0.step)⟩
set_option maxHeartbeats 400000 in
theorem ref_1_7 : Ref 1 7 := by
  intro w
  go_enter Try.func11, Try.ntmps11
  go_wp2
  go_ret3
  exact ⟨by first | rfl | (simp; done), by repeat (first | exact Drawn0.refl _ | apply Drawn0.step)⟩
set_option maxHeartbeats 400000 in
theorem ref_1_8 : Ref 1 8 := by
  intro w
  go_enter Try.func11, Try.ntmps11
  go_wp2
  go_ret3
  exact ⟨by first | rfl | (simp; done), by repeat (first | exact Drawn0.refl _ | apply Drawn0.step)⟩
set_option maxHeartbeats 400000 in
theorem ref_1_9 : Ref 1 9 := by
  intro w
  go_enter Try.func11, Try.ntmps11
  go_wp2
  go_ret3
  exact ⟨by first | rfl | (simp; done), by repeat (first | exact Drawn0.refl _ | apply Drawn0.step)⟩
set_option maxHeartbeats 400000 in
theorem ref_1_10 : Ref 1 10 := by
  intro w
  go_enter Try.func11, Try.ntmps11
  go_wp2
  go_ret3
  exact ⟨by first | rfl | (simp; done), by repeat (first | exact Drawn0.refl _ | apply Drawn0.step)⟩
set_option maxHeartbeats 400000 in
theorem ref_2_1 : Ref 2 1 := by
  intro w
  go_enter Try.func11, Try.ntmps11
  go_wp2
  go_ret3
  exact ⟨by first | rfl | (simp; done), by repeat (first | exact Drawn0.refl _ | apply Drawn0.step)⟩
set_option maxHeartbeats 400000 in
theorem ref_2_2 : Ref 2 2 := by
  intro w
  go_enter Try.func11, Try.ntmps11
  go_wp2
  go_ret3
  exact ⟨by first | rfl | (simp; done), by repeat (first | exact Drawn0.refl _ | apply Drawn0.step)⟩
set_option maxHeartbeats 400000 in
theorem ref_2_3 : Ref 2 3 := by
  intro w
  go_enter Try.func11, Try.ntmps11
  go_wp2
  go_ret3
  exact ⟨by first | rfl | (simp; done), by repeat (first | exact Drawn0.refl _ | apply Drawn0.step)⟩
set_option maxHeartbeats 400000 in
theorem ref_2_4 : Ref 2 4 := by
  intro w
  go_enter Try.func11, Try.ntmps11
  go_wp2
  go_ret3
  exact ⟨by first | rfl | (simp; done), by repeat (first | exact Drawn0.refl _ | apply Drawn0.step)⟩
set_option maxHeartbeats 400000 in
theorem ref_2_5 : Ref 2 5 := by
  intro w
  go_enter Try.func11, Try.ntmps11
  go_wp2
  go_ret3
  exact ⟨by first | rfl | (simp; done), by repeat (first | exact Drawn0.refl _ | apply Drawn0.step)⟩
set_option maxHeartbeats 400000 in
theorem ref_2_6 : Ref 2 6 := by
  intro w
  go_enter Try.func11, Try.ntmps11
  go_wp2
  go_ret3
  exact ⟨by first | rfl | (simp; done), by repeat (first | exact Drawn0.refl _ | apply Drawn0.step)⟩
set_option maxHeartbeats 400000 in
theorem ref_2_7 : Ref 2 7 := by
  intro w
  go_enter Try.func11, Try.ntmps11
  go_wp2
  go_ret3
  exact ⟨by first | rfl | (simp; done), by repeat (first | exact Drawn0.refl _ | apply Drawn0.step)⟩
set_option maxHeartbeats 400000 in
theorem ref_2_8 : Ref 2 8 := by
  intro w
  go_enter Try.func11, Try.ntmps11
  go_wp2
  go_ret3
  exact ⟨by first | rfl | (simp; done), by repeat (first | exact Drawn0.refl _ | apply Drawn0.step)⟩
set_option maxHeartbeats 400000 in
theorem ref_2_9 : Ref 2 9 := by
  intro w
  go_enter Try.func11, Try.ntmps11
  go_wp2
  go_ret3
  exact ⟨by first | rfl | (simp; done), by repeat (first | exact Drawn0.refl _ | apply Drawn0.step)⟩
set_option maxHeartbeats 400000 in
theorem ref_2_10 : Ref 2 10 := by
  intro w
  go_enter Try.func11, Try.ntmps11
  go_wp2
  go_ret3
  exact ⟨by first | rfl | (simp; done), by repeat (first | exact Drawn0.refl _ | apply Drawn0.step)⟩
set_option maxHeartbeats 400000 in
theorem ref_3_1 : Ref 3 1 := by
  intro w
  go_enter Try.func11, Try.ntmps11
  go_wp2
  go_ret3
  exact ⟨by first | rfl | (simp; done), by repeat (first | exact Drawn0.refl _ | apply Drawn0.step)⟩
set_option maxHeartbeats 400000 in
theorem ref_3_2 : Ref 3 2 := by
  intro w
  go_enter Try.func11, Try.ntmps11
  go_wp2
  go_ret3
  exact ⟨by first | rfl | (simp; done), by repeat (first | exact Drawn0.refl _ | apply Drawn0.step)⟩
set_option maxHeartbeats 400000 in
theorem ref_3_3 : Ref 3 3 := by
  intro w
  go_enter Try.func11, Try.ntmps11
  go_wp2
  go_ret3
  exact ⟨by first | rfl | (simp; done), by repeat (first | exact Drawn0.refl _ | apply Drawn0.step)⟩
set_option maxHeartbeats 400000 in
theorem ref_3_4 : Ref 3 4 := by
  intro w
  go_enter Try.func11, Try.ntmps11
  go_wp2
  go_ret3
  exact ⟨by first | rfl | (simp; done), by repeat (first | exact Drawn0.refl _ | apply Drawn0.step)⟩
set_option maxHeartbeats 400000 in
theorem ref_3_5 : Ref 3 5 := by
  intro w
  go_enter Try.func11, Try.ntmps11
  go_wp2
  go_ret3
  exact ⟨by first | rfl | (simp; done), by repeat (first | exact Drawn0.refl _ | apply Drawn0.step)⟩
set_option maxHeartbeats 400000 in
theorem ref_3_6 : Ref 3 6 := by
  intro w
  go_enter Try.func11, Try.ntmps11
  go_wp2
  go_ret3
  exact ⟨by first | rfl | (simp; done), by repeat (first | exact Drawn0.refl _ | apply Drawn0.step)⟩
set_option maxHeartbeats 400000 in
theorem ref_3_7 : Ref 3 7 := by
  intro w
  go_enter Try.func11, Try.ntmps11
  go_wp2
  go_ret3
  exact ⟨by first | rfl | (simp; done), by repeat (first | exact Drawn0.refl _ | apply Drawn0.step)⟩
set_option maxHeartbeats 400000 in
theorem ref_3_8 : Ref 3 8 := by
  intro w
  go_enter Try.func11, Try.ntmps11
  go_wp2
  go_ret3
  exact ⟨by first | rfl | (simp; done), by repeat (first | exact Drawn0.refl _ | apply Drawn0.step)⟩
set_option maxHeartbeats 400000 in
theorem ref_3_9 : Ref 3 9 := by
  intro w
  go_enter Try.func11, Try.ntmps11
  go_wp2
  go_ret3
  exact ⟨by first | rfl | (simp; done), by repeat (first | exact Drawn0.refl _ | apply Drawn0.step)⟩
set_option maxHeartbeats 400000 in
theorem ref_3_10 : Ref 3 10 := by
  intro w
  go_enter Try.func11, Try.ntmps11
  go_wp2
  go_ret3
  exact ⟨by first | rfl | (simp; done), by repeat (first | exact Drawn0.refl _ | apply Drawn0.step)⟩
set_option maxHeartbeats 400000 in
theorem ref_4_1 : Ref 4 1 := by
  intro w
  go_enter Try.func11, Try.ntmps11
  go_wp2
  go_ret3
  exact ⟨by first | rfl | (simp; done), by repeat (first | exact Drawn0.refl _ | apply Drawn0.step)⟩
set_option maxHeartbeats 400000 in
theorem ref_4_2 : Ref 4 2 := by
  intro w
  go_enter Try.func11, Try.ntmps11
  go_wp2
  go_ret3
  exact ⟨by first | rfl | (simp; done), by repeat (first | exact Drawn0.refl _ | apply Drawn0.step)⟩
set_option maxHeartbeats 400000 in
theorem ref_4_3 : Ref 4 3 := by
  intro w
  go_enter Try.func11, Try.ntmps11
  go_wp2
  go_ret3
  exact ⟨by first | rfl | (simp; done), by repeat (first | exact Drawn0.refl _ | apply Drawn0.step)⟩
set_option maxHeartbeats 400000 in
theorem ref_4_4 : Ref 4 4 := by
  intro w
  go_enter Try.func11, Try.ntmps11
  go_wp2
  go_ret3
  exact ⟨by first | rfl | (simp; done), by repeat (first | exact Drawn0.refl _ | apply Drawn0.step)⟩
set_option maxHeartbeats 400000 in
theorem ref_4_5 : Ref 4 5 := by
  intro w
  go_enter Try.func11, Try.ntmps11
  go_wp2
  go_ret3
  exact ⟨by first | rfl | (simp; done), by repeat (first | exact Drawn0.refl _ | apply Drawn0.step)⟩
set_option maxHeartbeats 400000 in
theorem ref_4_6 : Ref 4 6 := by
  intro w
  go_enter Try.func11, Try.ntmps11
  go_wp2
  go_ret3
  exact ⟨by first | rfl | (simp; done), by repeat (first | exact Drawn0.refl _ | apply Drawn0.step)⟩
set_option maxHeartbeats 400000 in
theorem ref_4_7 : Ref 4 7 := by
  intro w
  go_enter Try.func11, Try.ntmps11
  go_wp2
  go_ret3
  exact ⟨by first | rfl | (simp; done), by repeat (first | exact Drawn0.refl _ | apply Drawn0.step)⟩
set_option maxHeartbeats 400000 in
theorem ref_4_8 : Ref 4 8 := by
  intro w
  go_enter Try.func11, Try.ntmps11
  go_wp2
  go_ret3
  exact ⟨by first | rfl | (simp; done), by repeat (first | exact Drawn0.refl _ | apply Drawn0.step)⟩
set_option maxHeartbeats 400000 in
theorem ref_4_9 : Ref 4 9 := by
  intro w
  go_enter Try.func11, Try.ntmps11
  go_wp2
  go_ret3
  exact ⟨by first | rfl | (simp; done), by repeat (first | exact Drawn0.refl _ | apply Drawn0.step)⟩
set_option maxHeartbeats 400000 in
theorem ref_4_10 : Ref 4 10 := by
  intro w
  go_enter Try.func11, Try.ntmps11
  go_wp2
  go_ret3
  exact ⟨by first | rfl | (simp; done), by repeat (first | exact Drawn0.refl _ | apply Drawn0.step)⟩

theorem tup3 {a b c a' b' c' : Int} (h : (a', b', c') = (a, b, c)) : Ending.returned (.tuple #[.int .i64 a, .int .i64 b, .int .i64 c]) = .returned (.tuple #[.int .i64 a', .int .i64 b', .int .i64 c']) := by
  injection h with h1 h2
  injection h2 with h2 h3
  rw [h1, h2, h3]

set_option maxHeartbeats 400000 in
theorem ref_out (s e : Int) (h : ¬(0 ≤ s ∧ s ≤ 4 ∧ 1 ≤ e ∧ e ≤ 10)) (w : World) :
    Calls Try.prog 11 #[.int .i64 s, .int .i64 e] w fun e' w' => e' = .returned (.tuple #[.int .i64 s, .int .i64 3, .int .i64 0]) ∧ Drawn0 w w' := by
  by_cases h1 : s < 0
  · clear h
    go_enter Try.func11, Try.ntmps11
    go_wp2
    go_ret3
    exact ⟨by first | rfl | (simp; done), by repeat (first | exact Drawn0.refl _ | apply Drawn0.step)⟩
  · have g1 : 0 ≤ s := by omega
    clear h1
    by_cases h2 : 4 < s
    · clear h
      go_enter Try.func11, Try.ntmps11
      go_wp2
      go_ret3
      exact ⟨by first | rfl | (simp; done), by repeat (first | exact Drawn0.refl _ | apply Drawn0.step)⟩
    · have g2 : s ≤ 4 := by omega
      clear h2
      by_cases h3 : e < 1
      · clear h
        go_enter Try.func11, Try.ntmps11
        go_wp2
        go_ret3
        exact ⟨by first | rfl | (simp; done), by repeat (first | exact Drawn0.refl _ | apply Drawn0.step)⟩
      · have h4 : 10 < e := by omega
        have g3 : 1 ≤ e := by omega
        clear h h3
        go_enter Try.func11, Try.ntmps11
        go_wp2
        go_ret3
        exact ⟨by first | rfl | (simp; done), by repeat (first | exact Drawn0.refl _ | apply Drawn0.step)⟩

theorem ref_in : ∀ s ∈ ([0, 1, 2, 3, 4] : List Int), ∀ e ∈ ([1, 2, 3, 4, 5, 6, 7, 8, 9, 10] : List Int), Ref s e := by
  intro s hs e he
  simp only [List.mem_cons, List.mem_nil_iff, or_false] at hs he
  rcases hs with rfl | rfl | rfl | rfl | rfl <;> rcases he with rfl | rfl | rfl | rfl | rfl | rfl | rfl | rfl | rfl | rfl
  · exact ref_0_1
  · exact ref_0_2
  · exact ref_0_3
  · exact ref_0_4
  · exact ref_0_5
  · exact ref_0_6
  · exact ref_0_7
  · exact ref_0_8
  · exact ref_0_9
  · exact ref_0_10
  · exact ref_1_1
  · exact ref_1_2
  · exact ref_1_3
  · exact ref_1_4
  · exact ref_1_5
  · exact ref_1_6
  · exact ref_1_7
  · exact ref_1_8
  · exact ref_1_9
  · exact ref_1_10
  · exact ref_2_1
  · exact ref_2_2
  · exact ref_2_3
  · exact ref_2_4
  · exact ref_2_5
  · exact ref_2_6
  · exact ref_2_7
  · exact ref_2_8
  · exact ref_2_9
  · exact ref_2_10
  · exact ref_3_1
  · exact ref_3_2
  · exact ref_3_3
  · exact ref_3_4
  · exact ref_3_5
  · exact ref_3_6
  · exact ref_3_7
  · exact ref_3_8
  · exact ref_3_9
  · exact ref_3_10
  · exact ref_4_1
  · exact ref_4_2
  · exact ref_4_3
  · exact ref_4_4
  · exact ref_4_5
  · exact ref_4_6
  · exact ref_4_7
  · exact ref_4_8
  · exact ref_4_9
  · exact ref_4_10

/-- The reference's step, at every state and step. -/
theorem ref_any (s e : Int) : Ref s e := by
  by_cases h : 0 ≤ s ∧ s ≤ 4 ∧ 1 ≤ e ∧ e ≤ 10
  · exact all_fifty Ref ref_in s e h.1 h.2.1 h.2.2.1 h.2.2.2
  · intro w
    rw [nx_out s e h]
    exact ref_out s e h w

/-- The program's step, at every state and step. -/
theorem step_any (s e : Int) (w : World) : Calls Try.prog 10 #[.int .i64 s, .int .i64 e] w fun e' w' => e' = .returned (.tuple #[.int .i64 (nx s e).1, .int .i64 (nx s e).2.1, .int .u32 (nx s e).2.2]) ∧ Drawn0 w w' :=
  stream_Next.calls 1 s e _ _ _ w (next_eq s e 0)

def mir (s : Int) : Int := if s = 2 then 3 else if s = 3 then 2 else s
def ovr (e : Int) : Int := if 6 ≤ e ∧ e ≤ 10 then e - 5 else 0

theorem mirror_any (s : Int) (w : World) : Calls Try.prog 12 #[.int .i64 s] w fun e w' => e = .returned (.int .i64 (mir s)) ∧ Drawn0 w w' :=
  stream_Mirror.calls s _ w (by unfold stream_Mirror.f mir; split <;> (try split) <;> rfl)

theorem over_any (e : Int) (w : World) : Calls Try.prog 14 #[.int .i64 e] w fun e' w' => e' = .returned (.int .i64 (ovr e)) ∧ Drawn0 w w' := by
  refine stream_Over.calls e _ w ?_
  unfold stream_Over.f ovr
  by_cases h1 : e < 6
  · rw [if_pos h1, if_neg (by omega)]
  · rw [if_neg h1]
    by_cases h2 : e > 10
    · rw [if_pos h2, if_neg (by omega)]
    · rw [if_neg h2, if_pos (by omega)]
      congr 1
      unfold wrap64
      omega

theorem ret_int {k : IntKind} {a b : Int} (h : a = b) : Ending.returned (.int k a) = .returned (.int k b) := by rw [h]

set_option maxHeartbeats 400000 in
theorem ref_mirror (s : Int) (w : World) : Calls Try.prog 13 #[.int .i64 s] w fun e w' => e = .returned (.int .i64 (mir s)) ∧ Drawn0 w w' := by
  by_cases h2 : s = 2
  · subst h2
    go_enter Try.func13, Try.ntmps13
    go_wp2
    go_ret
    exact ⟨by first | rfl | (simp; done), by repeat (first | exact Drawn0.refl _ | apply Drawn0.step)⟩
  · by_cases h3 : s = 3
    · subst h3
      go_enter Try.func13, Try.ntmps13
      go_wp2
      go_ret
      exact ⟨by first | rfl | (simp; done), by repeat (first | exact Drawn0.refl _ | apply Drawn0.step)⟩
    · have hm : mir s = s := by unfold mir; rw [if_neg h2, if_neg h3]
      have b2 : (s == 2) = false := by simp [h2]
      have b3 : (s == 3) = false := by simp [h3]
      have HM := Lib.hid hm
      clear hm h2 h3
      go_enter Try.func13, Try.ntmps13
      go_wp2
      go_ret
      exact ⟨by rw [HM.out]; rfl, by repeat (first | exact Drawn0.refl _ | apply Drawn0.step)⟩

set_option maxHeartbeats 400000 in
theorem ref_over (e : Int) (w : World) : Calls Try.prog 15 #[.int .i64 e] w fun e' w' => e' = .returned (.int .i64 (ovr e)) ∧ Drawn0 w w' := by
  by_cases h6 : 6 ≤ e
  · by_cases h10 : e ≤ 10
    · have HM := Lib.hid (show ovr e = e - 5 by unfold ovr; rw [if_pos ⟨h6, h10⟩])
      go_enter Try.func15, Try.ntmps15
      go_wp2
      go_ret
      exact ⟨by rw [HM.out]; rfl, by repeat (first | exact Drawn0.refl _ | apply Drawn0.step)⟩
    · have HM := Lib.hid (show ovr e = 0 by unfold ovr; rw [if_neg (by omega)])
      have g : 10 < e := by omega
      clear h10
      go_enter Try.func15, Try.ntmps15
      go_wp2
      go_ret
      exact ⟨by rw [HM.out]; rfl, by repeat (first | exact Drawn0.refl _ | apply Drawn0.step)⟩
  · have HM := Lib.hid (show ovr e = 0 by unfold ovr; rw [if_neg (by omega)])
    have g : e < 6 := by omega
    clear h6
    go_enter Try.func15, Try.ntmps15
    go_wp2
    go_ret
    exact ⟨by rw [HM.out]; rfl, by repeat (first | exact Drawn0.refl _ | apply Drawn0.step)⟩

theorem awake_any (w : World) : Calls Try.prog 9 #[] w fun e w' => e = .returned (.bool true) ∧ Below w.heap.size w w' :=
  nunciolaw18_awake.calls 10 true w (by decide +kernel)

end Go.Proofs.Ytkaijdhnnfldkaa.RefNext
