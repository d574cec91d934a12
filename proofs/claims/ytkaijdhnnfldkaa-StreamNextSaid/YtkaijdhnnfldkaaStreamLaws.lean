/- Walks of the laws of a stream's steps. -/
import Derived.Test.YtkaijdhnnfldkaaRefNext
set_option linter.unusedVariables false
set_option linter.unusedSimpArgs false
namespace Go.Proofs.Ytkaijdhnnfldkaa.StreamLaws
open Go.RowKit Go.Proofs.Ytkaijdhnnfldkaa.RefNext Go.Proofs.YtkaijdhnnfldkaaW.PrintWords Go.Proofs.YtkaijdhnnfldkaaW.PrintLast

theorem below_drewN {B : Nat} {a w : World} (h : Below B a w) (n : Nat) : Below B a (w.drewN n) := by
  induction n with
  | zero => exact h
  | succ n ih => rw [← World.drew_drewN]; exact ih.drew

theorem nx_bounds (s e : Int) : 0 ≤ (nx s e).2.1 ∧ (nx s e).2.1 ≤ 3 ∧ 0 ≤ (nx s e).2.2 ∧ (nx s e).2.2 ≤ 5 := by
  by_cases h : 0 ≤ s ∧ s ≤ 4 ∧ 1 ≤ e ∧ e ≤ 10
  · exact all_fifty (fun s e => 0 ≤ (nx s e).2.1 ∧ (nx s e).2.1 ≤ 3 ∧ 0 ≤ (nx s e).2.2 ∧ (nx s e).2.2 ≤ 5) (by decide +kernel) s e h.1 h.2.1 h.2.2.1 h.2.2.2
  · rw [nx_out s e h]; simp

theorem step_at {s e a b c : Int} (H : Hid (nx s e = (a, b, c))) (w : World) :
    Calls Try.prog 10 #[.int .i64 s, .int .i64 e] w fun e' w' => e' = .returned (.tuple #[.int .i64 a, .int .i64 b, .int .u32 c]) ∧ Drawn0 w w' := by
  have h := step_any s e w
  rw [H.out] at h
  exact h

theorem ref_at {s e a b c : Int} (H : Hid (nx s e = (a, b, c))) (w : World) :
    Calls Try.prog 11 #[.int .i64 s, .int .i64 e] w fun e' w' => e' = .returned (.tuple #[.int .i64 a, .int .i64 b, .int .i64 c]) ∧ Drawn0 w w' := by
  have h := ref_any s e w
  rw [H.out] at h
  exact h


theorem mirror_at {s m : Int} (H : Hid (mir s = m)) (w : World) : Calls Try.prog 12 #[.int .i64 s] w fun e w' => e = .returned (.int .i64 m) ∧ Drawn0 w w' := by
  have h := mirror_any s w
  rw [H.out] at h
  exact h
theorem rmirror_at {s m : Int} (H : Hid (mir s = m)) (w : World) : Calls Try.prog 13 #[.int .i64 s] w fun e w' => e = .returned (.int .i64 m) ∧ Drawn0 w w' := by
  have h := ref_mirror s w
  rw [H.out] at h
  exact h
theorem over_at {s m : Int} (H : Hid (ovr s = m)) (w : World) : Calls Try.prog 14 #[.int .i64 s] w fun e w' => e = .returned (.int .i64 m) ∧ Drawn0 w w' := by
  have h := over_any s w
  rw [H.out] at h
  exact h
theorem rover_at {s m : Int} (H : Hid (ovr s = m)) (w : World) : Calls Try.prog 15 #[.int .i64 s] w fun e w' => e = .returned (.int .i64 m) ∧ Drawn0 w w' := by
  have h := ref_over s w
  rw [H.out] at h
  exact h

set_option maxHeartbeats 1000000 in
theorem next_law (s e : Int) (w : World) : Calls Try.prog 3 #[.int .i64 s, .int .i64 e] w fun e' w' => e' = .returned (.bool true) ∧ Below w.heap.size w w' := by
  obtain ⟨a, b, c, hn⟩ : ∃ a b c, nx s e = (a, b, c) := ⟨_, _, _, rfl⟩
  have hb := nx_bounds s e
  rw [hn] at hb
  obtain ⟨b0, b1, c0, c1⟩ := hb
  have HN := Lib.hid hn
  clear hn
  obtain ⟨m, hm⟩ : ∃ m, mir s = m := ⟨_, rfl⟩
  obtain ⟨o, ho⟩ : ∃ o, ovr e = o := ⟨_, rfl⟩
  have HM := Lib.hid hm
  have HO := Lib.hid ho
  clear hm ho
  go_enter Try.func3, Try.ntmps3
  go_wp2_with fail
  refine (awake_any _).mono ?_
  rintro e1 w1 ⟨rfl, hb1⟩
  go_wp2_with fail
  refine (step_at HN _).mono ?_
  rintro e2 w2 ⟨rfl, ⟨n2, rfl⟩⟩
  go_wp2_with fail
  refine (ref_at HN _).mono ?_
  rintro e3 w3 ⟨rfl, ⟨n3, rfl⟩⟩
  go_wp2_with fail
  refine (mirror_at HM _).mono ?_
  rintro e4 w4 ⟨rfl, ⟨n4, rfl⟩⟩
  go_wp2_with fail
  refine (rmirror_at HM _).mono ?_
  rintro e5 w5 ⟨rfl, ⟨n5, rfl⟩⟩
  go_wp2_with fail
  refine (over_at HO _).mono ?_
  rintro e6 w6 ⟨rfl, ⟨n6, rfl⟩⟩
  go_wp2_with fail
  refine (rover_at HO _).mono ?_
  rintro e7 w7 ⟨rfl, ⟨n7, rfl⟩⟩
  go_wp2_with fail
  go_ret
  exact ⟨by first | rfl | (simp; done), below_drewN hb1 _⟩

theorem next_walk (w : World) (s : Int) (_ : (Lit.int .i64 s).wf = true) (e : Int) (_ : (Lit.int .i64 e).wf = true) :
    Calls Try.prog 3 #[.int .i64 s, .int .i64 e] w fun e' w' => e' = .returned (.bool true) ∧ Below w.heap.size w w' := next_law s e w
end Go.Proofs.Ytkaijdhnnfldkaa.StreamLaws
