/- Walks of package nuncioref01: Part, Get. -/
import Derived.Test.YtbbeikdbioelgaaKMRNum
set_option linter.unusedVariables false
set_option linter.unusedSimpArgs false
namespace Go.Proofs.Ytbbeikdbioelgaa.M
open Go.RowKit Go.Proofs.YtbbeikdbioelgaaW.PrintWords Go.Proofs.YtbbeikdbioelgaaW.PrintLast Go.Proofs.YtbbeikdbioelgaaW.PrintMore
attribute [local go_sem] max2_int min2_int max_two min_two max_three min_three max_four min_four
set_option maxHeartbeats 2000000 in
set_option maxRecDepth 100000 in
theorem part01_calls (s : ByteArray) (a n : Int) (w : World) (hs : s.size ≤ 1000000000000) :
    Calls Try.prog 46 #[.string s, .int .i64 a, .int .i64 n] w fun e w' => e = partE (partF s a n) ∧ Below w.heap.size w w' := by
  have hb := Below.refl w.heap.size w
  obtain ⟨R, hR⟩ : ∃ R, partF s a n = R := ⟨_, rfl⟩
  rw [hR]
  unfold partF at hR
  by_cases h1 : a < 0
  · rw [if_pos (.inl h1)] at hR
    subst hR
    have d1 : decide (a < 0) = true := decide_eq_true h1
    go_enter Try.func46, Try.ntmps46
    go_wp2
    go_ret2
    exact ⟨rfl, hb⟩
  have d1 : decide (a < 0) = false := decide_eq_false h1
  by_cases h2 : n < 0
  · rw [if_pos (.inr (.inl h2))] at hR
    subst hR
    have d2 : decide (n < 0) = true := decide_eq_true h2
    clear h1
    go_enter Try.func46, Try.ntmps46
    go_wp2
    go_ret2
    exact ⟨rfl, hb⟩
  have d2 : decide (n < 0) = false := decide_eq_false h2
  by_cases h3 : (s.size : Int) < a
  · rw [if_pos (.inr (.inr (.inl h3)))] at hR
    subst hR
    have d3 : decide ((s.size : Int) < a) = true := decide_eq_true h3
    clear h1 h2
    go_enter Try.func46, Try.ntmps46
    go_wp2
    go_ret2
    exact ⟨rfl, hb⟩
  have d3 : decide ((s.size : Int) < a) = false := decide_eq_false h3
  have q1 : 0 ≤ a := by omega
  have q2 : a ≤ (s.size : Int) := by omega
  have q3 : (s.size : Int) ≤ 1000000000000 := by omega
  by_cases h4 : (s.size : Int) - a < n
  · rw [if_pos (.inr (.inr (.inr h4)))] at hR
    subst hR
    have d4 : decide ((s.size : Int) - a < n) = true := decide_eq_true h4
    clear h1 h2 h3
    go_enter Try.func46, Try.ntmps46
    go_wp2
    go_ret2
    exact ⟨rfl, hb⟩
  have d4 : decide ((s.size : Int) - a < n) = false := decide_eq_false h4
  rw [if_neg (by omega)] at hR
  subst hR
  have q4 : a + n ≤ (s.size : Int) := by omega
  have q5 : a ≤ a + n := by omega
  have q6 : 0 ≤ a + n := by omega
  clear h1 h2 h3 h4
  go_enter Try.func46, Try.ntmps46
  go_wp2
  go_ret2
  exact ⟨rfl, hb⟩
set_option maxHeartbeats 2000000 in
set_option maxRecDepth 100000 in
theorem get01_calls (s : ByteArray) (a n : Int) (w : World) (hs : s.size ≤ 1000000000000) :
    Calls Try.prog 45 #[.string s, .int .i64 a, .int .i64 n] w fun e w' => e = getE (getF s a n) ∧ Below w.heap.size w w' := by
  obtain ⟨R, hR⟩ : ∃ R, getF s a n = R := ⟨_, rfl⟩
  rw [hR]
  unfold getF at hR
  by_cases h1 : n < 1
  · rw [if_pos (.inl h1)] at hR
    subst hR
    have d1 : decide (n < 1) = true := decide_eq_true h1
    clear h1
    go_enter Try.func45, Try.ntmps45
    go_wp2_with fail
    go_ret2
    exact ⟨rfl, Below.refl _ _⟩
  have d1 : decide (n < 1) = false := decide_eq_false h1
  by_cases h2 : 8 < n
  · rw [if_pos (.inr h2)] at hR
    subst hR
    have d2 : decide (8 < n) = true := decide_eq_true h2
    clear h1 h2
    go_enter Try.func45, Try.ntmps45
    go_wp2_with fail
    go_ret2
    exact ⟨rfl, Below.refl _ _⟩
  have d2 : decide (8 < n) = false := decide_eq_false h2
  rw [if_neg (by omega)] at hR
  obtain ⟨j, rfl⟩ := Int.eq_ofNat_of_zero_le (show 0 ≤ n by omega)
  have HN := Lib.hid (show j ≤ 8 by omega)
  clear h1 h2
  cases hp : partF s a (j : Int) with
  | none =>
    rw [hp] at hR
    subst hR
    have HP := Lib.hid hp
    clear hp
    go_enter Try.func45, Try.ntmps45
    go_wp2_with fail
    refine (part01_calls s a _ _ hs).mono ?_
    rw [HP.out]
    rintro e w1 ⟨rfl, hb⟩
    have HB := Aside0.mk hb
    clear hb
    simp only [partE]
    go_wp2_with fail
    go_ret2
    exact ⟨rfl, HB.out⟩
  | some t =>
    rw [hp] at hR
    obtain ⟨hz, -, -, -, -⟩ := part_size hp
    have HP := Lib.hid hp
    have HR := Lib.hid hR
    have ht : t.size ≤ 8 := by have := HN.out; omega
    have HT := Lib.hid (show t.size = j by omega)
    clear hp hR hz
    go_enter Try.func45, Try.ntmps45
    go_wp2_with fail
    refine (part01_calls s a _ _ hs).mono ?_
    rw [HP.out]
    rintro e w1 ⟨rfl, hb⟩
    have HB := Aside0.mk hb
    clear hb
    simp only [partE]
    obtain rfl := HT.out
    clear HT
    go_wp2_with fail
    go_loopg [10, 11] t.size (fun kq v10 v11 w' => ∃ (j : Nat) (m : Int), v10 = .int .u64 m ∧ v11 = .int .i64 j ∧ Aside0 (kq + j = t.size) ∧ Aside0 (valF 0 (bytesOf t) = valF m ((bytesOf t).drop j)) ∧ Aside0 (0 ≤ m ∧ m < 256 ^ j) ∧ Aside0 (Below w.heap.size w w'))
    case atStart => exact ⟨0, 0, rfl, rfl, ⟨by omega⟩, ⟨rfl⟩, ⟨by omega, by decide⟩, HB⟩
    case round =>
      clear HB
      obtain ⟨j, m, rfl, rfl, HK, HV, HM, HB⟩ := hrel
      have q3 : (t.size : Int) ≤ 8 := by have := HN.out; omega
      by_cases hj : j < t.size
      · obtain ⟨c0, c1⟩ := bt_range t j
        have HD := Lib.hid (drop_bytes t j hj)
        have hm0 := HM.out.1
        have hpow : (256 : Int) ^ j ≤ 256 ^ 7 := by
          have : (256 : Nat) ^ j ≤ 256 ^ 7 := Nat.pow_le_pow_right (by decide) (by have := HN.out; omega)
          exact_mod_cast this
        have hm1 : m < 72057594037927936 := by have := HM.out.2; omega
        have hsh : IntKind.u64.wrap (m * 256) = m * 256 := by
          simp [IntKind.wrap, IntKind.bits, IntKind.signed]
          omega
        have hsh2 : IntKind.u64.wrap (m * 256 + bt t (j : Int)) = m * 256 + bt t (j : Int) := by
          simp [IntKind.wrap, IntKind.bits, IntKind.signed]
          omega
        have q1 : (0 : Int) ≤ (j : Int) := by omega
        have q2 : (j : Int) < (t.size : Int) := by omega
        clear hpow
        go_wp2_with fail
        go_roundg (t.size - (j + 1))
        case measure => have := HK.out; omega
        case rel =>
          refine ⟨j + 1, m * 256 + bt t (j : Int), ?_, by go_num, ⟨by omega⟩, ⟨by rw [HV.out, HD.out]; rfl⟩, ⟨by omega, ?_⟩, HB⟩
          · rw [show ((t[j].toNat : Nat) : Int) = bt t (j : Int) from bt_at t (j : Int) hj, show IntKind.u64.wrap (bt t (j : Int)) = bt t (j : Int) by simp [IntKind.wrap, IntKind.bits, IntKind.signed]; omega, hsh2]
          · have := HM.out.2
            rw [Int.pow_succ]
            omega
      · obtain rfl : j = t.size := by have := HK.out; omega
        have HF := Lib.hid (show valF 0 (bytesOf t) = m by rw [HV.out, List.drop_of_length_le (by rw [bytesOf_length]; omega)]; rfl)
        go_wp2_with fail
        go_ret2
        exact ⟨by rw [← HR.out, Option.map_some, HF.out]; rfl, HB.out⟩
end Go.Proofs.Ytbbeikdbioelgaa.M
