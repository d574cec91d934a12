/- Walk of nunciolaw06.ReadCuts, over its plain law. -/
import Derived.Test.YtbbeikdbioelgaaMAwake6
import Derived.Test.YtbbeikdbioelgaaMSame
import Derived.Laws.Concat
set_option linter.unusedVariables false
set_option linter.unusedSimpArgs false
namespace Go.Proofs.Ytbbeikdbioelgaa.M
open Go.RowKit Go.Maps Go.Proofs.YtbbeikdbioelgaaW.PrintWords Go.Proofs.YtbbeikdbioelgaaW.PrintLast Go.Proofs.YtbbeikdbioelgaaW.PrintMore
attribute [local go_sem] max2_int min2_int max_two min_two max_three min_three max_four min_four
attribute [local go_sem ↓] Go.wp_at_zero Go.wp_at_succ
/-- The plain law: what was read whole is none when it is cut off, nor with bytes behind it. -/
structure CutsLaw : Prop where
  cut : ∀ (s : ByteArray) (m : Msg) (k : Nat), readF s = (m, 0) → k < s.size → (readF (s.extract 0 k)).2 ≠ 0
  more : ∀ (s t : ByteArray) (m : Msg), readF s = (m, 0) → t.size ≠ 0 → (readF (s ++ t)).2 = 7 ∨ 65535 < s.size + t.size ∧ (readF (s ++ t)).2 = 3
theorem readF_bad {s : ByteArray} {x : Msg × Int} (h : readF s = x) (hx : x.2 ≠ 0) : x.1 = zM := by
  subst h
  unfold readF at hx ⊢
  split
  · rfl
  · rename_i hl
    rw [if_neg hl] at hx
    cases hm : msgR s with
    | error c => rfl
    | ok y =>
      obtain ⟨m, a⟩ := y
      rw [hm] at hx
      exact absurd rfl hx
set_option maxHeartbeats 4000000 in
set_option maxRecDepth 100000 in
theorem cuts_calls (H : CutsLaw) (s t : ByteArray) (cut : Int) (w : World) :
    Calls Try.prog 10 #[.string s, .int .i64 cut, .string t] w fun e w' => e = .returned (.bool true) ∧ Below w.heap.size w w' := by
  have HL := Aside0.mk H
  clear H
  by_cases h1 : 65535 < s.size
  · have d1 : decide ((65535 : Int) < (s.size : Int)) = true := decide_eq_true (by omega)
    have d2 : decide (65535 < s.size) = true := decide_eq_true h1
    clear h1
    go_enter Try.func10, Try.ntmps10
    go_wp2_with fail
    refine (awake6_calls _).mono ?_
    rintro e w1 ⟨rfl, hb⟩
    have HB := Aside0.mk hb
    clear hb
    go_wp2_with fail
    go_ret
    exact ⟨rfl, HB.out⟩
  have d1 : decide ((65535 : Int) < (s.size : Int)) = false := decide_eq_false (by omega)
  have d2 : decide (65535 < s.size) = false := decide_eq_false h1
  by_cases h2 : 70000 < t.size
  · have d3 : decide ((70000 : Int) < (t.size : Int)) = true := decide_eq_true (by omega)
    have d4 : decide (70000 < t.size) = true := decide_eq_true h2
    clear h2 h1
    go_enter Try.func10, Try.ntmps10
    go_wp2_with fail
    refine (awake6_calls _).mono ?_
    rintro e w1 ⟨rfl, hb⟩
    have HB := Aside0.mk hb
    clear hb
    go_wp2_with fail
    go_ret
    exact ⟨rfl, HB.out⟩
  have d3 : decide ((70000 : Int) < (t.size : Int)) = false := decide_eq_false (by omega)
  have d4 : decide (70000 < t.size) = false := decide_eq_false h2
  have HS := Lib.hid (show s.size ≤ 65535 ∧ t.size ≤ 70000 by omega)
  have hadd := fun W => run_string_add_sum (P := Try.prog) W s t (by have := HS.out; omega)
  clear h2 h1
  go_enter Try.func10, Try.ntmps10
  go_wp2_with fail
  refine (awake6_calls _).mono ?_
  rintro e w1 ⟨rfl, hb⟩
  have HB := Aside0.mk hb
  clear hb
  go_wp2_with fail
  refine (Read_calls s _ (by have := HS.out; omega)).mono ?_
  obtain ⟨⟨m, co⟩, hr⟩ : ∃ x, readF s = x := ⟨_, rfl⟩
  have HR := Lib.hid hr
  rw [hr]
  clear hr
  rintro e w' ⟨⟨v, rfl, hm⟩, hb⟩
  have HB' := below_step HB.out hb
  obtain ⟨w2, hw1⟩ : ∃ x, x = w' := ⟨_, rfl⟩
  subst hw1
  clear hb
  obtain ⟨A2, c2, A3, c3, A4, c4, A5, c5, rfl, -⟩ := hm
  have HB2 := Aside0.mk HB'
  clear HB' HB
  by_cases k1 : co = 0
  case neg =>
    have e1 : (co != 0) = true := by rw [bne_iff_ne]; exact k1
    clear k1
    go_wp2_with fail
    go_ret
    exact ⟨rfl, below_alloc HB2.out _⟩
  have e1 : (co != 0) = false := by rw [k1]; rfl
  subst k1
  by_cases k2 : 0 ≤ cut ∧ cut < (s.size : Int)
  · obtain ⟨n, rfl⟩ := Int.eq_ofNat_of_zero_le k2.1
    have q1 : (0 : Int) ≤ (n : Int) := by omega
    have q2 : (n : Int) < (s.size : Int) := k2.2
    have q3 : (s.size : Int) ≤ 65535 := by have := HS.out; omega
    have HK := Lib.hid (show n < s.size by omega)
    clear k2
    go_wp2_with fail
    refine (Read_calls (s.extract 0 n) _ (by have := HS.out; rw [ByteArray.size_extract]; omega)).mono ?_
    obtain ⟨⟨m1, co1⟩, hr⟩ : ∃ x, readF (s.extract 0 n) = x := ⟨_, rfl⟩
    have HR1 := Lib.hid hr
    rw [hr]
    clear hr
    rintro e w' ⟨⟨v, rfl, hm⟩, hb⟩
    have HB' := below_step (below_alloc HB2.out _) hb
    obtain ⟨w3, hw1⟩ : ∃ x, x = w' := ⟨_, rfl⟩
    subst hw1
    clear hb
    have HB3 := Aside0.mk HB'
    clear HB'
    have hc := HL.out.cut s m n HR.out HK.out
    rw [HR1.out] at hc
    have hz : m1 = zM := readF_bad HR1.out hc
    subst hz
    have e3 : (co1 == 0) = false := beq_eq_false_iff_ne.mpr hc
    have HM3 := Aside0.mk hm
    obtain ⟨B2, b2, B3, b3, B4, b4, B5, b5, rfl, -⟩ := hm
    clear hc
    go_wp2_with fail
    refine (same6_calls (r := zM) (s := zM) (HM3.out.below (below_alloc (Below.refl _ _) _)) (zM_at _)).mono ?_
    rintro e w4 ⟨b, rfl, hb, hbb⟩
    obtain rfl : b = true := hb.2 rfl
    have HB := Aside0.mk (below_step (below_alloc HB3.out _) hbb)
    clear hb hbb HB2 HB3
    go_wp2_with fail
    refine (Read_calls (s ++ t) _ (by have := HS.out; rw [ByteArray.size_append]; omega)).mono ?_
    obtain ⟨⟨m9, co9⟩, hr⟩ : ∃ x, readF (s ++ t) = x := ⟨_, rfl⟩
    have HR9 := Lib.hid hr
    rw [hr]
    clear hr
    rintro e w' ⟨⟨v, rfl, hm⟩, hb⟩
    have HB' := below_step HB.out hb
    obtain ⟨w9, hw1⟩ : ∃ x, x = w' := ⟨_, rfl⟩
    subst hw1
    clear hb
    obtain ⟨C2, c2', C3, c3', C4, c4', C5, c5', rfl, -⟩ := hm
    have HB9 := Aside0.mk HB'
    clear HB'
    have r1 : (s.size : Int) ≤ 65535 := by have := HS.out; omega
    have r2 : (t.size : Int) ≤ 70000 := by have := HS.out; omega
    by_cases k6 : t.size = 0
    · have e7 : ((t.size : Int) == 0) = true := beq_iff_eq.mpr (by omega)
      have e8 : (t.size == 0) = true := beq_iff_eq.mpr k6
      clear k6
      go_wp2_with fail
      go_ret
      exact ⟨rfl, below_alloc HB9.out _⟩
    · have e7 : ((t.size : Int) == 0) = false := beq_eq_false_iff_ne.mpr (by omega)
      have e8 : (t.size == 0) = false := beq_eq_false_iff_ne.mpr k6
      have hm := HL.out.more s t m HR.out k6
      rw [HR9.out] at hm
      have hm : co9 = 7 ∨ 65535 < s.size + t.size ∧ co9 = 3 := hm
      clear k6
      rcases hm with rfl | ⟨hl, rfl⟩
      · go_wp2_with fail
        go_ret
        exact ⟨rfl, below_alloc HB9.out _⟩
      · have e9 : decide ((65535 : Int) < (s.size : Int) + (t.size : Int)) = true := decide_eq_true (by omega)
        have e10 : decide (65535 < s.size + t.size) = true := decide_eq_true hl
        clear hl
        go_wp2_with fail
        go_ret
        exact ⟨rfl, below_alloc HB9.out _⟩
  · have k3 : ¬ (0 ≤ cut) ∨ ¬ (cut < (s.size : Int)) := by omega
    have HB := Aside0.mk (below_alloc HB2.out (.cells #[.int .u16 m.id, .int .u16 m.flags, .slice A2 m.qs.length c2, .slice A3 m.ans.length c3, .slice A4 m.auth.length c4, .slice A5 m.add.length c5] 26 (0, 0)))
    clear HB2
    rcases k3 with k3 | k3
    · have e5 : decide (0 ≤ cut) = false := decide_eq_false k3
      clear k2 k3
      go_wp2_with fail
      refine (Read_calls (s ++ t) _ (by have := HS.out; rw [ByteArray.size_append]; omega)).mono ?_
      obtain ⟨⟨m9, co9⟩, hr⟩ : ∃ x, readF (s ++ t) = x := ⟨_, rfl⟩
      have HR9 := Lib.hid hr
      rw [hr]
      clear hr
      rintro e w' ⟨⟨v, rfl, hm⟩, hb⟩
      have HB' := below_step HB.out hb
      obtain ⟨w9, hw1⟩ : ∃ x, x = w' := ⟨_, rfl⟩
      subst hw1
      clear hb
      obtain ⟨C2, c2', C3, c3', C4, c4', C5, c5', rfl, -⟩ := hm
      have HB9 := Aside0.mk HB'
      clear HB'
      have r1 : (s.size : Int) ≤ 65535 := by have := HS.out; omega
      have r2 : (t.size : Int) ≤ 70000 := by have := HS.out; omega
      by_cases k6 : t.size = 0
      · have e7 : ((t.size : Int) == 0) = true := beq_iff_eq.mpr (by omega)
        have e8 : (t.size == 0) = true := beq_iff_eq.mpr k6
        clear k6
        go_wp2_with fail
        go_ret
        exact ⟨rfl, below_alloc HB9.out _⟩
      · have e7 : ((t.size : Int) == 0) = false := beq_eq_false_iff_ne.mpr (by omega)
        have e8 : (t.size == 0) = false := beq_eq_false_iff_ne.mpr k6
        have hm := HL.out.more s t m HR.out k6
        rw [HR9.out] at hm
        have hm : co9 = 7 ∨ 65535 < s.size + t.size ∧ co9 = 3 := hm
        clear k6
        rcases hm with rfl | ⟨hl, rfl⟩
        · go_wp2_with fail
          go_ret
          exact ⟨rfl, below_alloc HB9.out _⟩
        · have e9 : decide ((65535 : Int) < (s.size : Int) + (t.size : Int)) = true := decide_eq_true (by omega)
          have e10 : decide (65535 < s.size + t.size) = true := decide_eq_true hl
          clear hl
          go_wp2_with fail
          go_ret
          exact ⟨rfl, below_alloc HB9.out _⟩
    · by_cases k4 : 0 ≤ cut
      · have e5 : decide (0 ≤ cut) = true := decide_eq_true k4
        have e6 : decide (cut < (s.size : Int)) = false := decide_eq_false k3
        clear k2 k3
        go_wp2_with fail
        refine (Read_calls (s ++ t) _ (by have := HS.out; rw [ByteArray.size_append]; omega)).mono ?_
        obtain ⟨⟨m9, co9⟩, hr⟩ : ∃ x, readF (s ++ t) = x := ⟨_, rfl⟩
        have HR9 := Lib.hid hr
        rw [hr]
        clear hr
        rintro e w' ⟨⟨v, rfl, hm⟩, hb⟩
        have HB' := below_step HB.out hb
        obtain ⟨w9, hw1⟩ : ∃ x, x = w' := ⟨_, rfl⟩
        subst hw1
        clear hb
        obtain ⟨C2, c2', C3, c3', C4, c4', C5, c5', rfl, -⟩ := hm
        have HB9 := Aside0.mk HB'
        clear HB'
        have r1 : (s.size : Int) ≤ 65535 := by have := HS.out; omega
        have r2 : (t.size : Int) ≤ 70000 := by have := HS.out; omega
        by_cases k6 : t.size = 0
        · have e7 : ((t.size : Int) == 0) = true := beq_iff_eq.mpr (by omega)
          have e8 : (t.size == 0) = true := beq_iff_eq.mpr k6
          clear k6
          go_wp2_with fail
          go_ret
          exact ⟨rfl, below_alloc HB9.out _⟩
        · have e7 : ((t.size : Int) == 0) = false := beq_eq_false_iff_ne.mpr (by omega)
          have e8 : (t.size == 0) = false := beq_eq_false_iff_ne.mpr k6
          have hm := HL.out.more s t m HR.out k6
          rw [HR9.out] at hm
          have hm : co9 = 7 ∨ 65535 < s.size + t.size ∧ co9 = 3 := hm
          clear k6
          rcases hm with rfl | ⟨hl, rfl⟩
          · go_wp2_with fail
            go_ret
            exact ⟨rfl, below_alloc HB9.out _⟩
          · have e9 : decide ((65535 : Int) < (s.size : Int) + (t.size : Int)) = true := decide_eq_true (by omega)
            have e10 : decide (65535 < s.size + t.size) = true := decide_eq_true hl
            clear hl
            go_wp2_with fail
            go_ret
            exact ⟨rfl, below_alloc HB9.out _⟩
      · have e5 : decide (0 ≤ cut) = false := decide_eq_false k4
        clear k2 k3
        go_wp2_with fail
        refine (Read_calls (s ++ t) _ (by have := HS.out; rw [ByteArray.size_append]; omega)).mono ?_
        obtain ⟨⟨m9, co9⟩, hr⟩ : ∃ x, readF (s ++ t) = x := ⟨_, rfl⟩
        have HR9 := Lib.hid hr
        rw [hr]
        clear hr
        rintro e w' ⟨⟨v, rfl, hm⟩, hb⟩
        have HB' := below_step HB.out hb
        obtain ⟨w9, hw1⟩ : ∃ x, x = w' := ⟨_, rfl⟩
        subst hw1
        clear hb
        obtain ⟨C2, c2', C3, c3', C4, c4', C5, c5', rfl, -⟩ := hm
        have HB9 := Aside0.mk HB'
        clear HB'
        have r1 : (s.size : Int) ≤ 65535 := by have := HS.out; omega
        have r2 : (t.size : Int) ≤ 70000 := by have := HS.out; omega
        by_cases k6 : t.size = 0
        · have e7 : ((t.size : Int) == 0) = true := beq_iff_eq.mpr (by omega)
          have e8 : (t.size == 0) = true := beq_iff_eq.mpr k6
          clear k6
          go_wp2_with fail
          go_ret
          exact ⟨rfl, below_alloc HB9.out _⟩
        · have e7 : ((t.size : Int) == 0) = false := beq_eq_false_iff_ne.mpr (by omega)
          have e8 : (t.size == 0) = false := beq_eq_false_iff_ne.mpr k6
          have hm := HL.out.more s t m HR.out k6
          rw [HR9.out] at hm
          have hm : co9 = 7 ∨ 65535 < s.size + t.size ∧ co9 = 3 := hm
          clear k6
          rcases hm with rfl | ⟨hl, rfl⟩
          · go_wp2_with fail
            go_ret
            exact ⟨rfl, below_alloc HB9.out _⟩
          · have e9 : decide ((65535 : Int) < (s.size : Int) + (t.size : Int)) = true := decide_eq_true (by omega)
            have e10 : decide (65535 < s.size + t.size) = true := decide_eq_true hl
            clear hl
            go_wp2_with fail
            go_ret
            exact ⟨rfl, below_alloc HB9.out _⟩
/-- The same, as the row asks for it. -/
theorem cuts_row (H : CutsLaw) (W : World) (s : ByteArray) (hs : s.size ≤ 140737488351232) (cut : Int) (hc : (Lit.int .i64 cut).wf = true) (t : ByteArray) (ht : t.size ≤ 140737488351232) :
    Calls Try.prog 10 #[.string s, .int .i64 cut, .string t] W fun e w' => e = .returned (.bool true) ∧ Below W.heap.size W w' := cuts_calls H s t cut W
end Go.Proofs.Ytbbeikdbioelgaa.M
