/- Walks of package nuncioref04: Labels, Is. -/
import Derived.Test.YtbbeikdbioelgaaMName
set_option linter.unusedVariables false
set_option linter.unusedSimpArgs false
namespace Go.Proofs.Ytbbeikdbioelgaa.M
open Go.RowKit Go.Proofs.YtbbeikdbioelgaaW.PrintWords Go.Proofs.YtbbeikdbioelgaaW.PrintLast Go.Proofs.YtbbeikdbioelgaaW.PrintMore
attribute [local go_sem] max2_int min2_int max_two min_two max_three min_three max_four min_four
theorem nb_rest (s : ByteArray) (a i : Nat) : nb (s.extract a s.size) i = nb s (a + i) := by
  unfold nb
  by_cases h : a + i < s.size
  · have h1 : i < (s.extract a s.size).size := by rw [ByteArray.size_extract]; omega
    rw [dif_pos h1, dif_pos h]
    congr 1
    exact ByteArray.getElem_extract h1
  · have h1 : ¬ i < (s.extract a s.size).size := by rw [ByteArray.size_extract]; omega
    rw [dif_neg h1, dif_neg h]
theorem rest_rest (s : ByteArray) (a i : Nat) (h : a ≤ s.size) : (s.extract a s.size).extract i (s.extract a s.size).size = s.extract (a + i) s.size := by
  rw [ByteArray.extract_extract, ByteArray.size_extract]
  congr 1
  omega
theorem rest_mid (s : ByteArray) (a i j : Nat) (h : a + j ≤ s.size) : (s.extract a s.size).extract i j = s.extract (a + i) (a + j) := by
  rw [ByteArray.extract_extract]
  congr 1
  omega
set_option maxHeartbeats 4000000 in
set_option maxRecDepth 100000 in
theorem labels_calls (s : ByteArray) (w : World) (hsz : s.size ≤ 140737488351232) :
    Calls Try.prog 51 #[.string s] w fun e w' => ∃ v, e = .returned (.tuple #[v, .bool (split s).2]) ∧ Kd.R Kd.string 9 w' w.heap.size (fun _ => True) v (split s).1 ∧ Below w.heap.size w w' := by
  have HB := Aside0.mk (Below.refl w.heap.size w)
  obtain ⟨r, hr⟩ : ∃ r, split s = r := ⟨_, rfl⟩
  rw [hr]
  by_cases hl : 255 < s.size
  · obtain rfl : r = ([], false) := by rw [← hr]; unfold split; rw [if_pos hl]
    have h1 : decide ((0 : Int) < (s.size : Int)) = true := decide_eq_true (by omega)
    have h2 : decide (0 < s.size) = true := decide_eq_true (by omega)
    have h3 : decide ((s.size : Int) ≤ 255) = false := decide_eq_false (by omega)
    have h4 : decide (s.size ≤ 255) = false := decide_eq_false (by omega)
    clear hl hr
    go_enter Try.func51, Try.ntmps51
    go_wp2
    go_loopg [4, 5] 1 (fun kq v4 v5 w' => v5 = .int .i64 0 ∧ Aside0 (Below w.heap.size w w'))
    case atStart => exact ⟨rfl, HB⟩
    case round =>
      obtain ⟨rfl, HB2⟩ := hrel
      go_wp2
      go_ret2
      exact ⟨_, rfl, Kd.R_nil _ _ _ _ _, HB2.out⟩
  · have h3 : decide ((s.size : Int) ≤ 255) = true := decide_eq_true (by omega)
    have h4 : decide (s.size ≤ 255) = true := decide_eq_true (by omega)
    have HR := Aside0.mk (show splitF (s.size + 1) (s.extract 0 s.size) [] = r by rw [← hr]; unfold split; rw [if_neg hl]; congr 1; apply ByteArray.ext; simp)
    have q0 : (s.size : Int) ≤ 255 := by omega
    have HS := Lib.hid (show s.size ≤ 255 by omega)
    clear hl hr hsz
    go_enter Try.func51, Try.ntmps51
    go_wp2
    go_loopg [4, 5] (s.size + 1) (fun kq v4 v5 w' => ∃ (a : Nat) (out : List ByteArray), v5 = .int .i64 a ∧ Aside0 (splitF kq (s.extract a s.size) out = r) ∧ Aside0 (s.size < kq + a) ∧ Aside0 (a ≤ s.size) ∧ Aside0 (out.length ≤ a) ∧ Aside0 (Kd.R Kd.string 9 w' w.heap.size (fun _ => True) v4 out) ∧ Aside0 (Below w.heap.size w w'))
    case atStart => exact ⟨0, [], rfl, HR, ⟨by omega⟩, ⟨Nat.zero_le _⟩, ⟨Nat.le_refl _⟩, ⟨Kd.R_nil _ _ _ _ _⟩, HB⟩
    case round =>
      clear HR HB
      obtain ⟨a, out, rfl, HR, HK, HA, HL, HO, HB⟩ := hrel
      obtain ⟨k, rfl⟩ : ∃ k, gk = k + 1 := ⟨gk - 1, by have := HK.out; have := HA.out; omega⟩
      have hr := HR.out
      simp only [splitF] at hr
      clear HR
      have hx : (s.extract a s.size).size = s.size - a := by rw [ByteArray.size_extract]; omega
      rw [hx, nb_rest, Nat.add_zero] at hr
      by_cases c1 : s.size - a = 0
      · rw [if_pos c1] at hr
        subst hr
        have d1 : decide ((a : Int) < (s.size : Int)) = false := decide_eq_false (by omega)
        have d2 : decide (a < s.size) = false := decide_eq_false (by omega)
        clear c1 hx
        go_wp2
        go_ret2
        exact ⟨_, rfl, Kd.R_nil _ _ _ _ _, HB.out⟩
      · rw [if_neg c1] at hr
        have q1 : a < s.size := by omega
        have q2 : (a : Int) < (s.size : Int) := by omega
        have q3 : (0 : Int) ≤ (a : Int) := by omega
        have d1 : decide ((a : Int) < (s.size : Int)) = true := decide_eq_true q2
        have d2 : decide (a < s.size) = true := decide_eq_true q1
        have hx' := nb_at s a
        have hn := nb_lt s a
        obtain ⟨n, hnb⟩ : ∃ n, nb s a = n := ⟨_, rfl⟩
        rw [hnb] at hx' hn hr
        have HX := Lib.hid hx
        clear hnb c1 hx
        by_cases c2 : n = 0
        · subst c2
          rw [if_pos rfl] at hr
          subst hr
          have HF := Lib.hid (show ((a : Int) == (s.size : Int) - 1) = (s.size - a == 1) by
            rw [Bool.eq_iff_iff]
            simp only [beq_iff_eq]
            omega)
          go_wp2
          go_ret2
          exact ⟨_, by rw [← HF.out]; rfl, HO.out, HB.out⟩
        · rw [if_neg c2] at hr
          have q4 : (0 : Int) < (n : Int) := by omega
          have q5 : (n : Int) ≤ 255 := by omega
          have e2 : ((n : Int) == 0) = false := beq_eq_false_iff_ne.mpr (by omega)
          clear c2
          by_cases c3 : 63 < n ∨ s.size - a ≤ n
          · rw [if_pos c3] at hr
            subst hr
            by_cases c4 : 63 < n
            · have e3 : decide ((63 : Int) < (n : Int)) = true := decide_eq_true (by omega)
              clear c3 c4
              go_wp2
              go_ret2
              exact ⟨_, rfl, Kd.R_nil _ _ _ _ _, HB.out⟩
            · have e3 : decide ((63 : Int) < (n : Int)) = false := decide_eq_false (by omega)
              have e4 : decide ((s.size : Int) - 1 - (a : Int) < (n : Int)) = true := decide_eq_true (by omega)
              clear c3 c4
              go_wp2
              go_ret2
              exact ⟨_, rfl, Kd.R_nil _ _ _ _ _, HB.out⟩
          · rw [if_neg c3, ← HX.out, rest_rest _ _ _ (by omega), rest_mid _ _ _ _ (by omega)] at hr
            have e3 : decide ((63 : Int) < (n : Int)) = false := decide_eq_false (by omega)
            have e4 : decide ((s.size : Int) - 1 - (a : Int) < (n : Int)) = false := decide_eq_false (by omega)
            have q6 : (a : Int) + 1 + (n : Int) ≤ (s.size : Int) := by omega
            have q7 : (a : Int) + 1 ≤ (a : Int) + 1 + (n : Int) := by omega
            have q8 : (0 : Int) ≤ (a : Int) + 1 := by omega
            have HN := Lib.hid (show a + 1 + n ≤ s.size by omega)
            have HS2 := Aside0.mk (show (out.length + 1) * 16 ≤ 140737488355328 by have := HL.out; have := HA.out; have := HS.out; omega)
            clear c3
            go_wp2_with ((with_reducible refine gate_builtin (b := .append) (xs := #[.tmp 39, .tmp 48]) rfl ?_); at_builtin; refine appS rfl (.tmp 39) (.tmp 48) rfl rfl rfl HO.out HB.out (fun _ _ _ => trivial) (below_size HB.out) HS2.out ?_; intro v1 w1 ho1 hb1 hg1 hat1; have HO1 := Aside0.mk ho1; have HB1 := Aside0.mk hb1; clear ho1 hb1 hg1 hat1)
            go_roundg k
            case measure => omega
            case rel => exact ⟨a + 1 + n, _, by go_num, ⟨by rw [show a + 1 + n = a + (n + 1) by omega]; exact hr⟩, ⟨by have := HK.out; omega⟩, ⟨HN.out⟩, ⟨by have := HL.out; rw [List.length_append, List.length_singleton]; omega⟩, HO1, HB1⟩
theorem refIs_calls (s : ByteArray) (w : World) (hsz : s.size ≤ 140737488351232) : Calls Try.prog 26 #[.string s] w fun e w' => e = .returned (.bool (isName s)) ∧ Below w.heap.size w w' := by
  obtain ⟨b, hb⟩ : ∃ b, (split s).2 = b := ⟨_, rfl⟩
  have H := Lib.hid hb
  show Calls Try.prog _ _ _ fun e w' => e = .returned (.bool (split s).2) ∧ Below w.heap.size w w'
  rw [hb]
  clear hb
  go_enter Try.func26, Try.ntmps26
  go_wp2_with (go_at_call 51; refine (labels_calls s _ hsz).mono ?_; rintro e w' ⟨v, rfl, _, hb⟩; rw [H.out]; have HB := Aside0.mk hb; clear hb)
  go_ret
  exact ⟨rfl, HB.out⟩
end Go.Proofs.Ytbbeikdbioelgaa.M
