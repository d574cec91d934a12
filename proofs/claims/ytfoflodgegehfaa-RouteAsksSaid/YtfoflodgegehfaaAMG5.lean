/- Joined texts: walks and plain laws. -/
import Derived.Test.YtfoflodgegehfaaAMG2
import Derived.Test.YtfoflodgegehfaaAMG3
import Derived.Laws.Concat
import Derived.Test.YtfoflodgegehfaaAMG4
import Derived.Deep.RegionHeld
set_option linter.unusedVariables false
set_option linter.unusedSimpArgs false
namespace Go.Proofs.Ytfoflodgegehfaa.M
open Go.RowKit Go.Proofs.YtfoflodgegehfaaW.PrintWords Go.Proofs.YtfoflodgegehfaaW.PrintLast Go.Proofs.YtfoflodgegehfaaW.PrintMore
attribute [local go_sem] max2_int min2_int max_two min_two max_three min_three max_four min_four
theorem nb_rest (s : ByteArray) (a i : Nat) : nb (s.extract a s.size) i = nb s (a + i) := by
  unfold nb
  by_cases h : a + i < s.size
  · have h1 : i < (s.extract a s.size).size := by rw [ByteArray.size_extract]; omega
    rw [dif_pos h1, dif_pos h]
    congr 1
    exact ByteArray.getElem_extract h1
  · have h1 : ¬ i < (s.extract a s.size).size := by rw [ByteArray.size_extract]; omega
    rw [dif_neg h1, dif_neg h]
theorem rest_rest (s : ByteArray) (a i : Nat) (h : a ≤ s.size) : (s.extract a s.size).extract i (s.extract a s.size).size = s.extract (a + i) s.size := by
  rw [ByteArray.extract_extract, ByteArray.size_extract]
  congr 1
  omega
theorem rest_mid (s : ByteArray) (a i j : Nat) (h : a + j ≤ s.size) : (s.extract a s.size).extract i j = s.extract (a + i) (a + j) := by
  rw [ByteArray.extract_extract]
  congr 1
  omega
set_option maxHeartbeats 4000000 in
set_option maxRecDepth 100000 in
theorem labels_calls (s : ByteArray) (w : World) (hsz : s.size ≤ 140737488351232) :
    Calls Try.prog 57 #[.string s] w fun e w' => ∃ v, e = .returned (.tuple #[v, .bool (split s).2]) ∧ Kd.R Kd.string 9 w' w.heap.size (fun _ => True) v (split s).1 ∧ Below w.heap.size w w' := by
  have HB := Aside0.mk (Below.refl w.heap.size w)
  obtain ⟨r, hr⟩ : ∃ r, split s = r := ⟨_, rfl⟩
  rw [hr]
  by_cases hl : 255 < s.size
  · obtain rfl : r = ([], false) := by rw [← hr]; unfold split; rw [if_pos hl]
    have h1 : decide ((0 : Int) < (s.size : Int)) = true := decide_eq_true (by omega)
    have h2 : decide (0 < s.size) = true := decide_eq_true (by omega)
    have h3 : decide ((s.size : Int) ≤ 255) = false := decide_eq_false (by omega)
    have h4 : decide (s.size ≤ 255) = false := decide_eq_false (by omega)
    clear hl hr
    go_enter Try.func57, Try.ntmps57
    go_wp2
    go_loopg [4, 5] 1 (fun kq v4 v5 w' => v5 = .int .i64 0 ∧ Aside0 (Below w.heap.size w w'))
    case atStart => exact ⟨rfl, HB⟩
    case round =>
      obtain ⟨rfl, HB2⟩ := hrel
      go_wp2
      go_ret2
      exact ⟨_, rfl, Kd.R_nil _ _ _ _ _, HB2.out⟩
  · have h3 : decide ((s.size : Int) ≤ 255) = true := decide_eq_true (by omega)
    have h4 : decide (s.size ≤ 255) = true := decide_eq_true (by omega)
    have HR := Aside0.mk (show splitF (s.size + 1) (s.extract 0 s.size) [] = r by rw [← hr]; unfold split; rw [if_neg hl]; congr 1; apply ByteArray.ext; simp)
    have q0 : (s.size : Int) ≤ 255 := by omega
    have HS := Lib.hid (show s.size ≤ 255 by omega)
    clear hl hr hsz
    go_enter Try.func57, Try.ntmps57
    go_wp2
    go_loopg [4, 5] (s.size + 1) (fun kq v4 v5 w' => ∃ (a : Nat) (out : List ByteArray), v5 = .int .i64 a ∧ Aside0 (splitF kq (s.extract a s.size) out = r) ∧ Aside0 (s.size < kq + a) ∧ Aside0 (a ≤ s.size) ∧ Aside0 (out.length ≤ a) ∧ Aside0 (Kd.R Kd.string 9 w' w.heap.size (fun _ => True) v4 out) ∧ Aside0 (Below w.heap.size w w'))
    case atStart => exact ⟨0, [], rfl, HR, ⟨by omega⟩, ⟨Nat.zero_le _⟩, ⟨Nat.le_refl _⟩, ⟨Kd.R_nil _ _ _ _ _⟩, HB⟩
    case round =>
      clear HR HB
      obtain ⟨a, out, rfl, HR, HK, HA, HL, HO, HB⟩ := hrel
      obtain ⟨k, rfl⟩ : ∃ k, gk = k + 1 := ⟨gk - 1, by have := HK.out; have := HA.out; omega⟩
      have hr := HR.out
      simp only [splitF] at hr
      clear HR
      have hx : (s.extract a s.size).size = s.size - a := by rw [ByteArray.size_extract]; omega
      rw [hx, nb_rest, Nat.add_zero] at hr
      by_cases c1 : s.size - a = 0
      · rw [if_pos c1] at hr
        subst hr
        have d1 : decide ((a : Int) < (s.size : Int)) = false := decide_eq_false (by omega)
        have d2 : decide (a < s.size) = false := decide_eq_false (by omega)
        clear c1 hx
        go_wp2
        go_ret2
        exact ⟨_, rfl, Kd.R_nil _ _ _ _ _, HB.out⟩
      · rw [if_neg c1] at hr
        have q1 : a < s.size := by omega
        have q2 : (a : Int) < (s.size : Int) := by omega
        have q3 : (0 : Int) ≤ (a : Int) := by omega
        have d1 : decide ((a : Int) < (s.size : Int)) = true := decide_eq_true q2
        have d2 : decide (a < s.size) = true := decide_eq_true q1
        have hx' := nb_at s a
        have hn := nb_lt s a
        obtain ⟨n, hnb⟩ : ∃ n, nb s a = n := ⟨_, rfl⟩
        rw [hnb] at hx' hn hr
        have HX := Lib.hid hx
        clear hnb c1 hx
        by_cases c2 : n = 0
        · subst c2
          rw [if_pos rfl] at hr
          subst hr
          have HF := Lib.hid (show ((a : Int) == (s.size : Int) - 1) = (s.size - a == 1) by
            rw [Bool.eq_iff_iff]
            simp only [beq_iff_eq]
            omega)
          go_wp2
          go_ret2
          exact ⟨_, by rw [← HF.out]; rfl, HO.out, HB.out⟩
        · rw [if_neg c2] at hr
          have q4 : (0 : Int) < (n : Int) := by omega
          have q5 : (n : Int) ≤ 255 := by omega
          have e2 : ((n : Int) == 0) = false := beq_eq_false_iff_ne.mpr (by omega)
          clear c2
          by_cases c3 : 63 < n ∨ s.size - a ≤ n
          · rw [if_pos c3] at hr
            subst hr
            by_cases c4 : 63 < n
            · have e3 : decide ((63 : Int) < (n : Int)) = true := decide_eq_true (by omega)
              clear c3 c4
              go_wp2
              go_ret2
              exact ⟨_, rfl, Kd.R_nil _ _ _ _ _, HB.out⟩
            · have e3 : decide ((63 : Int) < (n : Int)) = false := decide_eq_false (by omega)
              have e4 : decide ((s.size : Int) - 1 - (a : Int) < (n : Int)) = true := decide_eq_true (by omega)
              clear c3 c4
              go_wp2
              go_ret2
              exact ⟨_, rfl, Kd.R_nil _ _ _ _ _, HB.out⟩
          · rw [if_neg c3, ← HX.out, rest_rest _ _ _ (by omega), rest_mid _ _ _ _ (by omega)] at hr
            have e3 : decide ((63 : Int) < (n : Int)) = false := decide_eq_false (by omega)
            have e4 : decide ((s.size : Int) - 1 - (a : Int) < (n : Int)) = false := decide_eq_false (by omega)
            have q6 : (a : Int) + 1 + (n : Int) ≤ (s.size : Int) := by omega
            have q7 : (a : Int) + 1 ≤ (a : Int) + 1 + (n : Int) := by omega
            have q8 : (0 : Int) ≤ (a : Int) + 1 := by omega
            have HN := Lib.hid (show a + 1 + n ≤ s.size by omega)
            have HS2 := Aside0.mk (show (out.length + 1) * 16 ≤ 140737488355328 by have := HL.out; have := HA.out; have := HS.out; omega)
            clear c3
            go_wp2_with ((with_reducible refine gate_builtin (b := .append) (xs := #[.tmp 39, .tmp 48]) rfl ?_); at_builtin; refine appS rfl (.tmp 39) (.tmp 48) rfl rfl rfl HO.out HB.out (fun _ _ _ => trivial) (below_size HB.out) HS2.out ?_; intro v1 w1 ho1 hb1 hg1 hat1; have HO1 := Aside0.mk ho1; have HB1 := Aside0.mk hb1; clear ho1 hb1 hg1 hat1)
            go_roundg k
            case measure => omega
            case rel => exact ⟨a + 1 + n, _, by go_num, ⟨by rw [show a + 1 + n = a + (n + 1) by omega]; exact hr⟩, ⟨by have := HK.out; omega⟩, ⟨HN.out⟩, ⟨by have := HL.out; rw [List.length_append, List.length_singleton]; omega⟩, HO1, HB1⟩
theorem refIs_calls (s : ByteArray) (w : World) (hsz : s.size ≤ 140737488351232) : Calls Try.prog 43 #[.string s] w fun e w' => e = .returned (.bool (isName s)) ∧ Below w.heap.size w w' := by
  obtain ⟨b, hb⟩ : ∃ b, (split s).2 = b := ⟨_, rfl⟩
  have H := Lib.hid hb
  show Calls Try.prog _ _ _ fun e w' => e = .returned (.bool (split s).2) ∧ Below w.heap.size w w'
  rw [hb]
  clear hb
  go_enter Try.func43, Try.ntmps43
  go_wp2_with (go_at_call 57; refine (labels_calls s _ hsz).mono ?_; rintro e w' ⟨v, rfl, _, hb⟩; rw [H.out]; have HB := Aside0.mk hb; clear hb)
  go_ret
  exact ⟨rfl, HB.out⟩
end Go.Proofs.Ytfoflodgegehfaa.M
set_option linter.unusedVariables false
set_option linter.unusedSimpArgs false
namespace Go.Proofs.Ytfoflodgegehfaa.M
open Go.RowKit Go.Proofs.YtfoflodgegehfaaW.PrintWords Go.Proofs.YtfoflodgegehfaaW.PrintLast Go.Proofs.YtfoflodgegehfaaW.PrintMore
attribute [local go_sem] max2_int min2_int max_two min_two max_three min_three max_four min_four
set_option maxHeartbeats 2000000 in
set_option maxRecDepth 100000 in
theorem Shape5_calls (k : Int) (w : World) : Calls Try.prog 71 #[.int .u16 k] w fun e w' => e = .returned (.tuple #[.int .i64 (shapeOf k).1, .int .i64 (shapeOf k).2.1, .int .i64 (shapeOf k).2.2]) ∧ w = w' := by
  obtain ⟨x, hx⟩ : ∃ x, shapeOf k = x := ⟨_, rfl⟩
  rw [hx]
  unfold shapeOf at hx
  by_cases h2 : k = 2
  · subst h2
    subst hx
    go_enter Try.func71, Try.ntmps71
    go_wp2
    first | go_ret3 | (refine bodyPost_ret (results_tmp3 rfl _ _ _) rfl ?_) | (refine bodyPost_ret (by simp [results, Try.results71, go_sem]; rfl) rfl ?_)
    exact ⟨rfl, rfl⟩
  have e2 : (k == 2) = false := beq_eq_false_iff_ne.mpr h2
  by_cases h5 : k = 5
  · subst h5
    subst hx
    go_enter Try.func71, Try.ntmps71
    go_wp2
    first | go_ret3 | (refine bodyPost_ret (results_tmp3 rfl _ _ _) rfl ?_) | (refine bodyPost_ret (by simp [results, Try.results71, go_sem]; rfl) rfl ?_)
    exact ⟨rfl, rfl⟩
  have e5 : (k == 5) = false := beq_eq_false_iff_ne.mpr h5
  by_cases h12 : k = 12
  · subst h12
    subst hx
    go_enter Try.func71, Try.ntmps71
    go_wp2
    first | go_ret3 | (refine bodyPost_ret (results_tmp3 rfl _ _ _) rfl ?_) | (refine bodyPost_ret (by simp [results, Try.results71, go_sem]; rfl) rfl ?_)
    exact ⟨rfl, rfl⟩
  have e12 : (k == 12) = false := beq_eq_false_iff_ne.mpr h12
  by_cases h6 : k = 6
  · subst h6
    subst hx
    go_enter Try.func71, Try.ntmps71
    go_wp2
    first | go_ret3 | (refine bodyPost_ret (results_tmp3 rfl _ _ _) rfl ?_) | (refine bodyPost_ret (by simp [results, Try.results71, go_sem]; rfl) rfl ?_)
    exact ⟨rfl, rfl⟩
  have e6 : (k == 6) = false := beq_eq_false_iff_ne.mpr h6
  by_cases h15 : k = 15
  · subst h15
    subst hx
    go_enter Try.func71, Try.ntmps71
    go_wp2
    first | go_ret3 | (refine bodyPost_ret (results_tmp3 rfl _ _ _) rfl ?_) | (refine bodyPost_ret (by simp [results, Try.results71, go_sem]; rfl) rfl ?_)
    exact ⟨rfl, rfl⟩
  have e15 : (k == 15) = false := beq_eq_false_iff_ne.mpr h15
  by_cases h33 : k = 33
  · subst h33
    subst hx
    go_enter Try.func71, Try.ntmps71
    go_wp2
    first | go_ret3 | (refine bodyPost_ret (results_tmp3 rfl _ _ _) rfl ?_) | (refine bodyPost_ret (by simp [results, Try.results71, go_sem]; rfl) rfl ?_)
    exact ⟨rfl, rfl⟩
  have e33 : (k == 33) = false := beq_eq_false_iff_ne.mpr h33
  rw [if_neg h2, if_neg h5, if_neg h12, if_neg h6, if_neg h15, if_neg h33] at hx
  subst hx
  clear h2 h5 h12 h6 h15 h33
  go_enter Try.func71, Try.ntmps71
  go_wp2
  first | go_ret3 | (refine bodyPost_ret (results_tmp3 rfl _ _ _) rfl ?_) | (refine bodyPost_ret (by simp [results, Try.results71, go_sem]; rfl) rfl ?_)
  exact ⟨rfl, rfl⟩
def badNum (r : Rec) (n : Int) : Bool := decide (¬ r.f1 = 6 ∧ 65535 < n)
def badText (r : Rec) (s : ByteArray) : Bool := decide (r.f1 = 16 ∧ 255 < s.size ∨ r.f1 = 1 ∧ s.size ≠ 4 ∨ r.f1 = 28 ∧ s.size ≠ 16)
theorem shapedB_eq (r : Rec) : shapedB r = if ¬ (r.f4.length = (shapeOf r.f1).1 ∧ r.f5.length = (shapeOf r.f1).2.1 ∧ (r.f6.length = (shapeOf r.f1).2.2 ∨ r.f1 = 16 ∧ r.f6.length ≠ 0)) then false else if r.f5.any (badNum r) then false else !(r.f6.any (badText r)) := by
  unfold shapedB
  by_cases h1 : r.f4.length = (shapeOf r.f1).1 ∧ r.f5.length = (shapeOf r.f1).2.1 ∧ (r.f6.length = (shapeOf r.f1).2.2 ∨ r.f1 = 16 ∧ r.f6.length ≠ 0)
  · rw [if_neg (fun h => h h1)]
    have hn : decide (r.f4.length = (shapeOf r.f1).1 ∧ r.f5.length = (shapeOf r.f1).2.1 ∧ (r.f6.length = (shapeOf r.f1).2.2 ∨ r.f1 = 16 ∧ r.f6.length ≠ 0) ∧ (r.f1 = 6 ∨ (r.f5.all fun n => decide (n ≤ 65535)) = true)) = !(r.f5.any (badNum r)) := by
      rw [Bool.eq_iff_iff, decide_eq_true_iff, Bool.not_eq_true', List.any_eq_false]
      constructor
      · rintro ⟨_, _, _, h⟩ n hn hb
        unfold badNum at hb
        have hb := of_decide_eq_true hb
        rcases h with h | h
        · exact hb.1 h
        · rw [List.all_eq_true] at h
          have := of_decide_eq_true (h n hn)
          omega
      · intro h
        refine ⟨h1.1, h1.2.1, h1.2.2, ?_⟩
        by_cases h6 : r.f1 = 6
        · exact .inl h6
        · right
          rw [List.all_eq_true]
          intro n hn
          have := h n hn
          unfold badNum at this
          rw [decide_eq_true_iff] at this
          exact decide_eq_true (by omega)
    have ht : shapedE r = !(r.f6.any (badText r)) := by
      unfold shapedE
      have hlen : ∀ k, r.f1 = k → k ≠ 16 → (shapeOf k).2.2 = 1 → ∃ t, r.f6 = [t] := by
        intro k hk h16 hs
        have := h1.2.2
        rw [hk, hs] at this
        rcases this with h | h
        · match hl : r.f6, h with
          | [t], _ => exact ⟨t, rfl⟩
        · exact absurd h.1 h16
      by_cases k1 : r.f1 = 1
      · obtain ⟨t, ht⟩ := hlen 1 k1 (by decide) rfl
        rw [if_pos k1, ht]
        simp only [List.getD_cons_zero, List.any_cons, List.any_nil, Bool.or_false]
        unfold badText
        rw [Bool.eq_iff_iff, Bool.not_eq_true', decide_eq_true_iff, decide_eq_false_iff_not]
        omega
      · rw [if_neg k1]
        by_cases k28 : r.f1 = 28
        · obtain ⟨t, ht⟩ := hlen 28 k28 (by decide) rfl
          rw [if_pos k28, ht]
          simp only [List.getD_cons_zero, List.any_cons, List.any_nil, Bool.or_false]
          unfold badText
          rw [Bool.eq_iff_iff, Bool.not_eq_true', decide_eq_true_iff, decide_eq_false_iff_not]
          omega
        · rw [if_neg k28]
          by_cases k16 : r.f1 = 16
          · rw [if_pos k16]
            congr 2
            funext s
            unfold tooLong badText
            congr 1
            apply propext
            omega
          · rw [if_neg k16]
            have : r.f6.any (badText r) = false := by
              rw [List.any_eq_false]
              intro s _ hb
              unfold badText at hb
              have := of_decide_eq_true hb
              omega
            rw [this]
            rfl
    rw [hn, ht]
    cases r.f5.any (badNum r) <;> rfl
  · rw [if_pos h1, decide_eq_false (fun h => h1 ⟨h.1, h.2.1, h.2.2.1⟩)]
    rfl
set_option maxHeartbeats 8000000 in
set_option maxRecDepth 100000 in
theorem shaped5_calls (r : Rec) (v : Value) (w : World) (hv : RecAt w v r) (hm : r.f6.length ≤ 1000000000) (h4 : r.f4.length ≤ 1000000000) (h5 : r.f5.length ≤ 1000000000) :
    Calls Try.prog 74 #[v] w fun e w' => e = .returned (.bool (shapedB r)) ∧ Below w.heap.size w w' := by
  obtain ⟨A4, c4, A5, c5, A6, c6, rfl, l4, g4, l5, g5, l6, g6⟩ := hv
  have G5 := Aside0.mk g5
  have G6 := Aside0.mk g6
  clear g4 g5 g6
  obtain ⟨s1, s2, s3⟩ := shapeOf_le r.f1
  obtain ⟨R, hR⟩ : ∃ R, shapedB r = R := ⟨_, rfl⟩
  rw [hR]
  rw [shapedB_eq] at hR
  obtain ⟨⟨a, b, c⟩, hs⟩ : ∃ x, shapeOf r.f1 = x := ⟨_, rfl⟩
  rw [hs] at s1 s2 s3 hR
  simp only [] at hR s1 s2 s3
  have HS := Lib.hid hs
  clear hs
  by_cases k1 : r.f4.length = a
  case neg =>
    rw [if_pos (fun h => k1 h.1)] at hR
    subst hR
    have e1 : ((r.f4.length : Int) != (a : Int)) = true := by rw [bne_iff_ne]; omega
    clear k1
    go_enter Try.func74, Try.ntmps74
    go_wp2_with (((with_reducible refine gate_dst (N := 1) rfl ?_); refine box_event rfl (N := 1) rfl (cs := #[.string r.f0, .int .u16 r.f1, .int .u16 r.f2, .int .u32 r.f3, .slice A4 r.f4.length c4, .slice A5 r.f5.length c5, .slice A6 r.f6.length c6]) (t := 85) (by first | (go_simp; done) | (go_simp; rfl)) ?_; intro g hg w1 hbox hb); have HX := Aside0.mk hbox; have HB := Aside0.mk hb; have HGe := Aside0.mk hg; clear hb hg; have z0 : w1.cell? ⟨g, 0, none⟩ = some (.string r.f0) := (blk_cell HX.out 0).trans rfl; clear hbox; have z1 : w1.cell? ⟨g, 1, none⟩ = some (.int .u16 r.f1) := (blk_cell HX.out 1).trans rfl; have z2 : w1.cell? ⟨g, 2, none⟩ = some (.int .u16 r.f2) := (blk_cell HX.out 2).trans rfl; have z3 : w1.cell? ⟨g, 3, none⟩ = some (.int .u32 r.f3) := (blk_cell HX.out 3).trans rfl; have z4 : w1.cell? ⟨g, 4, none⟩ = some (.slice A4 r.f4.length c4) := (blk_cell HX.out 4).trans rfl; have z5 : w1.cell? ⟨g, 5, none⟩ = some (.slice A5 r.f5.length c5) := (blk_cell HX.out 5).trans rfl; have z6 : w1.cell? ⟨g, 6, none⟩ = some (.slice A6 r.f6.length c6) := (blk_cell HX.out 6).trans rfl)
    refine (Shape5_calls r.f1 _).mono ?_
    rw [HS.out]
    rintro e w' ⟨rfl, rfl⟩
    go_wp2_with fail
    go_ret
    exact ⟨rfl, HB.out⟩
  have e1 : ((r.f4.length : Int) != (a : Int)) = false := by rw [bne_eq_false_iff_eq]; omega
  by_cases k2 : r.f5.length = b
  case neg =>
    rw [if_pos (fun h => k2 h.2.1)] at hR
    subst hR
    have e2 : ((r.f5.length : Int) != (b : Int)) = true := by rw [bne_iff_ne]; omega
    clear k1 k2
    go_enter Try.func74, Try.ntmps74
    go_wp2_with (((with_reducible refine gate_dst (N := 1) rfl ?_); refine box_event rfl (N := 1) rfl (cs := #[.string r.f0, .int .u16 r.f1, .int .u16 r.f2, .int .u32 r.f3, .slice A4 r.f4.length c4, .slice A5 r.f5.length c5, .slice A6 r.f6.length c6]) (t := 85) (by first | (go_simp; done) | (go_simp; rfl)) ?_; intro g hg w1 hbox hb); have HX := Aside0.mk hbox; have HB := Aside0.mk hb; have HGe := Aside0.mk hg; clear hb hg; have z0 : w1.cell? ⟨g, 0, none⟩ = some (.string r.f0) := (blk_cell HX.out 0).trans rfl; clear hbox; have z1 : w1.cell? ⟨g, 1, none⟩ = some (.int .u16 r.f1) := (blk_cell HX.out 1).trans rfl; have z2 : w1.cell? ⟨g, 2, none⟩ = some (.int .u16 r.f2) := (blk_cell HX.out 2).trans rfl; have z3 : w1.cell? ⟨g, 3, none⟩ = some (.int .u32 r.f3) := (blk_cell HX.out 3).trans rfl; have z4 : w1.cell? ⟨g, 4, none⟩ = some (.slice A4 r.f4.length c4) := (blk_cell HX.out 4).trans rfl; have z5 : w1.cell? ⟨g, 5, none⟩ = some (.slice A5 r.f5.length c5) := (blk_cell HX.out 5).trans rfl; have z6 : w1.cell? ⟨g, 6, none⟩ = some (.slice A6 r.f6.length c6) := (blk_cell HX.out 6).trans rfl)
    refine (Shape5_calls r.f1 _).mono ?_
    rw [HS.out]
    rintro e w' ⟨rfl, rfl⟩
    go_wp2_with fail
    go_ret
    exact ⟨rfl, HB.out⟩
  have e2 : ((r.f5.length : Int) != (b : Int)) = false := by rw [bne_eq_false_iff_eq]; omega
  by_cases k3 : r.f6.length = c ∨ r.f1 = 16 ∧ r.f6.length ≠ 0
  case neg =>
    rw [if_pos (fun h => k3 h.2.2)] at hR
    subst hR
    by_cases k4 : r.f1 = 16
    · have e5 : ((r.f6.length : Int) == 0) = true := beq_iff_eq.mpr (by omega)
      have e4 : (r.f1 == 16) = true := beq_iff_eq.mpr k4
      clear k1 k2 k3 k4
      go_enter Try.func74, Try.ntmps74
      go_wp2_with (((with_reducible refine gate_dst (N := 1) rfl ?_); refine box_event rfl (N := 1) rfl (cs := #[.string r.f0, .int .u16 r.f1, .int .u16 r.f2, .int .u32 r.f3, .slice A4 r.f4.length c4, .slice A5 r.f5.length c5, .slice A6 r.f6.length c6]) (t := 85) (by first | (go_simp; done) | (go_simp; rfl)) ?_; intro g hg w1 hbox hb); have HX := Aside0.mk hbox; have HB := Aside0.mk hb; have HGe := Aside0.mk hg; clear hb hg; have z0 : w1.cell? ⟨g, 0, none⟩ = some (.string r.f0) := (blk_cell HX.out 0).trans rfl; clear hbox; have z1 : w1.cell? ⟨g, 1, none⟩ = some (.int .u16 r.f1) := (blk_cell HX.out 1).trans rfl; have z2 : w1.cell? ⟨g, 2, none⟩ = some (.int .u16 r.f2) := (blk_cell HX.out 2).trans rfl; have z3 : w1.cell? ⟨g, 3, none⟩ = some (.int .u32 r.f3) := (blk_cell HX.out 3).trans rfl; have z4 : w1.cell? ⟨g, 4, none⟩ = some (.slice A4 r.f4.length c4) := (blk_cell HX.out 4).trans rfl; have z5 : w1.cell? ⟨g, 5, none⟩ = some (.slice A5 r.f5.length c5) := (blk_cell HX.out 5).trans rfl; have z6 : w1.cell? ⟨g, 6, none⟩ = some (.slice A6 r.f6.length c6) := (blk_cell HX.out 6).trans rfl)
      refine (Shape5_calls r.f1 _).mono ?_
      rw [HS.out]
      rintro e w' ⟨rfl, rfl⟩
      go_wp2_with fail
      go_ret
      exact ⟨rfl, HB.out⟩
    · have e3 : ((r.f6.length : Int) != (c : Int)) = true := by rw [bne_iff_ne]; omega
      have e4 : (r.f1 == 16) = false := beq_eq_false_iff_ne.mpr k4
      have e5 : (r.f1 != 16) = true := by rw [bne_iff_ne]; exact k4
      clear k1 k2 k3 k4
      go_enter Try.func74, Try.ntmps74
      go_wp2_with (((with_reducible refine gate_dst (N := 1) rfl ?_); refine box_event rfl (N := 1) rfl (cs := #[.string r.f0, .int .u16 r.f1, .int .u16 r.f2, .int .u32 r.f3, .slice A4 r.f4.length c4, .slice A5 r.f5.length c5, .slice A6 r.f6.length c6]) (t := 85) (by first | (go_simp; done) | (go_simp; rfl)) ?_; intro g hg w1 hbox hb); have HX := Aside0.mk hbox; have HB := Aside0.mk hb; have HGe := Aside0.mk hg; clear hb hg; have z0 : w1.cell? ⟨g, 0, none⟩ = some (.string r.f0) := (blk_cell HX.out 0).trans rfl; clear hbox; have z1 : w1.cell? ⟨g, 1, none⟩ = some (.int .u16 r.f1) := (blk_cell HX.out 1).trans rfl; have z2 : w1.cell? ⟨g, 2, none⟩ = some (.int .u16 r.f2) := (blk_cell HX.out 2).trans rfl; have z3 : w1.cell? ⟨g, 3, none⟩ = some (.int .u32 r.f3) := (blk_cell HX.out 3).trans rfl; have z4 : w1.cell? ⟨g, 4, none⟩ = some (.slice A4 r.f4.length c4) := (blk_cell HX.out 4).trans rfl; have z5 : w1.cell? ⟨g, 5, none⟩ = some (.slice A5 r.f5.length c5) := (blk_cell HX.out 5).trans rfl; have z6 : w1.cell? ⟨g, 6, none⟩ = some (.slice A6 r.f6.length c6) := (blk_cell HX.out 6).trans rfl)
      refine (Shape5_calls r.f1 _).mono ?_
      rw [HS.out]
      rintro e w' ⟨rfl, rfl⟩
      go_wp2_with fail
      go_ret
      exact ⟨rfl, HB.out⟩
  rw [if_neg (fun h => h ⟨k1, k2, k3⟩)] at hR
  have hways : ((r.f1 == 16) = true ∧ (r.f1 != 16) = false ∧ ((r.f6.length : Int) == 0) = false) ∨ ((r.f1 == 16) = false ∧ (r.f1 != 16) = true ∧ ((r.f6.length : Int) != (c : Int)) = false) := by
    by_cases k4 : r.f1 = 16
    · refine .inl ⟨beq_iff_eq.mpr k4, by rw [bne_eq_false_iff_eq]; exact k4, beq_eq_false_iff_ne.mpr ?_⟩
      rcases k3 with k3 | k3
      · have hc : c = 1 := by have := HS.out; rw [k4] at this; exact (congrArg (fun x => x.2.2) this).symm
        omega
      · omega
    · refine .inr ⟨beq_eq_false_iff_ne.mpr k4, by rw [bne_iff_ne]; exact k4, ?_⟩
      rw [bne_eq_false_iff_eq]
      rcases k3 with k3 | k3
      · omega
      · exact absurd k3.1 k4
  have HR := Aside0.mk hR
  have k5 : r.f5.length ≤ 5 := by omega
  clear k1 k2 k3 hR
  rcases hways with ⟨e3, e4, e5⟩ | ⟨e3, e4, e5⟩
  · go_enter Try.func74, Try.ntmps74
    go_wp2_with (((with_reducible refine gate_dst (N := 1) rfl ?_); refine box_event rfl (N := 1) rfl (cs := #[.string r.f0, .int .u16 r.f1, .int .u16 r.f2, .int .u32 r.f3, .slice A4 r.f4.length c4, .slice A5 r.f5.length c5, .slice A6 r.f6.length c6]) (t := 85) (by first | (go_simp; done) | (go_simp; rfl)) ?_; intro g hg w1 hbox hb); have HX := Aside0.mk hbox; have HB := Aside0.mk hb; have HGe := Aside0.mk hg; clear hb hg; have z0 : w1.cell? ⟨g, 0, none⟩ = some (.string r.f0) := (blk_cell HX.out 0).trans rfl; clear hbox; have z1 : w1.cell? ⟨g, 1, none⟩ = some (.int .u16 r.f1) := (blk_cell HX.out 1).trans rfl; have z2 : w1.cell? ⟨g, 2, none⟩ = some (.int .u16 r.f2) := (blk_cell HX.out 2).trans rfl; have z3 : w1.cell? ⟨g, 3, none⟩ = some (.int .u32 r.f3) := (blk_cell HX.out 3).trans rfl; have z4 : w1.cell? ⟨g, 4, none⟩ = some (.slice A4 r.f4.length c4) := (blk_cell HX.out 4).trans rfl; have z5 : w1.cell? ⟨g, 5, none⟩ = some (.slice A5 r.f5.length c5) := (blk_cell HX.out 5).trans rfl; have z6 : w1.cell? ⟨g, 6, none⟩ = some (.slice A6 r.f6.length c6) := (blk_cell HX.out 6).trans rfl)
    refine (Shape5_calls r.f1 _).mono ?_
    rw [HS.out]
    rintro e w' ⟨rfl, rfl⟩
    go_wp2_with fail
    go_loop [6] (fun t => ∃ k : Nat, t = .int .i64 k ∧ Aside0 (k ≤ r.f5.length) ∧ Aside0 ((if (r.f5.drop k).any (badNum r) then false else !(r.f6.any (badText r))) = R)) (fun t => r.f5.length - (intOf t).toNat)
    case atStart => exact ⟨0, rfl, ⟨Nat.zero_le _⟩, HR⟩
    case round =>
      clear HR
      obtain ⟨k, rfl, HK, HE⟩ := hrel
      have he := HE.out
      clear HE
      by_cases hk : k < r.f5.length
      · obtain ⟨ad, rfl, hcell⟩ := at_int (Kd.C_below G5.out HB.out) k hk
        have q1 : (0 : Int) ≤ (k : Int) := by omega
        have q2 : (k : Int) < (r.f5.length : Int) := by omega
        rw [drop_get 0 r.f5 k hk, List.any_cons] at he
        obtain ⟨n, hn⟩ : ∃ n, r.f5.getD k 0 = n := ⟨_, rfl⟩
        rw [hn] at hcell he
        clear hn
        by_cases hb : ¬ r.f1 = 6 ∧ 65535 < n
        · rw [show badNum r n = true from decide_eq_true hb, Bool.true_or, if_pos rfl] at he
          subst he
          have e6 : (r.f1 != 6) = true := by rw [bne_iff_ne]; exact hb.1
          have d6 : decide (65535 < n) = true := decide_eq_true hb.2
          clear hb
          go_wp2
          go_ret
          exact ⟨rfl, HB.out⟩
        · rw [show badNum r n = false from decide_eq_false hb, Bool.false_or] at he
          have HE := Aside0.mk he
          clear he
          by_cases t6 : r.f1 = 6
          · have e6 : (r.f1 != 6) = false := by rw [bne_eq_false_iff_eq]; exact t6
            clear hb t6
            go_wp2
            go_round
            case rel => exact ⟨k + 1, by go_num, ⟨hk⟩, HE⟩
            case measure => simp [intOf]; omega
          · have e6 : (r.f1 != 6) = true := by rw [bne_iff_ne]; exact t6
            have d6 : decide (65535 < n) = false := decide_eq_false (by omega)
            clear hb t6
            go_wp2
            go_round
            case rel => exact ⟨k + 1, by go_num, ⟨hk⟩, HE⟩
            case measure => simp [intOf]; omega
      · obtain rfl : k = r.f5.length := by have := HK.out; omega
        rw [List.drop_length, List.any_nil, if_neg (by decide)] at he
        obtain ⟨Q, hQ⟩ : ∃ Q, r.f6.any (badText r) = Q := ⟨_, rfl⟩
        rw [hQ] at he
        subst he
        have HR := Aside0.mk (show (r.f6.drop 0).any (badText r) = Q from hQ)
        clear hQ HK
        go_wp2
        go_loop [7] (fun t => ∃ k : Nat, t = .int .i64 k ∧ Aside0 (k ≤ r.f6.length) ∧ Aside0 ((r.f6.drop k).any (badText r) = Q)) (fun t => r.f6.length - (intOf t).toNat)
        case atStart => exact ⟨0, rfl, ⟨Nat.zero_le _⟩, HR⟩
        case round =>
          clear HR
          obtain ⟨k, rfl, HK, HE⟩ := hrel
          have he := HE.out
          clear HE
          by_cases hk : k < r.f6.length
          · obtain ⟨ad, rfl, hcell⟩ := at_str (Kd.C_below G6.out HB.out) k hk
            have q1 : (0 : Int) ≤ (k : Int) := by omega
            have q2 : (k : Int) < (r.f6.length : Int) := by omega
            rw [drop_get ⟨#[]⟩ r.f6 k hk, List.any_cons] at he
            obtain ⟨s, hs⟩ : ∃ s, r.f6.getD k ⟨#[]⟩ = s := ⟨_, rfl⟩
            rw [hs] at hcell he
            clear hs
            have g1 : decide ((255 : Int) < (s.size : Int)) = decide (255 < s.size) := decide_eq_decide.mpr (by omega)
            have g2 : ((s.size : Int) != 4) = decide (s.size ≠ 4) := by rw [Bool.eq_iff_iff, bne_iff_ne, decide_eq_true_iff]; omega
            have g3 : ((s.size : Int) != 16) = decide (s.size ≠ 16) := by rw [Bool.eq_iff_iff, bne_iff_ne, decide_eq_true_iff]; omega
            have hw : badText r s = decide (255 < s.size) := decide_eq_decide.mpr (by have := eq_of_beq e3; omega)
            rw [← hw] at g1
            obtain ⟨b, hb⟩ : ∃ b, badText r s = b := ⟨_, rfl⟩
            rw [hb] at he g1
            have w3 : (r.f1 == 1) = false := beq_eq_false_iff_ne.mpr (by have := eq_of_beq e3; omega)
            have w4 : (r.f1 == 28) = false := beq_eq_false_iff_ne.mpr (by have := eq_of_beq e3; omega)
            clear hb hw g2 g3
            cases b with
            | true =>
              rw [Bool.true_or] at he
              subst he
              go_wp2
              go_ret
              exact ⟨rfl, HB.out⟩
            | false =>
              rw [Bool.false_or] at he
              have HE := Aside0.mk he
              clear he
              go_wp2
              go_round
              case rel => exact ⟨k + 1, by go_num, ⟨hk⟩, HE⟩
              case measure => simp [intOf]; omega
          · obtain rfl : k = r.f6.length := by have := HK.out; omega
            rw [List.drop_length, List.any_nil] at he
            subst he
            go_wp2
            go_ret
            exact ⟨rfl, HB.out⟩
  · go_enter Try.func74, Try.ntmps74
    go_wp2_with (((with_reducible refine gate_dst (N := 1) rfl ?_); refine box_event rfl (N := 1) rfl (cs := #[.string r.f0, .int .u16 r.f1, .int .u16 r.f2, .int .u32 r.f3, .slice A4 r.f4.length c4, .slice A5 r.f5.length c5, .slice A6 r.f6.length c6]) (t := 85) (by first | (go_simp; done) | (go_simp; rfl)) ?_; intro g hg w1 hbox hb); have HX := Aside0.mk hbox; have HB := Aside0.mk hb; have HGe := Aside0.mk hg; clear hb hg; have z0 : w1.cell? ⟨g, 0, none⟩ = some (.string r.f0) := (blk_cell HX.out 0).trans rfl; clear hbox; have z1 : w1.cell? ⟨g, 1, none⟩ = some (.int .u16 r.f1) := (blk_cell HX.out 1).trans rfl; have z2 : w1.cell? ⟨g, 2, none⟩ = some (.int .u16 r.f2) := (blk_cell HX.out 2).trans rfl; have z3 : w1.cell? ⟨g, 3, none⟩ = some (.int .u32 r.f3) := (blk_cell HX.out 3).trans rfl; have z4 : w1.cell? ⟨g, 4, none⟩ = some (.slice A4 r.f4.length c4) := (blk_cell HX.out 4).trans rfl; have z5 : w1.cell? ⟨g, 5, none⟩ = some (.slice A5 r.f5.length c5) := (blk_cell HX.out 5).trans rfl; have z6 : w1.cell? ⟨g, 6, none⟩ = some (.slice A6 r.f6.length c6) := (blk_cell HX.out 6).trans rfl)
    refine (Shape5_calls r.f1 _).mono ?_
    rw [HS.out]
    rintro e w' ⟨rfl, rfl⟩
    go_wp2_with fail
    go_loop [6] (fun t => ∃ k : Nat, t = .int .i64 k ∧ Aside0 (k ≤ r.f5.length) ∧ Aside0 ((if (r.f5.drop k).any (badNum r) then false else !(r.f6.any (badText r))) = R)) (fun t => r.f5.length - (intOf t).toNat)
    case atStart => exact ⟨0, rfl, ⟨Nat.zero_le _⟩, HR⟩
    case round =>
      clear HR
      obtain ⟨k, rfl, HK, HE⟩ := hrel
      have he := HE.out
      clear HE
      by_cases hk : k < r.f5.length
      · obtain ⟨ad, rfl, hcell⟩ := at_int (Kd.C_below G5.out HB.out) k hk
        have q1 : (0 : Int) ≤ (k : Int) := by omega
        have q2 : (k : Int) < (r.f5.length : Int) := by omega
        rw [drop_get 0 r.f5 k hk, List.any_cons] at he
        obtain ⟨n, hn⟩ : ∃ n, r.f5.getD k 0 = n := ⟨_, rfl⟩
        rw [hn] at hcell he
        clear hn
        by_cases hb : ¬ r.f1 = 6 ∧ 65535 < n
        · rw [show badNum r n = true from decide_eq_true hb, Bool.true_or, if_pos rfl] at he
          subst he
          have e6 : (r.f1 != 6) = true := by rw [bne_iff_ne]; exact hb.1
          have d6 : decide (65535 < n) = true := decide_eq_true hb.2
          clear hb
          go_wp2
          go_ret
          exact ⟨rfl, HB.out⟩
        · rw [show badNum r n = false from decide_eq_false hb, Bool.false_or] at he
          have HE := Aside0.mk he
          clear he
          by_cases t6 : r.f1 = 6
          · have e6 : (r.f1 != 6) = false := by rw [bne_eq_false_iff_eq]; exact t6
            clear hb t6
            go_wp2
            go_round
            case rel => exact ⟨k + 1, by go_num, ⟨hk⟩, HE⟩
            case measure => simp [intOf]; omega
          · have e6 : (r.f1 != 6) = true := by rw [bne_iff_ne]; exact t6
            have d6 : decide (65535 < n) = false := decide_eq_false (by omega)
            clear hb t6
            go_wp2
            go_round
            case rel => exact ⟨k + 1, by go_num, ⟨hk⟩, HE⟩
            case measure => simp [intOf]; omega
      · obtain rfl : k = r.f5.length := by have := HK.out; omega
        rw [List.drop_length, List.any_nil, if_neg (by decide)] at he
        obtain ⟨Q, hQ⟩ : ∃ Q, r.f6.any (badText r) = Q := ⟨_, rfl⟩
        rw [hQ] at he
        subst he
        have HR := Aside0.mk (show (r.f6.drop 0).any (badText r) = Q from hQ)
        clear hQ HK
        go_wp2
        go_loop [7] (fun t => ∃ k : Nat, t = .int .i64 k ∧ Aside0 (k ≤ r.f6.length) ∧ Aside0 ((r.f6.drop k).any (badText r) = Q)) (fun t => r.f6.length - (intOf t).toNat)
        case atStart => exact ⟨0, rfl, ⟨Nat.zero_le _⟩, HR⟩
        case round =>
          clear HR
          obtain ⟨k, rfl, HK, HE⟩ := hrel
          have he := HE.out
          clear HE
          by_cases hk : k < r.f6.length
          · obtain ⟨ad, rfl, hcell⟩ := at_str (Kd.C_below G6.out HB.out) k hk
            have q1 : (0 : Int) ≤ (k : Int) := by omega
            have q2 : (k : Int) < (r.f6.length : Int) := by omega
            rw [drop_get ⟨#[]⟩ r.f6 k hk, List.any_cons] at he
            obtain ⟨s, hs⟩ : ∃ s, r.f6.getD k ⟨#[]⟩ = s := ⟨_, rfl⟩
            rw [hs] at hcell he
            clear hs
            have g1 : decide ((255 : Int) < (s.size : Int)) = decide (255 < s.size) := decide_eq_decide.mpr (by omega)
            have g2 : ((s.size : Int) != 4) = decide (s.size ≠ 4) := by rw [Bool.eq_iff_iff, bne_iff_ne, decide_eq_true_iff]; omega
            have g3 : ((s.size : Int) != 16) = decide (s.size ≠ 16) := by rw [Bool.eq_iff_iff, bne_iff_ne, decide_eq_true_iff]; omega
            obtain ⟨b, hb⟩ : ∃ b, badText r s = b := ⟨_, rfl⟩
            rw [hb] at he
            have HBt := Lib.hid hb
            have k16 : ¬ r.f1 = 16 := by intro h; rw [h] at e3; exact absurd e3 (by decide)
            clear hb
            by_cases k1 : r.f1 = 1
            · have w1 : (r.f1 == 1) = true := beq_iff_eq.mpr k1
              have hw : b = decide (s.size ≠ 4) := by rw [← HBt.out]; exact decide_eq_decide.mpr (by omega)
              rw [← hw] at g2
              have w4 : (r.f1 == 28) = false := beq_eq_false_iff_ne.mpr (by omega)
              clear hw g1 g3 k1 k16
              cases b with
              | true =>
                rw [Bool.true_or] at he
                subst he
                go_wp2
                go_ret
                exact ⟨rfl, HB.out⟩
              | false =>
                rw [Bool.false_or] at he
                have HE := Aside0.mk he
                clear he
                go_wp2
                go_round
                case rel => exact ⟨k + 1, by go_num, ⟨hk⟩, HE⟩
                case measure => simp [intOf]; omega
            have w1 : (r.f1 == 1) = false := beq_eq_false_iff_ne.mpr k1
            by_cases k28 : r.f1 = 28
            · have w3 : (r.f1 == 28) = true := beq_iff_eq.mpr k28
              have hw : b = decide (s.size ≠ 16) := by rw [← HBt.out]; exact decide_eq_decide.mpr (by omega)
              rw [← hw] at g3
              clear hw g1 g2 k1 k28 k16
              cases b with
              | true =>
                rw [Bool.true_or] at he
                subst he
                go_wp2
                go_ret
                exact ⟨rfl, HB.out⟩
              | false =>
                rw [Bool.false_or] at he
                have HE := Aside0.mk he
                clear he
                go_wp2
                go_round
                case rel => exact ⟨k + 1, by go_num, ⟨hk⟩, HE⟩
                case measure => simp [intOf]; omega
            have w3 : (r.f1 == 28) = false := beq_eq_false_iff_ne.mpr k28
            have hw : b = false := by rw [← HBt.out]; exact decide_eq_false (by omega)
            subst hw
            rw [Bool.false_or] at he
            have HE := Aside0.mk he
            clear he g1 g2 g3 k1 k28 k16
            go_wp2
            go_round
            case rel => exact ⟨k + 1, by go_num, ⟨hk⟩, HE⟩
            case measure => simp [intOf]; omega
          · obtain rfl : k = r.f6.length := by have := HK.out; omega
            rw [List.drop_length, List.any_nil] at he
            subst he
            go_wp2
            go_ret
            exact ⟨rfl, HB.out⟩
end Go.Proofs.Ytfoflodgegehfaa.M
set_option linter.unusedVariables false
set_option linter.unusedSimpArgs false
namespace Go.Proofs.Ytfoflodgegehfaa.M
open Go.RowKit Go.Proofs.YtfoflodgegehfaaW.PrintWords Go.Proofs.YtfoflodgegehfaaW.PrintLast Go.Proofs.YtfoflodgegehfaaW.PrintMore
attribute [local go_sem] max2_int min2_int max_two min_two max_three min_three max_four min_four
theorem one_byte (W : World) (x : Int) : (convert 48 9 (.slice (some ⟨W.heap.size, 0, none⟩) 1 1)).run Try.prog (W.alloc (.cells #[.int .u8 x] 5 (0, 0))) = .ok (.string (strOfNums [x])) (W.alloc (.cells #[.int .u8 x] 5 (0, 0))) := by
  refine run_convert_bytes_arg (P := Try.prog) _ 48 5 Try.underlying48 Try.underlying5 W.heap.size 0 1 1 [x] rfl ?_ 9 Try.underlying9
  intro i hi
  have hb := blk_new W (.cells #[.int .u8 x] 5 (0, 0))
  match i, hi with
  | 0, _ => exact (blk_cell hb 0).trans rfl
theorem str_app (a b : List Int) : strOfNums a ++ strOfNums b = strOfNums (a ++ b) := by
  apply ByteArray.ext
  simp [strOfNums]
theorem str_of (s : ByteArray) : strOfNums (bytesOf s) = s := by
  apply ByteArray.ext
  apply Array.toList_inj.1
  rw [strOfNums_data]
  unfold bytesOf
  rw [List.map_map]
  conv => rhs; rw [← List.map_id s.data.toList]
  apply List.map_congr_left
  intro b _
  simp
theorem str_app_s (a : List Int) (s : ByteArray) : strOfNums a ++ s = strOfNums (a ++ bytesOf s) := by
  rw [← str_app, str_of]
set_option maxHeartbeats 4000000 in
set_option maxRecDepth 100000 in
theorem Put5_calls (s : ByteArray) (n : Int) (k : Nat) (w : World) (hs : s.size ≤ 1000000000000) (n0 : 0 ≤ n) (n1 : n ≤ 4294967295) (hk : k ≤ 8) :
    Calls Try.prog 86 #[.string s, .int .u64 n, .int .i64 k] w fun e w' => e = .returned (.string (s ++ strOfNums (putL n k))) ∧ Below w.heap.size w w' := by
  have HB := Aside0.mk (Below.refl w.heap.size w)
  have hcv := fun W x => one_byte W x
  have p1 : (k : Int) ≤ 8 := by omega
  have HS := Lib.hid (show s.size ≤ 1000000000000 ∧ k ≤ 8 ∧ 0 ≤ n ∧ n ≤ 4294967295 from ⟨hs, hk, n0, n1⟩)
  clear hs hk n0 n1
  go_enter Try.func86, Try.ntmps86
  go_wp2
  go_loopg [1, 7, 8] k (fun kq v1 v7 v8 w' => ∃ i : Nat, v8 = .int .i64 i ∧ v7 = .string (strOfNums (putL n i)) ∧ v1 = .int .u64 (n / 2 ^ (8 * i)) ∧ Aside0 (kq + i = k) ∧ Aside0 (Below w.heap.size w w'))
  case atStart => exact ⟨0, rfl, rfl, by simp, ⟨rfl⟩, HB⟩
  case round =>
    clear HB
    obtain ⟨i, rfl, rfl, rfl, HK, HB⟩ := hrel
    cases gk with
    | zero =>
      obtain rfl : i = k := by have := HK.out; omega
      have hadd := fun W => run_string_add_sum (P := Try.prog) W s (strOfNums (putL n i)) (by rw [strOfNums_size, putL_length]; have := HS.out; omega)
      go_wp2
      go_ret
      exact ⟨rfl, HB.out⟩
    | succ j =>
      have q1 : (i : Int) < (k : Int) := by have := HK.out; omega
      have q2 : (i : Int) < 8 := by omega
      obtain ⟨m, hm⟩ : ∃ m, n / 2 ^ (8 * i) = m := ⟨_, rfl⟩
      have m0 : 0 ≤ m := by rw [← hm]; exact Int.ediv_nonneg HS.out.2.2.1 (Int.le_of_lt (Int.pow_pos (by decide)))
      have hnext : n / 2 ^ (8 * (i + 1)) = m / 256 := by
        rw [← hm, Int.ediv_ediv_of_nonneg (Int.le_of_lt (Int.pow_pos (by decide)))]
        congr 1
        rw [show 8 * (i + 1) = 8 * i + 8 by omega, Int.pow_add]
        rfl
      have hputs : strOfNums [m % 256] ++ strOfNums (putL n i) = strOfNums (putL n (i + 1)) := by
        rw [str_app]
        show _ = strOfNums (n / 2 ^ (8 * i) % 256 :: putL n i)
        rw [hm]
        rfl
      have m1 : m ≤ 4294967295 := by
        rw [← hm]
        exact Int.le_trans (Int.ediv_le_self _ HS.out.2.2.1) HS.out.2.2.2
      have HDv := Lib.hid (show IntKind.u64.wrap (m.tdiv 256) = m / 256 by
        rw [Int.tdiv_eq_ediv_of_nonneg m0]
        simp [IntKind.wrap, IntKind.bits, IntKind.signed]
        omega)
      have HN := Lib.hid hnext
      have HP := Lib.hid hputs
      rw [hm]
      have hw1 : IntKind.u8.wrap (m % 256) = m % 256 := by rw [IntKind.wrap_u8]; omega
      have hadd := fun W => run_string_add_sum (P := Try.prog) W (strOfNums [m % 256]) (strOfNums (putL n i)) (by rw [strOfNums_size, strOfNums_size, putL_length]; have := HS.out; simp; omega)
      clear hnext hputs hm
      go_wp2
      go_roundg j
      case measure => omega
      case rel => exact ⟨i + 1, by go_num, by rw [← HP.out], by rw [HN.out], ⟨by have := HK.out; omega⟩, ⟨below_alloc HB.out _⟩⟩
def total (r : Rec) : Nat := (r.f6.flatMap (textL r)).length
def plain5E (r : Rec) : Ending := if 65535 < total r then .returned (.tuple #[.string ⟨#[]⟩, .bool false]) else .returned (.tuple #[.string (strOfNums (plainL r)), .bool true])
theorem textL_len (r : Rec) (s : ByteArray) : (textL r s).length = s.size + (if r.f1 = 16 then 1 else 0) := by
  unfold textL
  rw [List.length_append, bytesOf_length]
  split <;> simp <;> omega
def sAcc {α : Type} (acc : List Int) (l : List α) (f : α → List Int) (k : Nat) : ByteArray := strOfNums (acc ++ (l.take k).flatMap f)
theorem sAcc_zero {α : Type} (acc : List Int) (l : List α) (f : α → List Int) : sAcc acc l f 0 = strOfNums acc := by simp [sAcc]
theorem sAcc_end {α : Type} (acc : List Int) (l : List α) (f : α → List Int) : sAcc acc l f l.length = strOfNums (acc ++ l.flatMap f) := by simp [sAcc]
theorem sAcc_next {α : Type} (acc : List Int) (l : List α) (f : α → List Int) (z : α) (k : Nat) (h : k < l.length) : sAcc acc l f k ++ strOfNums (f (l.getD k z)) = sAcc acc l f (k + 1) := by
  unfold sAcc
  rw [str_app, flat_snoc z f l k h, List.append_assoc]
def txN (r : Rec) (k : Nat) : Nat := ((r.f6.take k).flatMap (textL r)).length
theorem txN_zero (r : Rec) : txN r 0 = 0 := by simp [txN]
theorem txN_end (r : Rec) : txN r r.f6.length = total r := by unfold txN total; rw [List.take_length]
theorem txN_next (r : Rec) (k : Nat) (h : k < r.f6.length) : txN r (k + 1) = txN r k + ((r.f6.getD k ⟨#[]⟩).size + (if r.f1 = 16 then 1 else 0)) := by
  unfold txN
  rw [flat_snoc ⟨#[]⟩ (textL r) r.f6 k h, List.length_append, textL_len]
theorem txN_le (r : Rec) (k : Nat) : txN r k ≤ total r := by
  unfold total txN
  have h2 : (r.f6.flatMap (textL r)).length = ((r.f6.take k).flatMap (textL r)).length + ((r.f6.drop k).flatMap (textL r)).length := by
    rw [← List.length_append, ← List.flatMap_append, List.take_append_drop]
  omega
set_option maxHeartbeats 8000000 in
set_option maxRecDepth 100000 in
theorem plain5_calls (r : Rec) (v : Value) (w : World) (hv : RecAt w v r) (hF : Fine r) :
    Calls Try.prog 75 #[v] w fun e w' => e = plain5E r ∧ Below w.heap.size w w' := by
  obtain ⟨A4, c4, A5, c5, A6, c6, rfl, l4, g4, l5, g5, l6, g6⟩ := hv
  have G4 := Aside0.mk g4
  have G5 := Aside0.mk g5
  have G6 := Aside0.mk g6
  have HF := Aside0.mk hF
  obtain ⟨R, hR⟩ : ∃ R, plain5E r = R := ⟨_, rfl⟩
  rw [hR]
  have HRes := Lib.hid hR
  have m6 : (r.f6.length : Int) ≤ 1000000000 := by have := hF.texts2; omega
  have m5 : (r.f5.length : Int) ≤ 1000000000 := by have := hF.names; omega
  have m4 : (r.f4.length : Int) ≤ 1000000000 := by have := hF.len4; omega
  clear g4 g5 g6 hF hR
  go_enter Try.func75, Try.ntmps75
  go_wp2_with (((with_reducible refine gate_dst (N := 1) rfl ?_); refine box_event rfl (N := 1) rfl (cs := #[.string r.f0, .int .u16 r.f1, .int .u16 r.f2, .int .u32 r.f3, .slice A4 r.f4.length c4, .slice A5 r.f5.length c5, .slice A6 r.f6.length c6]) (t := 85) (by first | (go_simp; done) | (go_simp; rfl)) ?_; intro g hg w1 hbox hb); have HX := Aside0.mk hbox; have HB := Aside0.mk hb; have HGe := Aside0.mk hg; clear hb hg; have z0 : w1.cell? ⟨g, 0, none⟩ = some (.string r.f0) := (blk_cell HX.out 0).trans rfl; clear hbox; have z1 : w1.cell? ⟨g, 1, none⟩ = some (.int .u16 r.f1) := (blk_cell HX.out 1).trans rfl; have z2 : w1.cell? ⟨g, 2, none⟩ = some (.int .u16 r.f2) := (blk_cell HX.out 2).trans rfl; have z3 : w1.cell? ⟨g, 3, none⟩ = some (.int .u32 r.f3) := (blk_cell HX.out 3).trans rfl; have z4 : w1.cell? ⟨g, 4, none⟩ = some (.slice A4 r.f4.length c4) := (blk_cell HX.out 4).trans rfl; have z5 : w1.cell? ⟨g, 5, none⟩ = some (.slice A5 r.f5.length c5) := (blk_cell HX.out 5).trans rfl; have z6 : w1.cell? ⟨g, 6, none⟩ = some (.slice A6 r.f6.length c6) := (blk_cell HX.out 6).trans rfl)
  go_loopg [4, 5] r.f6.length (fun kq v4 v5 w' => ∃ k : Nat, v5 = .int .i64 k ∧ v4 = .int .i64 (txN r k : Nat) ∧ Aside0 (kq + k = r.f6.length) ∧ Aside0 (txN r k ≤ 65535) ∧ w1 = w')
  case atStart => exact ⟨0, rfl, by rw [txN_zero]; rfl, ⟨rfl⟩, ⟨by rw [txN_zero]; omega⟩, rfl⟩
  case round =>
    obtain ⟨k, rfl, rfl, HK, HT, rfl⟩ := hrel
    cases gk with
    | zero =>
      obtain rfl : k = r.f6.length := by have := HK.out; omega
      have HTot := Lib.hid (show ¬ 65535 < total r by have := HT.out; rw [txN_end] at this; omega)
      have HBr := Aside0.mk (Below.refl w1.heap.size w1)
      have HXr := HX
      have HBt := HB
      clear HT HK
      by_cases k6 : r.f1 = 6
      · have K6 := Lib.hid k6
        have e6 : (r.f1 != 6) = false := by rw [bne_eq_false_iff_eq]; exact k6
        have e7 : (r.f1 == 6) = true := beq_iff_eq.mpr k6
        obtain ⟨ac, hac⟩ : ∃ ac : List Int, ac = [] := ⟨_, rfl⟩
        have HAcc := Lib.hid (show ac.length ≤ 10 by rw [hac]; simp)
        have hs0 : (⟨#[]⟩ : ByteArray) = strOfNums ac := by rw [hac]; rfl
        have HS0 := Lib.hid hs0
        have HAq := Lib.hid hac
        clear hac hs0
        clear k6
        go_wp2
        rw [HS0.out]
        go_loopg [6, 7] 1 (fun kq v6 v w' => v6 = .string (strOfNums ac) ∧ v = .int .i64 0 ∧ Aside0 (Below w1.heap.size w1 w'))
        case atStart => exact ⟨rfl, rfl, HBr⟩
        case round =>
          clear HBr HXr HBt z0 z1 z2 z3 z4 z5 z6
          obtain ⟨rfl, rfl, HBr⟩ := hrel
          have HXr := Aside0.mk (blk_below HX.out HBr.out)
          have HBt := Aside0.mk (HB.out.trans (HBr.out.mono (below_size HB.out)))
          have z0 : wr.cell? ⟨g, 0, none⟩ = some (.string r.f0) := (blk_cell HXr.out 0).trans rfl
          have z1 : wr.cell? ⟨g, 1, none⟩ = some (.int .u16 r.f1) := (blk_cell HXr.out 1).trans rfl
          have z2 : wr.cell? ⟨g, 2, none⟩ = some (.int .u16 r.f2) := (blk_cell HXr.out 2).trans rfl
          have z3 : wr.cell? ⟨g, 3, none⟩ = some (.int .u32 r.f3) := (blk_cell HXr.out 3).trans rfl
          have z4 : wr.cell? ⟨g, 4, none⟩ = some (.slice A4 r.f4.length c4) := (blk_cell HXr.out 4).trans rfl
          have z5 : wr.cell? ⟨g, 5, none⟩ = some (.slice A5 r.f5.length c5) := (blk_cell HXr.out 5).trans rfl
          have z6 : wr.cell? ⟨g, 6, none⟩ = some (.slice A6 r.f6.length c6) := (blk_cell HXr.out 6).trans rfl
          by_cases c0 : 0 < r.f5.length
          · have c1 : decide ((0 : Int) < (r.f5.length : Int)) = true := decide_eq_true (by omega)
            have c2 : decide (0 < r.f5.length) = true := decide_eq_true c0
            clear c0
            go_wp2
            go_loopg [6, 8] r.f4.length (fun kq v6 v w' => ∃ k : Nat, v = .int .i64 k ∧ v6 = .string (sAcc ac r.f4 (bytesOf) k) ∧ Aside0 (kq + k = r.f4.length) ∧ Aside0 (Below w1.heap.size w1 w'))
            case atStart => exact ⟨0, rfl, by rw [sAcc_zero], ⟨rfl⟩, HBr⟩
            case round =>
              clear HBr HXr HBt z0 z1 z2 z3 z4 z5 z6
              obtain ⟨k, rfl, rfl, HK, HBr⟩ := hrel
              have HXr := Aside0.mk (blk_below HX.out HBr.out)
              have HBt := Aside0.mk (HB.out.trans (HBr.out.mono (below_size HB.out)))
              have z0 : wr.cell? ⟨g, 0, none⟩ = some (.string r.f0) := (blk_cell HXr.out 0).trans rfl
              have z1 : wr.cell? ⟨g, 1, none⟩ = some (.int .u16 r.f1) := (blk_cell HXr.out 1).trans rfl
              have z2 : wr.cell? ⟨g, 2, none⟩ = some (.int .u16 r.f2) := (blk_cell HXr.out 2).trans rfl
              have z3 : wr.cell? ⟨g, 3, none⟩ = some (.int .u32 r.f3) := (blk_cell HXr.out 3).trans rfl
              have z4 : wr.cell? ⟨g, 4, none⟩ = some (.slice A4 r.f4.length c4) := (blk_cell HXr.out 4).trans rfl
              have z5 : wr.cell? ⟨g, 5, none⟩ = some (.slice A5 r.f5.length c5) := (blk_cell HXr.out 5).trans rfl
              have z6 : wr.cell? ⟨g, 6, none⟩ = some (.slice A6 r.f6.length c6) := (blk_cell HXr.out 6).trans rfl
              cases gk with
              | zero =>
                obtain rfl : k = r.f4.length := by have := HK.out; omega
                have HS2 := Lib.hid (sAcc_end ac r.f4 bytesOf)
                go_wp2
                rw [HS2.out]
                obtain ⟨ac, hac2⟩ : ∃ ac2, ac ++ r.f4.flatMap (bytesOf) = ac2 := ⟨_, rfl⟩
                rw [hac2]
                have HAcc := Lib.hid (show ac.length ≤ 5000000000 by
                  rw [← hac2, List.length_append]
                  have h1 := nums_le r.f5 r.f5.length 4
                  have h1' := nums_le r.f5 r.f5.length 2
                  have h4 := names_le r.f4 r.f4.length
                  rw [List.take_length] at h1 h1' h4
                  have h2 := HF.out.names
                  have h3 := HAcc.out
                  omega)
                have HAq := Lib.hid (hac2.symm.trans (congrArg (fun x => x ++ r.f4.flatMap (bytesOf)) HAq.out))
                clear hac2 HS2
                go_loopg [6, 9] r.f5.length (fun kq v6 v w' => ∃ k : Nat, v = .int .i64 k ∧ v6 = .string (sAcc ac r.f5 (fun n => putL n 4) k) ∧ Aside0 (kq + k = r.f5.length) ∧ Aside0 (Below w1.heap.size w1 w'))
                case atStart => exact ⟨0, rfl, by rw [sAcc_zero], ⟨rfl⟩, HBr⟩
                case round =>
                  clear HBr HXr HBt z0 z1 z2 z3 z4 z5 z6
                  obtain ⟨k, rfl, rfl, HK, HBr⟩ := hrel
                  have HXr := Aside0.mk (blk_below HX.out HBr.out)
                  have HBt := Aside0.mk (HB.out.trans (HBr.out.mono (below_size HB.out)))
                  have z0 : wr.cell? ⟨g, 0, none⟩ = some (.string r.f0) := (blk_cell HXr.out 0).trans rfl
                  have z1 : wr.cell? ⟨g, 1, none⟩ = some (.int .u16 r.f1) := (blk_cell HXr.out 1).trans rfl
                  have z2 : wr.cell? ⟨g, 2, none⟩ = some (.int .u16 r.f2) := (blk_cell HXr.out 2).trans rfl
                  have z3 : wr.cell? ⟨g, 3, none⟩ = some (.int .u32 r.f3) := (blk_cell HXr.out 3).trans rfl
                  have z4 : wr.cell? ⟨g, 4, none⟩ = some (.slice A4 r.f4.length c4) := (blk_cell HXr.out 4).trans rfl
                  have z5 : wr.cell? ⟨g, 5, none⟩ = some (.slice A5 r.f5.length c5) := (blk_cell HXr.out 5).trans rfl
                  have z6 : wr.cell? ⟨g, 6, none⟩ = some (.slice A6 r.f6.length c6) := (blk_cell HXr.out 6).trans rfl
                  cases gk with
                  | zero =>
                    obtain rfl : k = r.f5.length := by have := HK.out; omega
                    have HS2 := Lib.hid (sAcc_end ac r.f5 (fun n => putL n 4))
                    go_wp2
                    rw [HS2.out]
                    obtain ⟨ac, hac2⟩ : ∃ ac2, ac ++ r.f5.flatMap (fun n => putL n 4) = ac2 := ⟨_, rfl⟩
                    rw [hac2]
                    have HAcc := Lib.hid (show ac.length ≤ 9900000000 by
                      rw [← hac2, List.length_append]
                      have h1 := nums_le r.f5 r.f5.length 4
                      have h1' := nums_le r.f5 r.f5.length 2
                      have h4 := names_le r.f4 r.f4.length
                      rw [List.take_length] at h1 h1' h4
                      have h2 := HF.out.names
                      have h3 := HAcc.out
                      omega)
                    have HAq := Lib.hid (hac2.symm.trans (congrArg (fun x => x ++ r.f5.flatMap (fun n => putL n 4)) HAq.out))
                    clear hac2 HS2
                    go_loopg [6, 10] r.f6.length (fun kq v6 v w' => ∃ k : Nat, v = .int .i64 k ∧ v6 = .string (sAcc ac r.f6 (textL r) k) ∧ Aside0 (kq + k = r.f6.length) ∧ Aside0 (Below w1.heap.size w1 w'))
                    case atStart => exact ⟨0, rfl, by rw [sAcc_zero], ⟨rfl⟩, HBr⟩
                    case round =>
                      clear HBr HXr HBt z0 z1 z2 z3 z4 z5 z6
                      obtain ⟨k, rfl, rfl, HK, HBr⟩ := hrel
                      have HXr := Aside0.mk (blk_below HX.out HBr.out)
                      have HBt := Aside0.mk (HB.out.trans (HBr.out.mono (below_size HB.out)))
                      have z0 : wr.cell? ⟨g, 0, none⟩ = some (.string r.f0) := (blk_cell HXr.out 0).trans rfl
                      have z1 : wr.cell? ⟨g, 1, none⟩ = some (.int .u16 r.f1) := (blk_cell HXr.out 1).trans rfl
                      have z2 : wr.cell? ⟨g, 2, none⟩ = some (.int .u16 r.f2) := (blk_cell HXr.out 2).trans rfl
                      have z3 : wr.cell? ⟨g, 3, none⟩ = some (.int .u32 r.f3) := (blk_cell HXr.out 3).trans rfl
                      have z4 : wr.cell? ⟨g, 4, none⟩ = some (.slice A4 r.f4.length c4) := (blk_cell HXr.out 4).trans rfl
                      have z5 : wr.cell? ⟨g, 5, none⟩ = some (.slice A5 r.f5.length c5) := (blk_cell HXr.out 5).trans rfl
                      have z6 : wr.cell? ⟨g, 6, none⟩ = some (.slice A6 r.f6.length c6) := (blk_cell HXr.out 6).trans rfl
                      cases gk with
                      | zero =>
                        obtain rfl : k = r.f6.length := by have := HK.out; omega
                        have HS2 := Lib.hid (sAcc_end ac r.f6 (textL r))
                        go_wp2
                        go_ret2
                        exact ⟨by rw [← HRes.out]; unfold plain5E; rw [if_neg HTot.out, plainL_six K6.out, HS2.out, HAq.out]; simp, HBt.out⟩
                      | succ j =>
                        have hk : k < r.f6.length := by have := HK.out; omega
                        obtain ⟨ad, rfl, hcell⟩ := at_str (Kd.C_below G6.out HBt.out) k hk
                        have q1 : (0 : Int) ≤ (k : Int) := by omega
                        have q2 : (k : Int) < (r.f6.length : Int) := by omega
                        have HE1 := Lib.hid (sAcc_next ac r.f6 (textL r) ⟨#[]⟩ k hk)
                        have htot := txN_le r (k + 1)
                        rw [txN_next r k hk] at htot
                        have HLn := Lib.hid (show (sAcc ac r.f6 (textL r) k).size ≤ 1000000000000 by
                          unfold sAcc
                          rw [strOfNums_size, List.length_append]
                          have h1 := txN_le r k
                          unfold txN at h1
                          have h2 := HTot.out
                          have h3 := HAcc.out
                          omega)
                        obtain ⟨s, hs⟩ : ∃ s, r.f6.getD k ⟨#[]⟩ = s := ⟨_, rfl⟩
                        rw [hs] at HE1 hcell htot
                        obtain ⟨sa, hsa⟩ : ∃ sa, sAcc ac r.f6 (textL r) k = sa := ⟨_, rfl⟩
                        rw [hsa] at HE1 HLn ⊢
                        have HSz := Lib.hid (show s.size ≤ 65535 by have := HTot.out; omega)
                        have q3 : (s.size : Int) ≤ 65535 := by have := HSz.out; omega
                        have hlne : ¬ g = wr.heap.size := Nat.ne_of_lt (blk_lt HXr.out)
                        have hza : ∀ o, (wr.alloc o).cell? ⟨g, 6, none⟩ = some (.slice (some ad) r.f6.length c6) := fun o => pw_cell_below (below_alloc (Below.refl _ _) o) z6
                        have hca : ∀ o, (wr.alloc o).cell? (ad.add k) = some (.string s) := fun o => pw_cell_below (below_alloc (Below.refl _ _) o) hcell
                        clear hs htot hsa
                        by_cases k16 : r.f1 = 16
                        · have e16 : (r.f1 == 16) = true := beq_iff_eq.mpr k16
                          have hu : IntKind.u8.wrap (s.size : Int) = (s.size : Int) % 256 := by rw [IntKind.wrap_u8]
                          have hcv := fun W => one_byte W ((s.size : Int) % 256)
                          have hadd1 := fun W => run_string_add_sum (P := Try.prog) W sa (strOfNums [(s.size : Int) % 256]) (by rw [strOfNums_size]; have := HLn.out; simp; omega)
                          have hadd2 := fun W => run_string_add_sum (P := Try.prog) W (sa ++ strOfNums [(s.size : Int) % 256]) s (by rw [ByteArray.size_append, strOfNums_size]; have := HLn.out; have := HSz.out; simp; omega)
                          have HT := Lib.hid (show sa ++ strOfNums [(s.size : Int) % 256] ++ s = sAcc ac r.f6 (textL r) (k + 1) by
                            rw [← HE1.out]
                            unfold textL
                            rw [if_pos k16, ← str_app, str_of, ByteArray.append_assoc])
                          clear k16
                          go_wp2
                          go_roundg j
                          case measure => omega
                          case rel => exact ⟨k + 1, by go_num, by rw [← HT.out], ⟨by have := HK.out; omega⟩, ⟨below_alloc HBr.out _⟩⟩
                        · have e16 : (r.f1 == 16) = false := beq_eq_false_iff_ne.mpr k16
                          have hadd2 := fun W => run_string_add_sum (P := Try.prog) W sa s (by have := HLn.out; have := HSz.out; omega)
                          have HT := Lib.hid (show sa ++ s = sAcc ac r.f6 (textL r) (k + 1) by
                            rw [← HE1.out]
                            unfold textL
                            rw [if_neg k16, List.nil_append, str_of])
                          clear k16
                          go_wp2
                          go_roundg j
                          case measure => omega
                          case rel => exact ⟨k + 1, by go_num, by rw [← HT.out], ⟨by have := HK.out; omega⟩, HBr⟩
                  | succ j =>
                    have hk : k < r.f5.length := by have := HK.out; omega
                    obtain ⟨ad, rfl, hcell⟩ := at_int (Kd.C_below G5.out HBt.out) k hk
                    have q1 : (0 : Int) ≤ (k : Int) := by omega
                    have q2 : (k : Int) < (r.f5.length : Int) := by omega
                    obtain ⟨n0, n1⟩ := HF.out.wf k hk
                    have HE1 := Lib.hid (sAcc_next ac r.f5 (fun n => putL n 4) 0 k hk)
                    have HLn := Lib.hid (show (sAcc ac r.f5 (fun n => putL n 4) k).size ≤ 1000000000000 by
                      unfold sAcc
                      rw [strOfNums_size, List.length_append]
                      have h1 := nums_le r.f5 k 4
                      have h2 := HF.out.names
                      have h3 := HAcc.out
                      omega)
                    obtain ⟨n, hn⟩ : ∃ n, r.f5.getD k 0 = n := ⟨_, rfl⟩
                    rw [hn] at n0 n1 HE1 hcell
                    clear hn
                    go_wp2_with fail
                    refine (Put5_calls _ n 4 _ HLn.out n0 n1 (by decide)).mono ?_
                    rintro e w' ⟨rfl, hb⟩
                    have HBn := Aside0.mk (HBr.out.trans (hb.mono HBr.out.size))
                    clear hb
                    go_wp2_with fail
                    go_roundg j
                    case measure => omega
                    case rel => exact ⟨k + 1, by go_num, by rw [HE1.out], ⟨by have := HK.out; omega⟩, HBn⟩
              | succ j =>
                have hk : k < r.f4.length := by have := HK.out; omega
                obtain ⟨ad, rfl, hcell⟩ := at_str (Kd.C_below G4.out HBt.out) k hk
                have q1 : (0 : Int) ≤ (k : Int) := by omega
                have q2 : (k : Int) < (r.f4.length : Int) := by omega
                have HE1 := Lib.hid (sAcc_next ac r.f4 bytesOf ⟨#[]⟩ k hk)
                have HSn := Lib.hid (flat_snoc ⟨#[]⟩ bytesOf r.f4 k hk)
                have hsz : (r.f4.getD k ⟨#[]⟩).size ≤ 1000000000 := by
                  have h1 := names_le r.f4 (k + 1)
                  rw [HSn.out, List.length_append, bytesOf_length] at h1
                  have h2 := HF.out.names
                  omega
                have HLn := Lib.hid (show (sAcc ac r.f4 bytesOf k).size ≤ 1000000000000 by
                  unfold sAcc
                  rw [strOfNums_size, List.length_append]
                  have h1 := names_le r.f4 k
                  have h2 := HF.out.names
                  have h3 := HAcc.out
                  omega)
                obtain ⟨s, hs⟩ : ∃ s, r.f4.getD k ⟨#[]⟩ = s := ⟨_, rfl⟩
                rw [hs, str_of] at HE1
                rw [hs] at hcell hsz
                have hadd := fun W => run_string_add_sum (P := Try.prog) W (sAcc ac r.f4 bytesOf k) s (by have := HLn.out; omega)
                clear hs HSn
                go_wp2
                go_roundg j
                case measure => omega
                case rel => exact ⟨k + 1, by go_num, by rw [HE1.out], ⟨by have := HK.out; omega⟩, HBr⟩
          · have c1 : decide ((0 : Int) < (r.f5.length : Int)) = false := decide_eq_false (by omega)
            have c2 : decide (0 < r.f5.length) = false := decide_eq_false c0
            clear c0
            go_wp2
            go_loopg [6, 8] r.f4.length (fun kq v6 v w' => ∃ k : Nat, v = .int .i64 k ∧ v6 = .string (sAcc ac r.f4 (bytesOf) k) ∧ Aside0 (kq + k = r.f4.length) ∧ Aside0 (Below w1.heap.size w1 w'))
            case atStart => exact ⟨0, rfl, by rw [sAcc_zero], ⟨rfl⟩, HBr⟩
            case round =>
              clear HBr HXr HBt z0 z1 z2 z3 z4 z5 z6
              obtain ⟨k, rfl, rfl, HK, HBr⟩ := hrel
              have HXr := Aside0.mk (blk_below HX.out HBr.out)
              have HBt := Aside0.mk (HB.out.trans (HBr.out.mono (below_size HB.out)))
              have z0 : wr.cell? ⟨g, 0, none⟩ = some (.string r.f0) := (blk_cell HXr.out 0).trans rfl
              have z1 : wr.cell? ⟨g, 1, none⟩ = some (.int .u16 r.f1) := (blk_cell HXr.out 1).trans rfl
              have z2 : wr.cell? ⟨g, 2, none⟩ = some (.int .u16 r.f2) := (blk_cell HXr.out 2).trans rfl
              have z3 : wr.cell? ⟨g, 3, none⟩ = some (.int .u32 r.f3) := (blk_cell HXr.out 3).trans rfl
              have z4 : wr.cell? ⟨g, 4, none⟩ = some (.slice A4 r.f4.length c4) := (blk_cell HXr.out 4).trans rfl
              have z5 : wr.cell? ⟨g, 5, none⟩ = some (.slice A5 r.f5.length c5) := (blk_cell HXr.out 5).trans rfl
              have z6 : wr.cell? ⟨g, 6, none⟩ = some (.slice A6 r.f6.length c6) := (blk_cell HXr.out 6).trans rfl
              cases gk with
              | zero =>
                obtain rfl : k = r.f4.length := by have := HK.out; omega
                have HS2 := Lib.hid (sAcc_end ac r.f4 bytesOf)
                go_wp2
                rw [HS2.out]
                obtain ⟨ac, hac2⟩ : ∃ ac2, ac ++ r.f4.flatMap (bytesOf) = ac2 := ⟨_, rfl⟩
                rw [hac2]
                have HAcc := Lib.hid (show ac.length ≤ 5000000000 by
                  rw [← hac2, List.length_append]
                  have h1 := nums_le r.f5 r.f5.length 4
                  have h1' := nums_le r.f5 r.f5.length 2
                  have h4 := names_le r.f4 r.f4.length
                  rw [List.take_length] at h1 h1' h4
                  have h2 := HF.out.names
                  have h3 := HAcc.out
                  omega)
                have HAq := Lib.hid (hac2.symm.trans (congrArg (fun x => x ++ r.f4.flatMap (bytesOf)) HAq.out))
                clear hac2 HS2
                go_loopg [6, 9] r.f5.length (fun kq v6 v w' => ∃ k : Nat, v = .int .i64 k ∧ v6 = .string (sAcc ac r.f5 (fun n => putL n 4) k) ∧ Aside0 (kq + k = r.f5.length) ∧ Aside0 (Below w1.heap.size w1 w'))
                case atStart => exact ⟨0, rfl, by rw [sAcc_zero], ⟨rfl⟩, HBr⟩
                case round =>
                  clear HBr HXr HBt z0 z1 z2 z3 z4 z5 z6
                  obtain ⟨k, rfl, rfl, HK, HBr⟩ := hrel
                  have HXr := Aside0.mk (blk_below HX.out HBr.out)
                  have HBt := Aside0.mk (HB.out.trans (HBr.out.mono (below_size HB.out)))
                  have z0 : wr.cell? ⟨g, 0, none⟩ = some (.string r.f0) := (blk_cell HXr.out 0).trans rfl
                  have z1 : wr.cell? ⟨g, 1, none⟩ = some (.int .u16 r.f1) := (blk_cell HXr.out 1).trans rfl
                  have z2 : wr.cell? ⟨g, 2, none⟩ = some (.int .u16 r.f2) := (blk_cell HXr.out 2).trans rfl
                  have z3 : wr.cell? ⟨g, 3, none⟩ = some (.int .u32 r.f3) := (blk_cell HXr.out 3).trans rfl
                  have z4 : wr.cell? ⟨g, 4, none⟩ = some (.slice A4 r.f4.length c4) := (blk_cell HXr.out 4).trans rfl
                  have z5 : wr.cell? ⟨g, 5, none⟩ = some (.slice A5 r.f5.length c5) := (blk_cell HXr.out 5).trans rfl
                  have z6 : wr.cell? ⟨g, 6, none⟩ = some (.slice A6 r.f6.length c6) := (blk_cell HXr.out 6).trans rfl
                  cases gk with
                  | zero =>
                    obtain rfl : k = r.f5.length := by have := HK.out; omega
                    have HS2 := Lib.hid (sAcc_end ac r.f5 (fun n => putL n 4))
                    go_wp2
                    rw [HS2.out]
                    obtain ⟨ac, hac2⟩ : ∃ ac2, ac ++ r.f5.flatMap (fun n => putL n 4) = ac2 := ⟨_, rfl⟩
                    rw [hac2]
                    have HAcc := Lib.hid (show ac.length ≤ 9900000000 by
                      rw [← hac2, List.length_append]
                      have h1 := nums_le r.f5 r.f5.length 4
                      have h1' := nums_le r.f5 r.f5.length 2
                      have h4 := names_le r.f4 r.f4.length
                      rw [List.take_length] at h1 h1' h4
                      have h2 := HF.out.names
                      have h3 := HAcc.out
                      omega)
                    have HAq := Lib.hid (hac2.symm.trans (congrArg (fun x => x ++ r.f5.flatMap (fun n => putL n 4)) HAq.out))
                    clear hac2 HS2
                    go_loopg [6, 10] r.f6.length (fun kq v6 v w' => ∃ k : Nat, v = .int .i64 k ∧ v6 = .string (sAcc ac r.f6 (textL r) k) ∧ Aside0 (kq + k = r.f6.length) ∧ Aside0 (Below w1.heap.size w1 w'))
                    case atStart => exact ⟨0, rfl, by rw [sAcc_zero], ⟨rfl⟩, HBr⟩
                    case round =>
                      clear HBr HXr HBt z0 z1 z2 z3 z4 z5 z6
                      obtain ⟨k, rfl, rfl, HK, HBr⟩ := hrel
                      have HXr := Aside0.mk (blk_below HX.out HBr.out)
                      have HBt := Aside0.mk (HB.out.trans (HBr.out.mono (below_size HB.out)))
                      have z0 : wr.cell? ⟨g, 0, none⟩ = some (.string r.f0) := (blk_cell HXr.out 0).trans rfl
                      have z1 : wr.cell? ⟨g, 1, none⟩ = some (.int .u16 r.f1) := (blk_cell HXr.out 1).trans rfl
                      have z2 : wr.cell? ⟨g, 2, none⟩ = some (.int .u16 r.f2) := (blk_cell HXr.out 2).trans rfl
                      have z3 : wr.cell? ⟨g, 3, none⟩ = some (.int .u32 r.f3) := (blk_cell HXr.out 3).trans rfl
                      have z4 : wr.cell? ⟨g, 4, none⟩ = some (.slice A4 r.f4.length c4) := (blk_cell HXr.out 4).trans rfl
                      have z5 : wr.cell? ⟨g, 5, none⟩ = some (.slice A5 r.f5.length c5) := (blk_cell HXr.out 5).trans rfl
                      have z6 : wr.cell? ⟨g, 6, none⟩ = some (.slice A6 r.f6.length c6) := (blk_cell HXr.out 6).trans rfl
                      cases gk with
                      | zero =>
                        obtain rfl : k = r.f6.length := by have := HK.out; omega
                        have HS2 := Lib.hid (sAcc_end ac r.f6 (textL r))
                        go_wp2
                        go_ret2
                        exact ⟨by rw [← HRes.out]; unfold plain5E; rw [if_neg HTot.out, plainL_six K6.out, HS2.out, HAq.out]; simp, HBt.out⟩
                      | succ j =>
                        have hk : k < r.f6.length := by have := HK.out; omega
                        obtain ⟨ad, rfl, hcell⟩ := at_str (Kd.C_below G6.out HBt.out) k hk
                        have q1 : (0 : Int) ≤ (k : Int) := by omega
                        have q2 : (k : Int) < (r.f6.length : Int) := by omega
                        have HE1 := Lib.hid (sAcc_next ac r.f6 (textL r) ⟨#[]⟩ k hk)
                        have htot := txN_le r (k + 1)
                        rw [txN_next r k hk] at htot
                        have HLn := Lib.hid (show (sAcc ac r.f6 (textL r) k).size ≤ 1000000000000 by
                          unfold sAcc
                          rw [strOfNums_size, List.length_append]
                          have h1 := txN_le r k
                          unfold txN at h1
                          have h2 := HTot.out
                          have h3 := HAcc.out
                          omega)
                        obtain ⟨s, hs⟩ : ∃ s, r.f6.getD k ⟨#[]⟩ = s := ⟨_, rfl⟩
                        rw [hs] at HE1 hcell htot
                        obtain ⟨sa, hsa⟩ : ∃ sa, sAcc ac r.f6 (textL r) k = sa := ⟨_, rfl⟩
                        rw [hsa] at HE1 HLn ⊢
                        have HSz := Lib.hid (show s.size ≤ 65535 by have := HTot.out; omega)
                        have q3 : (s.size : Int) ≤ 65535 := by have := HSz.out; omega
                        have hlne : ¬ g = wr.heap.size := Nat.ne_of_lt (blk_lt HXr.out)
                        have hza : ∀ o, (wr.alloc o).cell? ⟨g, 6, none⟩ = some (.slice (some ad) r.f6.length c6) := fun o => pw_cell_below (below_alloc (Below.refl _ _) o) z6
                        have hca : ∀ o, (wr.alloc o).cell? (ad.add k) = some (.string s) := fun o => pw_cell_below (below_alloc (Below.refl _ _) o) hcell
                        clear hs htot hsa
                        by_cases k16 : r.f1 = 16
                        · have e16 : (r.f1 == 16) = true := beq_iff_eq.mpr k16
                          have hu : IntKind.u8.wrap (s.size : Int) = (s.size : Int) % 256 := by rw [IntKind.wrap_u8]
                          have hcv := fun W => one_byte W ((s.size : Int) % 256)
                          have hadd1 := fun W => run_string_add_sum (P := Try.prog) W sa (strOfNums [(s.size : Int) % 256]) (by rw [strOfNums_size]; have := HLn.out; simp; omega)
                          have hadd2 := fun W => run_string_add_sum (P := Try.prog) W (sa ++ strOfNums [(s.size : Int) % 256]) s (by rw [ByteArray.size_append, strOfNums_size]; have := HLn.out; have := HSz.out; simp; omega)
                          have HT := Lib.hid (show sa ++ strOfNums [(s.size : Int) % 256] ++ s = sAcc ac r.f6 (textL r) (k + 1) by
                            rw [← HE1.out]
                            unfold textL
                            rw [if_pos k16, ← str_app, str_of, ByteArray.append_assoc])
                          clear k16
                          go_wp2
                          go_roundg j
                          case measure => omega
                          case rel => exact ⟨k + 1, by go_num, by rw [← HT.out], ⟨by have := HK.out; omega⟩, ⟨below_alloc HBr.out _⟩⟩
                        · have e16 : (r.f1 == 16) = false := beq_eq_false_iff_ne.mpr k16
                          have hadd2 := fun W => run_string_add_sum (P := Try.prog) W sa s (by have := HLn.out; have := HSz.out; omega)
                          have HT := Lib.hid (show sa ++ s = sAcc ac r.f6 (textL r) (k + 1) by
                            rw [← HE1.out]
                            unfold textL
                            rw [if_neg k16, List.nil_append, str_of])
                          clear k16
                          go_wp2
                          go_roundg j
                          case measure => omega
                          case rel => exact ⟨k + 1, by go_num, by rw [← HT.out], ⟨by have := HK.out; omega⟩, HBr⟩
                  | succ j =>
                    have hk : k < r.f5.length := by have := HK.out; omega
                    obtain ⟨ad, rfl, hcell⟩ := at_int (Kd.C_below G5.out HBt.out) k hk
                    have q1 : (0 : Int) ≤ (k : Int) := by omega
                    have q2 : (k : Int) < (r.f5.length : Int) := by omega
                    obtain ⟨n0, n1⟩ := HF.out.wf k hk
                    have HE1 := Lib.hid (sAcc_next ac r.f5 (fun n => putL n 4) 0 k hk)
                    have HLn := Lib.hid (show (sAcc ac r.f5 (fun n => putL n 4) k).size ≤ 1000000000000 by
                      unfold sAcc
                      rw [strOfNums_size, List.length_append]
                      have h1 := nums_le r.f5 k 4
                      have h2 := HF.out.names
                      have h3 := HAcc.out
                      omega)
                    obtain ⟨n, hn⟩ : ∃ n, r.f5.getD k 0 = n := ⟨_, rfl⟩
                    rw [hn] at n0 n1 HE1 hcell
                    clear hn
                    go_wp2_with fail
                    refine (Put5_calls _ n 4 _ HLn.out n0 n1 (by decide)).mono ?_
                    rintro e w' ⟨rfl, hb⟩
                    have HBn := Aside0.mk (HBr.out.trans (hb.mono HBr.out.size))
                    clear hb
                    go_wp2_with fail
                    go_roundg j
                    case measure => omega
                    case rel => exact ⟨k + 1, by go_num, by rw [HE1.out], ⟨by have := HK.out; omega⟩, HBn⟩
              | succ j =>
                have hk : k < r.f4.length := by have := HK.out; omega
                obtain ⟨ad, rfl, hcell⟩ := at_str (Kd.C_below G4.out HBt.out) k hk
                have q1 : (0 : Int) ≤ (k : Int) := by omega
                have q2 : (k : Int) < (r.f4.length : Int) := by omega
                have HE1 := Lib.hid (sAcc_next ac r.f4 bytesOf ⟨#[]⟩ k hk)
                have HSn := Lib.hid (flat_snoc ⟨#[]⟩ bytesOf r.f4 k hk)
                have hsz : (r.f4.getD k ⟨#[]⟩).size ≤ 1000000000 := by
                  have h1 := names_le r.f4 (k + 1)
                  rw [HSn.out, List.length_append, bytesOf_length] at h1
                  have h2 := HF.out.names
                  omega
                have HLn := Lib.hid (show (sAcc ac r.f4 bytesOf k).size ≤ 1000000000000 by
                  unfold sAcc
                  rw [strOfNums_size, List.length_append]
                  have h1 := names_le r.f4 k
                  have h2 := HF.out.names
                  have h3 := HAcc.out
                  omega)
                obtain ⟨s, hs⟩ : ∃ s, r.f4.getD k ⟨#[]⟩ = s := ⟨_, rfl⟩
                rw [hs, str_of] at HE1
                rw [hs] at hcell hsz
                have hadd := fun W => run_string_add_sum (P := Try.prog) W (sAcc ac r.f4 bytesOf k) s (by have := HLn.out; omega)
                clear hs HSn
                go_wp2
                go_roundg j
                case measure => omega
                case rel => exact ⟨k + 1, by go_num, by rw [HE1.out], ⟨by have := HK.out; omega⟩, HBr⟩
      · have K6 := Lib.hid k6
        have e6 : (r.f1 != 6) = true := by rw [bne_iff_ne]; exact k6
        have e7 : (r.f1 == 6) = false := beq_eq_false_iff_ne.mpr k6
        obtain ⟨ac, hac⟩ : ∃ ac : List Int, ac = [] := ⟨_, rfl⟩
        have HAcc := Lib.hid (show ac.length ≤ 10 by rw [hac]; simp)
        have hs0 : (⟨#[]⟩ : ByteArray) = strOfNums ac := by rw [hac]; rfl
        have HS0 := Lib.hid hs0
        have HAq := Lib.hid hac
        clear hac hs0
        clear k6
        go_wp2
        rw [HS0.out]
        go_loopg [6, 7] r.f5.length (fun kq v6 v w' => ∃ k : Nat, v = .int .i64 k ∧ v6 = .string (sAcc ac r.f5 (fun n => putL n 2) k) ∧ Aside0 (kq + k = r.f5.length) ∧ Aside0 (Below w1.heap.size w1 w'))
        case atStart => exact ⟨0, rfl, by rw [sAcc_zero], ⟨rfl⟩, HBr⟩
        case round =>
          clear HBr HXr HBt z0 z1 z2 z3 z4 z5 z6
          obtain ⟨k, rfl, rfl, HK, HBr⟩ := hrel
          have HXr := Aside0.mk (blk_below HX.out HBr.out)
          have HBt := Aside0.mk (HB.out.trans (HBr.out.mono (below_size HB.out)))
          have z0 : wr.cell? ⟨g, 0, none⟩ = some (.string r.f0) := (blk_cell HXr.out 0).trans rfl
          have z1 : wr.cell? ⟨g, 1, none⟩ = some (.int .u16 r.f1) := (blk_cell HXr.out 1).trans rfl
          have z2 : wr.cell? ⟨g, 2, none⟩ = some (.int .u16 r.f2) := (blk_cell HXr.out 2).trans rfl
          have z3 : wr.cell? ⟨g, 3, none⟩ = some (.int .u32 r.f3) := (blk_cell HXr.out 3).trans rfl
          have z4 : wr.cell? ⟨g, 4, none⟩ = some (.slice A4 r.f4.length c4) := (blk_cell HXr.out 4).trans rfl
          have z5 : wr.cell? ⟨g, 5, none⟩ = some (.slice A5 r.f5.length c5) := (blk_cell HXr.out 5).trans rfl
          have z6 : wr.cell? ⟨g, 6, none⟩ = some (.slice A6 r.f6.length c6) := (blk_cell HXr.out 6).trans rfl
          cases gk with
          | zero =>
            obtain rfl : k = r.f5.length := by have := HK.out; omega
            have HS2 := Lib.hid (sAcc_end ac r.f5 (fun n => putL n 2))
            go_wp2
            rw [HS2.out]
            obtain ⟨ac, hac2⟩ : ∃ ac2, ac ++ r.f5.flatMap (fun n => putL n 2) = ac2 := ⟨_, rfl⟩
            rw [hac2]
            have HAcc := Lib.hid (show ac.length ≤ 5000000000 by
              rw [← hac2, List.length_append]
              have h1 := nums_le r.f5 r.f5.length 4
              have h1' := nums_le r.f5 r.f5.length 2
              have h4 := names_le r.f4 r.f4.length
              rw [List.take_length] at h1 h1' h4
              have h2 := HF.out.names
              have h3 := HAcc.out
              omega)
            have HAq := Lib.hid (hac2.symm.trans (congrArg (fun x => x ++ r.f5.flatMap (fun n => putL n 2)) HAq.out))
            clear hac2 HS2
            go_loopg [6, 8] r.f4.length (fun kq v6 v w' => ∃ k : Nat, v = .int .i64 k ∧ v6 = .string (sAcc ac r.f4 (bytesOf) k) ∧ Aside0 (kq + k = r.f4.length) ∧ Aside0 (Below w1.heap.size w1 w'))
            case atStart => exact ⟨0, rfl, by rw [sAcc_zero], ⟨rfl⟩, HBr⟩
            case round =>
              clear HBr HXr HBt z0 z1 z2 z3 z4 z5 z6
              obtain ⟨k, rfl, rfl, HK, HBr⟩ := hrel
              have HXr := Aside0.mk (blk_below HX.out HBr.out)
              have HBt := Aside0.mk (HB.out.trans (HBr.out.mono (below_size HB.out)))
              have z0 : wr.cell? ⟨g, 0, none⟩ = some (.string r.f0) := (blk_cell HXr.out 0).trans rfl
              have z1 : wr.cell? ⟨g, 1, none⟩ = some (.int .u16 r.f1) := (blk_cell HXr.out 1).trans rfl
              have z2 : wr.cell? ⟨g, 2, none⟩ = some (.int .u16 r.f2) := (blk_cell HXr.out 2).trans rfl
              have z3 : wr.cell? ⟨g, 3, none⟩ = some (.int .u32 r.f3) := (blk_cell HXr.out 3).trans rfl
              have z4 : wr.cell? ⟨g, 4, none⟩ = some (.slice A4 r.f4.length c4) := (blk_cell HXr.out 4).trans rfl
              have z5 : wr.cell? ⟨g, 5, none⟩ = some (.slice A5 r.f5.length c5) := (blk_cell HXr.out 5).trans rfl
              have z6 : wr.cell? ⟨g, 6, none⟩ = some (.slice A6 r.f6.length c6) := (blk_cell HXr.out 6).trans rfl
              cases gk with
              | zero =>
                obtain rfl : k = r.f4.length := by have := HK.out; omega
                have HS2 := Lib.hid (sAcc_end ac r.f4 bytesOf)
                go_wp2
                rw [HS2.out]
                obtain ⟨ac, hac2⟩ : ∃ ac2, ac ++ r.f4.flatMap (bytesOf) = ac2 := ⟨_, rfl⟩
                rw [hac2]
                have HAcc := Lib.hid (show ac.length ≤ 9000000000 by
                  rw [← hac2, List.length_append]
                  have h1 := nums_le r.f5 r.f5.length 4
                  have h1' := nums_le r.f5 r.f5.length 2
                  have h4 := names_le r.f4 r.f4.length
                  rw [List.take_length] at h1 h1' h4
                  have h2 := HF.out.names
                  have h3 := HAcc.out
                  omega)
                have HAq := Lib.hid (hac2.symm.trans (congrArg (fun x => x ++ r.f4.flatMap (bytesOf)) HAq.out))
                clear hac2 HS2
                go_loopg [6, 9] 1 (fun kq v6 v w' => v6 = .string (strOfNums ac) ∧ v = .int .i64 0 ∧ Aside0 (Below w1.heap.size w1 w'))
                case atStart => exact ⟨rfl, rfl, HBr⟩
                case round =>
                  clear HBr HXr HBt z0 z1 z2 z3 z4 z5 z6
                  obtain ⟨rfl, rfl, HBr⟩ := hrel
                  have HXr := Aside0.mk (blk_below HX.out HBr.out)
                  have HBt := Aside0.mk (HB.out.trans (HBr.out.mono (below_size HB.out)))
                  have z0 : wr.cell? ⟨g, 0, none⟩ = some (.string r.f0) := (blk_cell HXr.out 0).trans rfl
                  have z1 : wr.cell? ⟨g, 1, none⟩ = some (.int .u16 r.f1) := (blk_cell HXr.out 1).trans rfl
                  have z2 : wr.cell? ⟨g, 2, none⟩ = some (.int .u16 r.f2) := (blk_cell HXr.out 2).trans rfl
                  have z3 : wr.cell? ⟨g, 3, none⟩ = some (.int .u32 r.f3) := (blk_cell HXr.out 3).trans rfl
                  have z4 : wr.cell? ⟨g, 4, none⟩ = some (.slice A4 r.f4.length c4) := (blk_cell HXr.out 4).trans rfl
                  have z5 : wr.cell? ⟨g, 5, none⟩ = some (.slice A5 r.f5.length c5) := (blk_cell HXr.out 5).trans rfl
                  have z6 : wr.cell? ⟨g, 6, none⟩ = some (.slice A6 r.f6.length c6) := (blk_cell HXr.out 6).trans rfl
                  by_cases c0 : 0 < r.f5.length
                  · have c1 : decide ((0 : Int) < (r.f5.length : Int)) = true := decide_eq_true (by omega)
                    have c2 : decide (0 < r.f5.length) = true := decide_eq_true c0
                    clear c0
                    go_wp2
                    go_loopg [6, 10] r.f6.length (fun kq v6 v w' => ∃ k : Nat, v = .int .i64 k ∧ v6 = .string (sAcc ac r.f6 (textL r) k) ∧ Aside0 (kq + k = r.f6.length) ∧ Aside0 (Below w1.heap.size w1 w'))
                    case atStart => exact ⟨0, rfl, by rw [sAcc_zero], ⟨rfl⟩, HBr⟩
                    case round =>
                      clear HBr HXr HBt z0 z1 z2 z3 z4 z5 z6
                      obtain ⟨k, rfl, rfl, HK, HBr⟩ := hrel
                      have HXr := Aside0.mk (blk_below HX.out HBr.out)
                      have HBt := Aside0.mk (HB.out.trans (HBr.out.mono (below_size HB.out)))
                      have z0 : wr.cell? ⟨g, 0, none⟩ = some (.string r.f0) := (blk_cell HXr.out 0).trans rfl
                      have z1 : wr.cell? ⟨g, 1, none⟩ = some (.int .u16 r.f1) := (blk_cell HXr.out 1).trans rfl
                      have z2 : wr.cell? ⟨g, 2, none⟩ = some (.int .u16 r.f2) := (blk_cell HXr.out 2).trans rfl
                      have z3 : wr.cell? ⟨g, 3, none⟩ = some (.int .u32 r.f3) := (blk_cell HXr.out 3).trans rfl
                      have z4 : wr.cell? ⟨g, 4, none⟩ = some (.slice A4 r.f4.length c4) := (blk_cell HXr.out 4).trans rfl
                      have z5 : wr.cell? ⟨g, 5, none⟩ = some (.slice A5 r.f5.length c5) := (blk_cell HXr.out 5).trans rfl
                      have z6 : wr.cell? ⟨g, 6, none⟩ = some (.slice A6 r.f6.length c6) := (blk_cell HXr.out 6).trans rfl
                      cases gk with
                      | zero =>
                        obtain rfl : k = r.f6.length := by have := HK.out; omega
                        have HS2 := Lib.hid (sAcc_end ac r.f6 (textL r))
                        go_wp2
                        go_ret2
                        exact ⟨by rw [← HRes.out]; unfold plain5E; rw [if_neg HTot.out, plainL_not K6.out, HS2.out, HAq.out]; simp, HBt.out⟩
                      | succ j =>
                        have hk : k < r.f6.length := by have := HK.out; omega
                        obtain ⟨ad, rfl, hcell⟩ := at_str (Kd.C_below G6.out HBt.out) k hk
                        have q1 : (0 : Int) ≤ (k : Int) := by omega
                        have q2 : (k : Int) < (r.f6.length : Int) := by omega
                        have HE1 := Lib.hid (sAcc_next ac r.f6 (textL r) ⟨#[]⟩ k hk)
                        have htot := txN_le r (k + 1)
                        rw [txN_next r k hk] at htot
                        have HLn := Lib.hid (show (sAcc ac r.f6 (textL r) k).size ≤ 1000000000000 by
                          unfold sAcc
                          rw [strOfNums_size, List.length_append]
                          have h1 := txN_le r k
                          unfold txN at h1
                          have h2 := HTot.out
                          have h3 := HAcc.out
                          omega)
                        obtain ⟨s, hs⟩ : ∃ s, r.f6.getD k ⟨#[]⟩ = s := ⟨_, rfl⟩
                        rw [hs] at HE1 hcell htot
                        obtain ⟨sa, hsa⟩ : ∃ sa, sAcc ac r.f6 (textL r) k = sa := ⟨_, rfl⟩
                        rw [hsa] at HE1 HLn ⊢
                        have HSz := Lib.hid (show s.size ≤ 65535 by have := HTot.out; omega)
                        have q3 : (s.size : Int) ≤ 65535 := by have := HSz.out; omega
                        have hlne : ¬ g = wr.heap.size := Nat.ne_of_lt (blk_lt HXr.out)
                        have hza : ∀ o, (wr.alloc o).cell? ⟨g, 6, none⟩ = some (.slice (some ad) r.f6.length c6) := fun o => pw_cell_below (below_alloc (Below.refl _ _) o) z6
                        have hca : ∀ o, (wr.alloc o).cell? (ad.add k) = some (.string s) := fun o => pw_cell_below (below_alloc (Below.refl _ _) o) hcell
                        clear hs htot hsa
                        by_cases k16 : r.f1 = 16
                        · have e16 : (r.f1 == 16) = true := beq_iff_eq.mpr k16
                          have hu : IntKind.u8.wrap (s.size : Int) = (s.size : Int) % 256 := by rw [IntKind.wrap_u8]
                          have hcv := fun W => one_byte W ((s.size : Int) % 256)
                          have hadd1 := fun W => run_string_add_sum (P := Try.prog) W sa (strOfNums [(s.size : Int) % 256]) (by rw [strOfNums_size]; have := HLn.out; simp; omega)
                          have hadd2 := fun W => run_string_add_sum (P := Try.prog) W (sa ++ strOfNums [(s.size : Int) % 256]) s (by rw [ByteArray.size_append, strOfNums_size]; have := HLn.out; have := HSz.out; simp; omega)
                          have HT := Lib.hid (show sa ++ strOfNums [(s.size : Int) % 256] ++ s = sAcc ac r.f6 (textL r) (k + 1) by
                            rw [← HE1.out]
                            unfold textL
                            rw [if_pos k16, ← str_app, str_of, ByteArray.append_assoc])
                          clear k16
                          go_wp2
                          go_roundg j
                          case measure => omega
                          case rel => exact ⟨k + 1, by go_num, by rw [← HT.out], ⟨by have := HK.out; omega⟩, ⟨below_alloc HBr.out _⟩⟩
                        · have e16 : (r.f1 == 16) = false := beq_eq_false_iff_ne.mpr k16
                          have hadd2 := fun W => run_string_add_sum (P := Try.prog) W sa s (by have := HLn.out; have := HSz.out; omega)
                          have HT := Lib.hid (show sa ++ s = sAcc ac r.f6 (textL r) (k + 1) by
                            rw [← HE1.out]
                            unfold textL
                            rw [if_neg k16, List.nil_append, str_of])
                          clear k16
                          go_wp2
                          go_roundg j
                          case measure => omega
                          case rel => exact ⟨k + 1, by go_num, by rw [← HT.out], ⟨by have := HK.out; omega⟩, HBr⟩
                  · have c1 : decide ((0 : Int) < (r.f5.length : Int)) = false := decide_eq_false (by omega)
                    have c2 : decide (0 < r.f5.length) = false := decide_eq_false c0
                    clear c0
                    go_wp2
                    go_loopg [6, 10] r.f6.length (fun kq v6 v w' => ∃ k : Nat, v = .int .i64 k ∧ v6 = .string (sAcc ac r.f6 (textL r) k) ∧ Aside0 (kq + k = r.f6.length) ∧ Aside0 (Below w1.heap.size w1 w'))
                    case atStart => exact ⟨0, rfl, by rw [sAcc_zero], ⟨rfl⟩, HBr⟩
                    case round =>
                      clear HBr HXr HBt z0 z1 z2 z3 z4 z5 z6
                      obtain ⟨k, rfl, rfl, HK, HBr⟩ := hrel
                      have HXr := Aside0.mk (blk_below HX.out HBr.out)
                      have HBt := Aside0.mk (HB.out.trans (HBr.out.mono (below_size HB.out)))
                      have z0 : wr.cell? ⟨g, 0, none⟩ = some (.string r.f0) := (blk_cell HXr.out 0).trans rfl
                      have z1 : wr.cell? ⟨g, 1, none⟩ = some (.int .u16 r.f1) := (blk_cell HXr.out 1).trans rfl
                      have z2 : wr.cell? ⟨g, 2, none⟩ = some (.int .u16 r.f2) := (blk_cell HXr.out 2).trans rfl
                      have z3 : wr.cell? ⟨g, 3, none⟩ = some (.int .u32 r.f3) := (blk_cell HXr.out 3).trans rfl
                      have z4 : wr.cell? ⟨g, 4, none⟩ = some (.slice A4 r.f4.length c4) := (blk_cell HXr.out 4).trans rfl
                      have z5 : wr.cell? ⟨g, 5, none⟩ = some (.slice A5 r.f5.length c5) := (blk_cell HXr.out 5).trans rfl
                      have z6 : wr.cell? ⟨g, 6, none⟩ = some (.slice A6 r.f6.length c6) := (blk_cell HXr.out 6).trans rfl
                      cases gk with
                      | zero =>
                        obtain rfl : k = r.f6.length := by have := HK.out; omega
                        have HS2 := Lib.hid (sAcc_end ac r.f6 (textL r))
                        go_wp2
                        go_ret2
                        exact ⟨by rw [← HRes.out]; unfold plain5E; rw [if_neg HTot.out, plainL_not K6.out, HS2.out, HAq.out]; simp, HBt.out⟩
                      | succ j =>
                        have hk : k < r.f6.length := by have := HK.out; omega
                        obtain ⟨ad, rfl, hcell⟩ := at_str (Kd.C_below G6.out HBt.out) k hk
                        have q1 : (0 : Int) ≤ (k : Int) := by omega
                        have q2 : (k : Int) < (r.f6.length : Int) := by omega
                        have HE1 := Lib.hid (sAcc_next ac r.f6 (textL r) ⟨#[]⟩ k hk)
                        have htot := txN_le r (k + 1)
                        rw [txN_next r k hk] at htot
                        have HLn := Lib.hid (show (sAcc ac r.f6 (textL r) k).size ≤ 1000000000000 by
                          unfold sAcc
                          rw [strOfNums_size, List.length_append]
                          have h1 := txN_le r k
                          unfold txN at h1
                          have h2 := HTot.out
                          have h3 := HAcc.out
                          omega)
                        obtain ⟨s, hs⟩ : ∃ s, r.f6.getD k ⟨#[]⟩ = s := ⟨_, rfl⟩
                        rw [hs] at HE1 hcell htot
                        obtain ⟨sa, hsa⟩ : ∃ sa, sAcc ac r.f6 (textL r) k = sa := ⟨_, rfl⟩
                        rw [hsa] at HE1 HLn ⊢
                        have HSz := Lib.hid (show s.size ≤ 65535 by have := HTot.out; omega)
                        have q3 : (s.size : Int) ≤ 65535 := by have := HSz.out; omega
                        have hlne : ¬ g = wr.heap.size := Nat.ne_of_lt (blk_lt HXr.out)
                        have hza : ∀ o, (wr.alloc o).cell? ⟨g, 6, none⟩ = some (.slice (some ad) r.f6.length c6) := fun o => pw_cell_below (below_alloc (Below.refl _ _) o) z6
                        have hca : ∀ o, (wr.alloc o).cell? (ad.add k) = some (.string s) := fun o => pw_cell_below (below_alloc (Below.refl _ _) o) hcell
                        clear hs htot hsa
                        by_cases k16 : r.f1 = 16
                        · have e16 : (r.f1 == 16) = true := beq_iff_eq.mpr k16
                          have hu : IntKind.u8.wrap (s.size : Int) = (s.size : Int) % 256 := by rw [IntKind.wrap_u8]
                          have hcv := fun W => one_byte W ((s.size : Int) % 256)
                          have hadd1 := fun W => run_string_add_sum (P := Try.prog) W sa (strOfNums [(s.size : Int) % 256]) (by rw [strOfNums_size]; have := HLn.out; simp; omega)
                          have hadd2 := fun W => run_string_add_sum (P := Try.prog) W (sa ++ strOfNums [(s.size : Int) % 256]) s (by rw [ByteArray.size_append, strOfNums_size]; have := HLn.out; have := HSz.out; simp; omega)
                          have HT := Lib.hid (show sa ++ strOfNums [(s.size : Int) % 256] ++ s = sAcc ac r.f6 (textL r) (k + 1) by
                            rw [← HE1.out]
                            unfold textL
                            rw [if_pos k16, ← str_app, str_of, ByteArray.append_assoc])
                          clear k16
                          go_wp2
                          go_roundg j
                          case measure => omega
                          case rel => exact ⟨k + 1, by go_num, by rw [← HT.out], ⟨by have := HK.out; omega⟩, ⟨below_alloc HBr.out _⟩⟩
                        · have e16 : (r.f1 == 16) = false := beq_eq_false_iff_ne.mpr k16
                          have hadd2 := fun W => run_string_add_sum (P := Try.prog) W sa s (by have := HLn.out; have := HSz.out; omega)
                          have HT := Lib.hid (show sa ++ s = sAcc ac r.f6 (textL r) (k + 1) by
                            rw [← HE1.out]
                            unfold textL
                            rw [if_neg k16, List.nil_append, str_of])
                          clear k16
                          go_wp2
                          go_roundg j
                          case measure => omega
                          case rel => exact ⟨k + 1, by go_num, by rw [← HT.out], ⟨by have := HK.out; omega⟩, HBr⟩
              | succ j =>
                have hk : k < r.f4.length := by have := HK.out; omega
                obtain ⟨ad, rfl, hcell⟩ := at_str (Kd.C_below G4.out HBt.out) k hk
                have q1 : (0 : Int) ≤ (k : Int) := by omega
                have q2 : (k : Int) < (r.f4.length : Int) := by omega
                have HE1 := Lib.hid (sAcc_next ac r.f4 bytesOf ⟨#[]⟩ k hk)
                have HSn := Lib.hid (flat_snoc ⟨#[]⟩ bytesOf r.f4 k hk)
                have hsz : (r.f4.getD k ⟨#[]⟩).size ≤ 1000000000 := by
                  have h1 := names_le r.f4 (k + 1)
                  rw [HSn.out, List.length_append, bytesOf_length] at h1
                  have h2 := HF.out.names
                  omega
                have HLn := Lib.hid (show (sAcc ac r.f4 bytesOf k).size ≤ 1000000000000 by
                  unfold sAcc
                  rw [strOfNums_size, List.length_append]
                  have h1 := names_le r.f4 k
                  have h2 := HF.out.names
                  have h3 := HAcc.out
                  omega)
                obtain ⟨s, hs⟩ : ∃ s, r.f4.getD k ⟨#[]⟩ = s := ⟨_, rfl⟩
                rw [hs, str_of] at HE1
                rw [hs] at hcell hsz
                have hadd := fun W => run_string_add_sum (P := Try.prog) W (sAcc ac r.f4 bytesOf k) s (by have := HLn.out; omega)
                clear hs HSn
                go_wp2
                go_roundg j
                case measure => omega
                case rel => exact ⟨k + 1, by go_num, by rw [HE1.out], ⟨by have := HK.out; omega⟩, HBr⟩
          | succ j =>
            have hk : k < r.f5.length := by have := HK.out; omega
            obtain ⟨ad, rfl, hcell⟩ := at_int (Kd.C_below G5.out HBt.out) k hk
            have q1 : (0 : Int) ≤ (k : Int) := by omega
            have q2 : (k : Int) < (r.f5.length : Int) := by omega
            obtain ⟨n0, n1⟩ := HF.out.wf k hk
            have HE1 := Lib.hid (sAcc_next ac r.f5 (fun n => putL n 2) 0 k hk)
            have HLn := Lib.hid (show (sAcc ac r.f5 (fun n => putL n 2) k).size ≤ 1000000000000 by
              unfold sAcc
              rw [strOfNums_size, List.length_append]
              have h1 := nums_le r.f5 k 2
              have h2 := HF.out.names
              have h3 := HAcc.out
              omega)
            obtain ⟨n, hn⟩ : ∃ n, r.f5.getD k 0 = n := ⟨_, rfl⟩
            rw [hn] at n0 n1 HE1 hcell
            clear hn
            go_wp2_with fail
            refine (Put5_calls _ n 2 _ HLn.out n0 n1 (by decide)).mono ?_
            rintro e w' ⟨rfl, hb⟩
            have HBn := Aside0.mk (HBr.out.trans (hb.mono HBr.out.size))
            clear hb
            go_wp2_with fail
            go_roundg j
            case measure => omega
            case rel => exact ⟨k + 1, by go_num, by rw [HE1.out], ⟨by have := HK.out; omega⟩, HBn⟩
    | succ j =>
      have hk : k < r.f6.length := by have := HK.out; omega
      obtain ⟨ad, rfl, hcell⟩ := at_str (Kd.C_below G6.out HB.out) k hk
      have q1 : (0 : Int) ≤ (k : Int) := by omega
      have q2 : (k : Int) < (r.f6.length : Int) := by omega
      have hnx := txN_next r k hk
      have htl := txN_le r (k + 1)
      have hfl := HF.out.texts k hk
      obtain ⟨s, hs⟩ : ∃ s, r.f6.getD k ⟨#[]⟩ = s := ⟨_, rfl⟩
      rw [hs] at hcell hnx hfl
      obtain ⟨tk, htk⟩ : ∃ tk, txN r k = tk := ⟨_, rfl⟩
      have hT : tk ≤ 65535 := by have := HT.out; omega
      rw [htk] at hnx ⊢
      have q3 : (tk : Int) ≤ 65535 := by omega
      have q4 : (s.size : Int) ≤ 1000000000 := by omega
      clear hs htk hfl HT
      by_cases k16 : r.f1 = 16
      · have e16 : (r.f1 == 16) = true := beq_iff_eq.mpr k16
        rw [if_pos k16] at hnx
        by_cases kb : 65535 < tk + (s.size + 1)
        · have d1 : decide ((65535 : Int) < (tk : Int) + (s.size : Int) + 1) = true := decide_eq_true (by omega)
          have HF2 := Lib.hid (show R = .returned (.tuple #[.string ⟨#[]⟩, .bool false]) by rw [← HRes.out]; unfold plain5E; rw [if_pos (by omega)])
          clear hnx htl kb k16
          go_wp2
          go_ret2
          exact ⟨HF2.out.symm, HB.out⟩
        · have d1 : decide ((65535 : Int) < (tk : Int) + (s.size : Int) + 1) = false := decide_eq_false (by omega)
          have HNx := Lib.hid hnx
          clear hnx htl k16
          go_wp2
          go_roundg j
          case measure => omega
          case rel => exact ⟨k + 1, by go_num, by rw [HNx.out]; go_num, ⟨by have := HK.out; omega⟩, ⟨by rw [HNx.out]; omega⟩, rfl⟩
      · have e16 : (r.f1 == 16) = false := beq_eq_false_iff_ne.mpr k16
        rw [if_neg k16] at hnx
        by_cases kb : 65535 < tk + s.size
        · have d1 : decide ((65535 : Int) < (tk : Int) + (s.size : Int)) = true := decide_eq_true (by omega)
          have HF2 := Lib.hid (show R = .returned (.tuple #[.string ⟨#[]⟩, .bool false]) by rw [← HRes.out]; unfold plain5E; rw [if_pos (by omega)])
          clear hnx htl kb k16
          go_wp2
          go_ret2
          exact ⟨HF2.out.symm, HB.out⟩
        · have d1 : decide ((65535 : Int) < (tk : Int) + (s.size : Int)) = false := decide_eq_false (by omega)
          have HNx := Lib.hid hnx
          clear hnx htl k16
          go_wp2
          go_roundg j
          case measure => omega
          case rel => exact ⟨k + 1, by go_num, by rw [HNx.out]; go_num, ⟨by have := HK.out; omega⟩, ⟨by rw [HNx.out]; omega⟩, rfl⟩
end Go.Proofs.Ytfoflodgegehfaa.M
set_option linter.unusedVariables false
set_option linter.unusedSimpArgs false
namespace Go.Proofs.Ytfoflodgegehfaa.M
open Go.RowKit Go.Maps Go.Proofs.YtfoflodgegehfaaW.PrintWords Go.Proofs.YtfoflodgegehfaaW.PrintLast Go.Proofs.YtfoflodgegehfaaW.PrintMore
theorem bmid' (s : ByteArray) (i j : Nat) : bytesOf (s.extract i j) = ((bytesOf s).drop i).take (j - i) := by
  simp [bytesOf, List.extract_eq_take_drop, List.map_take]
theorem bzero' (s : ByteArray) (h : 0 < s.size) : (bytesOf s)[0]? = some (nb s 0 : Int) := by
  unfold nb
  rw [dif_pos h]
  simp [bytesOf]
  exact ⟨_, Array.getElem?_eq_getElem (show 0 < s.data.size from h), rfl⟩
theorem bsplit' (s : ByteArray) (h : 0 < s.size) : bytesOf s = (nb s 0 : Int) :: (bytesOf s).drop 1 := by
  have h0 := bzero' s h
  match hb : bytesOf s with
  | [] => rw [hb] at h0; exact absurd h0 (by simp)
  | x :: l =>
    rw [hb] at h0
    rw [← Option.some.inj h0]
    rfl
theorem get_byte {s : ByteArray} {a : Nat} {x : Int} (h : (bytesOf s)[a]? = some x) : getF s a 1 = some x := by
  have hl : a < s.size := by
    have := (List.getElem?_eq_some_iff.1 h).1
    rwa [bytesOf_length] at this
  unfold getF
  rw [if_neg (by omega)]
  unfold partF
  rw [if_neg (by omega)]
  have he : bytesOf (s.extract ((a : Int)).toNat ((a : Int) + 1).toNat) = [x] := by
    rw [bmid', show ((a : Int)).toNat = a by omega, show ((a : Int) + 1).toNat - a = 1 by omega]
    rw [List.drop_eq_getElem_cons (by rw [bytesOf_length]; exact hl)]
    rw [List.getElem?_eq_getElem (by rw [bytesOf_length]; exact hl)] at h
    rw [Option.some.inj h]
    rfl
  rw [Option.map_some, he]
  simp [valF]
theorem part_bytes {s : ByteArray} {a n : Nat} (h : a + n ≤ s.size) : partF s a n = some (s.extract a (a + n)) := by
  unfold partF
  rw [if_neg (by omega)]
  congr 2 <;> omega
inductive Rd (L : List Int) : Nat → Nat → List Int → Nat → Prop
  | zero {p a : Nat} (h : L[a]? = some 0) : Rd L p a [0] (a + 1)
  | label {p a n : Nat} {r : List Int} {e : Nat} (h : L[a]? = some (n : Int)) (h1 : 1 ≤ n) (h2 : n ≤ 63) (hl : a + 1 + n ≤ L.length) (hr : Rd L p (a + 1 + n) r e) : Rd L p a ((n : Int) :: ((L.drop (a + 1)).take n ++ r)) e
  | ptr {p a x y t : Nat} {r : List Int} {e : Nat} (h : L[a]? = some (x : Int)) (h1 : L[a + 1]? = some (y : Int)) (hx : 192 ≤ x) (hx2 : x ≤ 255) (ht : t = (x - 192) * 256 + y) (hp : t < p) (hr : Rd L t t r e) : Rd L p a r (a + 2)
theorem Rd.pos {L : List Int} {p a : Nat} {r : List Int} {e : Nat} (h : Rd L p a r e) : 1 ≤ r.length := by
  induction h with
  | zero h => simp
  | label h h1 h2 hl hr ih => simp
  | ptr h h1 hx hx2 ht hp hr ih => exact ih
set_option maxRecDepth 10000 in
theorem Rd.read {s : ByteArray} {L : List Int} (hL : bytesOf s = L) {p a : Nat} {r : List Int} {e : Nat} (h : Rd L p a r e) : ∀ (K : Nat) (b : List Int) (nx : Int), b.length + r.length ≤ 255 → p * 256 + 256 < K + b.length →
    nameR K s b p nx a = .ok (b ++ r, if 0 ≤ nx then nx else (e : Int)) := by
  induction h with
  | @zero p a h =>
    intro K b nx hb hK
    simp only [List.length_singleton] at hb
    obtain ⟨K, rfl⟩ : ∃ k, K = k + 1 := ⟨K - 1, by omega⟩
    unfold nameR
    rw [get_byte (by rw [hL]; exact h)]
    simp only [if_pos]
    rfl
  | @label p a n r e h h1 h2 hl hr ih =>
    intro K b nx hb hK
    have hlen : (List.take n (List.drop (a + 1) L)).length = n := by rw [List.length_take, List.length_drop]; omega
    simp only [List.length_cons, List.length_append, hlen] at hb
    have hrp := hr.pos
    obtain ⟨K, rfl⟩ : ∃ k, K = k + 1 := ⟨K - 1, by omega⟩
    unfold nameR
    rw [get_byte (by rw [hL]; exact h)]
    simp only []
    rw [if_neg (by omega), if_neg (by omega), if_neg (by omega)]
    have hsz : s.size = L.length := by rw [← hL, bytesOf_length]
    have hp := part_bytes (s := s) (a := a + 1) (n := n) (by omega)
    rw [show ((a : Int) + 1) = ((a + 1 : Nat) : Int) by omega, hp]
    simp only []
    rw [if_neg (by omega)]
    have hb2 : bytesOf (s.extract (a + 1) (a + 1 + n)) = (L.drop (a + 1)).take n := by
      rw [bmid', hL, show a + 1 + n - (a + 1) = n by omega]
    rw [hb2, show (((a + 1 : Nat) : Int) + (n : Int)) = ((a + 1 + n : Nat) : Int) by omega]
    have := ih K (b ++ [(n : Int)] ++ (L.drop (a + 1)).take n) nx (by simp only [List.length_append, List.length_singleton, hlen]; omega) (by simp only [List.length_append, List.length_singleton, hlen]; omega)
    rw [this]
    simp [List.append_assoc]
  | @ptr p a x y t r e h h1 hx hx2 ht hp hr ih =>
    intro K b nx hb hK
    obtain ⟨K, rfl⟩ : ∃ k, K = k + 1 := ⟨K - 1, by omega⟩
    unfold nameR
    rw [get_byte (by rw [hL]; exact h)]
    simp only []
    rw [if_neg (by omega), if_pos (by omega)]
    have hg := get_byte (s := s) (a := a + 1) (by rw [hL]; exact h1)
    rw [show ((a : Int) + 1) = ((a + 1 : Nat) : Int) by omega, hg]
    simp only []
    have hy : (x : Int) % 64 * 256 + (y : Int) = (t : Int) := by omega
    rw [hy, if_neg (by omega)]
    have hK2 : t * 256 + 256 < K + b.length := by clear ht hy; omega
    clear ht hy
    by_cases c : nx < 0
    · rw [if_pos c, ih K b _ hb hK2, if_pos (by omega), if_neg (by omega)]
      rfl
    · rw [if_neg c, ih K b _ hb hK2, if_pos (by omega), if_pos (by omega)]
end Go.Proofs.Ytfoflodgegehfaa.M
set_option linter.unusedVariables false
set_option linter.unusedSimpArgs false
namespace Go.Proofs.Ytfoflodgegehfaa.M
open Go.RowKit Go.Maps Go.Proofs.YtfoflodgegehfaaW.PrintWords Go.Proofs.YtfoflodgegehfaaW.PrintLast Go.Proofs.YtfoflodgegehfaaW.PrintMore
attribute [local go_sem] max2_int min2_int max_two min_two max_three min_three max_four min_four
attribute [local go_sem ↓] Go.wp_at_zero Go.wp_at_succ
def labL (l : List ByteArray) : List Int := l.flatMap (fun x => (x.size : Int) :: bytesOf x)
theorem cell_new {W : World} {a : Addr} {v : Value} (o : Obj) (h : W.cell? a = some v) : (W.alloc o).cell? a = some v := by
  rw [World.cell?_alloc_some W a o (by rw [h]; rfl), h]
theorem splitF_labs (k : Nat) : ∀ (s : ByteArray) (out out' : List ByteArray), splitF k s out = (out', true) → ∃ ls, out' = out ++ ls ∧ bytesOf s = labL ls ++ [0] ∧ ∀ x ∈ ls, 1 ≤ x.size ∧ x.size ≤ 63 := by
  induction k with
  | zero => intro s out out' h; exact absurd (Prod.mk.inj h).2 (by simp)
  | succ k ih =>
    intro s out out' h
    unfold splitF at h
    by_cases c1 : s.size = 0
    · rw [if_pos c1] at h; exact absurd (Prod.mk.inj h).2 (by simp)
    rw [if_neg c1] at h
    have hb := bsplit' s (by omega)
    have hl := bytesOf_length s
    by_cases c2 : nb s 0 = 0
    · rw [if_pos c2] at h
      obtain ⟨h1, h2⟩ := Prod.mk.inj h
      refine ⟨[], by rw [h1, List.append_nil], ?_, by simp⟩
      have h3 : s.size = 1 := beq_iff_eq.mp h2
      rw [hb, c2, List.drop_of_length_le (by omega)]
      rfl
    rw [if_neg c2] at h
    by_cases c3 : 63 < nb s 0 ∨ s.size ≤ nb s 0
    · rw [if_pos c3] at h; exact absurd (Prod.mk.inj h).2 (by simp)
    rw [if_neg c3] at h
    obtain ⟨ls, h1, h2, h3⟩ := ih _ _ _ h
    have hsz : (s.extract 1 (nb s 0 + 1)).size = nb s 0 := by rw [ByteArray.size_extract]; omega
    refine ⟨s.extract 1 (nb s 0 + 1) :: ls, by rw [h1]; simp, ?_, ?_⟩
    · rw [hb]
      unfold labL at h2 ⊢
      rw [List.flatMap_cons, hsz, List.append_assoc, ← h2, tb_mid, tb_drop, List.cons_append]
      congr 1
      rw [show nb s 0 + 1 - 1 = nb s 0 by omega, show nb s 0 + 1 = 1 + nb s 0 by omega, ← List.drop_drop, List.take_append_drop]
    · intro x hx
      rcases List.mem_cons.1 hx with rfl | hx
      · rw [hsz]; omega
      · exact h3 x hx
theorem split_labs {s : ByteArray} (h : isName s = true) : bytesOf s = labL (split s).1 ++ [0] ∧ (∀ x ∈ (split s).1, 1 ≤ x.size ∧ x.size ≤ 63) ∧ s.size ≤ 255 := by
  unfold isName at h
  unfold split at h ⊢
  by_cases c : 255 < s.size
  · rw [if_pos c] at h; exact absurd h (by simp)
  rw [if_neg c] at h ⊢
  obtain ⟨ls, h1, h2, h3⟩ := splitF_labs (s.size + 1) s [] (splitF (s.size + 1) s []).1 (by rw [← h])
  rw [List.nil_append] at h1
  rw [h1]
  exact ⟨h2, h3, by omega⟩
theorem foldI_small (n : Int) (h : n ≤ 64) : foldI n = n := by
  unfold foldI
  rw [if_neg (by omega)]
theorem foldS_bytes (s : ByteArray) : bytesOf (foldS s) = (bytesOf s).map foldI := by
  unfold foldS
  apply tb_byt
  intro x hx
  obtain ⟨y, hy, rfl⟩ := List.mem_map.1 hx
  have := tb_range s y hy
  unfold foldI
  split <;> omega
theorem labL_fold (l : List ByteArray) (h : ∀ x ∈ l, 1 ≤ x.size ∧ x.size ≤ 63) : labL (l.map foldS) = (labL l).map foldI := by
  induction l with
  | nil => rfl
  | cons a l ih =>
    have e := ih (fun x hx => h x (List.mem_cons_of_mem _ hx))
    have h1 := (h a (List.mem_cons_self ..)).2
    unfold labL at e ⊢
    rw [List.map_cons, List.flatMap_cons, List.flatMap_cons, List.map_append, List.map_cons, e, foldS_bytes, foldS_size, foldI_small _ (by omega)]
theorem join_fold {s : ByteArray} (h : isName s = true) : strOfNums (labL ((split s).1.map foldS) ++ [0]) = foldS s := by
  obtain ⟨h1, h2, h3⟩ := split_labs h
  rw [labL_fold _ h2]
  unfold foldS
  rw [h1, List.map_append]
  rfl
theorem labL_len {s : ByteArray} (h : isName s = true) : (labL ((split s).1.map foldS)).length ≤ 254 ∧ (split s).1.length ≤ 254 := by
  obtain ⟨h1, h2, h3⟩ := split_labs h
  rw [labL_fold _ h2, List.length_map]
  have hl := congrArg List.length h1
  rw [bytesOf_length, List.length_append, List.length_singleton] at hl
  refine ⟨by omega, ?_⟩
  have : ∀ l : List ByteArray, l.length ≤ (labL l).length := by
    intro l
    induction l with
    | nil => exact Nat.le_refl _
    | cons a l ih =>
      unfold labL at ih ⊢
      rw [List.flatMap_cons, List.length_append, List.length_cons, List.length_cons]
      omega
  have := this (split s).1
  omega
set_option maxHeartbeats 4000000 in
set_option maxRecDepth 100000 in
theorem folded_calls {A : Option Addr} {c : Nat} {l : List ByteArray} {w : World} (h : Kd.string.C w A l.length l) (hz : ∀ x ∈ l, x.size ≤ 255) (hl : l.length ≤ 255) :
    Calls Try.prog 59 #[.slice A l.length c] w fun e w' => ∃ v, e = .returned v ∧ Kd.R Kd.string 9 w' w.heap.size (fun _ => True) v (l.map foldS) ∧ Below w.heap.size w w' := by
  have HB := Aside0.mk (Below.refl w.heap.size w)
  have HC := Aside0.mk h
  have HZ := Aside0.mk hz
  have q3 : (l.length : Int) ≤ 255 := by omega
  have HL := Lib.hid hl
  clear h hz hl
  go_enter Try.func59, Try.ntmps59
  go_wp2_with fail
  go_loopg [3, 4] l.length (fun kq v3 v4 w' => ∃ (j : Nat) (ys : List ByteArray), v4 = .int .i64 j ∧ Aside0 (kq + j = l.length) ∧ Aside0 (ys = (l.take j).map foldS) ∧ Aside0 (Kd.R Kd.string 9 w' w.heap.size (fun _ => True) v3 ys) ∧ Aside0 (Below w.heap.size w w'))
  case atStart => exact ⟨0, [], rfl, ⟨rfl⟩, ⟨rfl⟩, ⟨Kd.R_nil _ _ _ _ _⟩, HB⟩
  case round =>
    clear HB
    obtain ⟨j, ys, rfl, HK, HY, HO, HB⟩ := hrel
    obtain ⟨A3, c3, rfl⟩ := Kd.R_slice HO.out
    cases gk with
    | zero =>
      obtain rfl : j = l.length := by have := HK.out; omega
      go_wp2_with fail
      go_ret
      have hy := HY.out
      rw [List.take_of_length_le (Nat.le_refl _)] at hy
      exact ⟨_, rfl, by rw [← hy]; exact HO.out, HB.out⟩
    | succ n =>
      have hj : j < l.length := by have := HK.out; omega
      obtain ⟨ad, hA, hx⟩ := at_str (Kd.C_below HC.out HB.out) j hj
      subst hA
      obtain ⟨x, hxx⟩ : ∃ x, l.getD j ⟨#[]⟩ = x := ⟨_, rfl⟩
      rw [hxx] at hx
      have hzx : x.size ≤ 255 := by rw [← hxx]; exact HZ.out _ (getD_mem' _ hj)
      have ht : ys ++ [foldS x] = (l.take (j + 1)).map foldS := by
        rw [HY.out, List.take_succ_eq_append_getElem hj, List.map_append, ← hxx, List.getD_eq_getElem?_getD, List.getElem?_eq_getElem hj]
        rfl
      have HT := Lib.hid ht
      have hf := fun w => refFold_calls x w (by omega)
      generalize foldS x = y at *
      have HS := Lib.hid (show (ys.length + 1) * 16 ≤ 140737488355328 by rw [HY.out, List.length_map, List.length_take]; have := HL.out; omega)
      have p1 : (0 : Int) ≤ (j : Int) := by omega
      have p2 : (j : Int) < (l.length : Int) := by omega
      clear hxx ht
      go_wp2_with fail
      refine (hf _).mono ?_
      rintro e w2 ⟨rfl, hb⟩
      have HO2 := Aside0.mk (Kd.R_below HO.out hb)
      have HB2 := Aside0.mk (below_step HB.out hb)
      clear hb hf hx HO
      go_wp2_with (((with_reducible refine gate_builtin (b := .append) (xs := #[.tmp 11, .tmp 17]) rfl ?_); at_builtin; go_must (refine appS rfl (.tmp 11) (.tmp 17) rfl rfl rfl HO2.out HB2.out (fun _ _ _ => trivial) (below_size HB2.out) HS.out ?_; intro va wa hoa hba hga hata; have HO1 := Aside0.mk hoa; have HB1 := Aside0.mk hba; clear hoa hba hga hata)))
      go_roundg n
      case measure => omega
      case rel => exact ⟨j + 1, _, by go_num, ⟨by have := HK.out; omega⟩, ⟨HT.out⟩, HO1, HB1⟩
set_option maxHeartbeats 8000000 in
set_option maxRecDepth 100000 in
theorem make_calls {A : Option Addr} {c : Nat} {l : List ByteArray} {w : World} (h : Kd.string.C w A l.length l) (hz : ∀ x ∈ l, 1 ≤ x.size ∧ x.size ≤ 63) (hl : (labL l).length ≤ 254) (hn : l.length ≤ 254) :
    Calls Try.prog 58 #[.slice A l.length c] w fun e w' => e = .returned (.tuple #[.string (strOfNums (labL l ++ [0])), .int .i64 0]) ∧ Below w.heap.size w w' := by
  have HB := Aside0.mk (Below.refl w.heap.size w)
  have HC := Aside0.mk h
  have HZ := Aside0.mk hz
  have q3 : (l.length : Int) ≤ 254 := by omega
  have HL := Lib.hid hl
  have HN := Lib.hid hn
  clear h hz hl hn
  go_enter Try.func58, Try.ntmps58
  go_wp2_with fail
  go_loopg [4] l.length (fun kq v4 w' => ∃ (j : Nat), v4 = .int .i64 j ∧ Aside0 (kq + j = l.length) ∧ Aside0 (w' = w))
  case atStart => exact ⟨0, rfl, ⟨rfl⟩, ⟨rfl⟩⟩
  case round =>
    obtain ⟨j, rfl, HK, HW⟩ := hrel
    obtain rfl := HW.out
    clear HW
    cases gk with
    | succ n =>
      have hj : j < l.length := by have := HK.out; omega
      obtain ⟨ad, hA, hx⟩ := at_str HC.out j hj
      subst hA
      obtain ⟨x, hxx⟩ : ∃ x, l.getD j ⟨#[]⟩ = x := ⟨_, rfl⟩
      rw [hxx] at hx
      have hzx := HZ.out x (by rw [← hxx]; exact getD_mem' _ hj)
      have p1 : (0 : Int) ≤ (j : Int) := by omega
      have p2 : (j : Int) < (l.length : Int) := by omega
      have d1 : decide ((x.size : Int) < 1) = false := decide_eq_false (by omega)
      have d2 : decide ((63 : Int) < (x.size : Int)) = false := decide_eq_false (by omega)
      have d1' : decide (x.size < 1) = false := decide_eq_false (by omega)
      have d2' : decide (63 < x.size) = false := decide_eq_false (by omega)
      clear hxx hzx
      go_wp2_with fail
      go_roundg n
      case measure => omega
      case rel => exact ⟨j + 1, by go_num, ⟨by have := HK.out; omega⟩, ⟨rfl⟩⟩
    | zero =>
      obtain rfl : j = l.length := by have := HK.out; omega
      clear HK
      go_wp2_with fail
      go_loopg [5, 6] l.length (fun kq v5 v6 w' => ∃ (j : Nat) (s : ByteArray), v6 = .int .i64 j ∧ v5 = .string s ∧ Aside0 (kq + j = l.length) ∧ Aside0 (s = strOfNums (labL (l.take j))) ∧ Aside0 (Below wr.heap.size wr w'))
      case atStart => exact ⟨0, _, rfl, rfl, ⟨rfl⟩, ⟨rfl⟩, HB⟩
      case round =>
        clear HB
        obtain ⟨j, s, rfl, rfl, HK, HS, HB⟩ := hrel
        cases gk with
        | zero =>
          obtain rfl : j = l.length := by have := HK.out; omega
          have hs := HS.out
          rw [List.take_of_length_le (Nat.le_refl _)] at hs
          obtain ⟨r, hr⟩ : ∃ r, s ++ (⟨#[0]⟩ : ByteArray) = r := ⟨_, rfl⟩
          have hsz : s.size ≤ 254 := by rw [hs, strOfNums_size]; exact HL.out
          have a1 := fun W => show (Op.stringOp .add s ⟨#[0]⟩).run Try.prog W = .ok (.string r) W by rw [← hr]; exact run_string_add_sum (P := Try.prog) W s ⟨#[0]⟩ (by show _ + 1 ≤ _; omega)
          have HR := Lib.hid (show r = strOfNums (labL l ++ [0]) by rw [← hr, hs, ← str_app]; rfl)
          clear hr hs hsz HK
          go_wp2_with fail
          go_ret2
          exact ⟨by rw [HR.out]; rfl, HB.out⟩
        | succ n =>
          have hj : j < l.length := by have := HK.out; omega
          obtain ⟨ad, hA, hx⟩ := at_str (Kd.C_below HC.out HB.out) j hj
          subst hA
          obtain ⟨x, hxx⟩ : ∃ x, l.getD j ⟨#[]⟩ = x := ⟨_, rfl⟩
          rw [hxx] at hx
          have hzx := HZ.out x (by rw [← hxx]; exact getD_mem' _ hj)
          have p1 : (0 : Int) ≤ (j : Int) := by omega
          have p2 : (j : Int) < (l.length : Int) := by omega
          have htk : labL (l.take (j + 1)) = labL (l.take j) ++ ((x.size : Int) :: bytesOf x) := by
            rw [List.take_succ_eq_append_getElem hj]
            unfold labL
            rw [List.flatMap_append, ← hxx, List.getD_eq_getElem?_getD, List.getElem?_eq_getElem hj]
            simp
          have hmono : ((labL (l.take j)).length + 1 + x.size) ≤ 254 := by
            have e : labL l = labL (l.take (j + 1)) ++ labL (l.drop (j + 1)) := by
              unfold labL
              rw [← List.flatMap_append, List.take_append_drop]
            have := HL.out
            rw [e, htk, List.length_append, List.length_append, List.length_cons, bytesOf_length] at this
            omega
          have hsz : s.size = (labL (l.take j)).length := by rw [HS.out, strOfNums_size]
          obtain ⟨u, hu⟩ : ∃ u, strOfNums [(x.size : Int)] = u := ⟨_, rfl⟩
          have huz : u.size = 1 := by rw [← hu, strOfNums_size]; rfl
          obtain ⟨r, hr⟩ : ∃ r, s ++ u = r := ⟨_, rfl⟩
          have hrz : r.size = s.size + 1 := by rw [← hr, ByteArray.size_append, huz]
          obtain ⟨t, ht⟩ : ∃ t, r ++ x = t := ⟨_, rfl⟩
          have htz : t.size = r.size + x.size := by rw [← ht, ByteArray.size_append]
          have a1 := fun W => show (Op.stringOp .add s u).run Try.prog W = .ok (.string r) W by rw [← hr]; exact run_string_add_sum (P := Try.prog) W s u (by omega)
          have a2 := fun W => show (Op.stringOp .add r x).run Try.prog W = .ok (.string t) W by rw [← ht]; exact run_string_add_sum (P := Try.prog) W r x (by omega)
          have hcv := fun W => one_byte W (x.size : Int)
          rw [hu] at hcv
          have HT := Lib.hid (show t = strOfNums (labL (l.take (j + 1))) by rw [htk, ← ht, ← hr, ← hu, HS.out, str_app, ← str_app _ (_ :: _)]; rw [← tb_str x, str_app, str_app, tb_str]; simp)
          have w8 : IntKind.u8.wrap (x.size : Int) = (x.size : Int) := by simp [IntKind.wrap, IntKind.bits, IntKind.signed]; omega
          have d3 : decide ((254 : Int) < (t.size : Int)) = false := decide_eq_false (by omega)
          have d3' : decide (254 < t.size) = false := decide_eq_false (by omega)
          clear hxx hzx htk hmono hsz hu huz hr hrz ht htz
          go_upto_region 10 with fail
          refine start_ (n := 16) (S := fun w' => w'.cell? (ad.add j) = some (.string x)) (ds := []) (Array.replicate 16 false) (by kernel_rfl) (by kernel_rfl) rfl (by exact hx) (fun hS => ?_)
          have HBd := Aside0.mk HB.out.drew
          generalize wr.drew = wd at *
          refine dpure 0 (some 33) rfl rfl (by kernel_rfl) (fun _ _ _ h => h) (by rfl) (v := ?_) (a' := ?_) ?_ ?_ ?_
          rotate_left 2
          · intro w'; go_simp; with_reducible rfl
          · simp only [Act.put, List.setIfInBounds_toArray, List.set_cons_zero, List.set_cons_succ]; rfl
          refine dpure 1 (some 34) rfl rfl (by kernel_rfl) (fun _ _ _ h => h) (by rfl) (v := ?_) (a' := ?_) ?_ ?_ ?_
          rotate_left 2
          · intro w'; go_simp; with_reducible rfl
          · simp only [Act.put, List.setIfInBounds_toArray, List.set_cons_zero, List.set_cons_succ]; rfl
          refine dpure 2 (some 35) rfl rfl (by kernel_rfl) (fun _ _ _ h => h) (by rfl) (v := ?_) (a' := ?_) ?_ ?_ ?_
          rotate_left 2
          · intro w'; go_simp; with_reducible rfl
          · simp only [Act.put, List.setIfInBounds_toArray, List.set_cons_zero, List.set_cons_succ]; rfl
          refine dpure 3 (some 36) rfl rfl (by kernel_rfl) (fun _ _ _ h => h) (by rfl) (v := ?_) (a' := ?_) ?_ ?_ ?_
          rotate_left 2
          · intro w'; go_simp; with_reducible rfl
          · simp only [Act.put, List.setIfInBounds_toArray, List.set_cons_zero, List.set_cons_succ]; rfl
          refine dtake 4 (some 37) rfl rfl (by kernel_rfl) (fun _ _ _ h => h) (by rfl) hS (v := ?_) (a' := ?_) ?_ ?_ ?_
          rotate_left 2
          · rintro w' s0; go_simp; with_reducible rfl
          · simp only [Act.put, List.setIfInBounds_toArray, List.set_cons_zero, List.set_cons_succ]; rfl
          refine dpure 5 (some 38) rfl rfl (by kernel_rfl) (fun _ _ _ h => h) (by rfl) (v := ?_) (a' := ?_) ?_ ?_ ?_
          rotate_left 2
          · intro w'; go_simp; with_reducible rfl
          · simp only [Act.put, List.setIfInBounds_toArray, List.set_cons_zero, List.set_cons_succ]; rfl
          refine dpure 6 (some 39) rfl rfl (by kernel_rfl) (fun _ _ _ h => h) (by rfl) (v := ?_) (a' := ?_) ?_ ?_ ?_
          rotate_left 2
          · intro w'; go_simp; with_reducible rfl
          · simp only [Act.put, List.setIfInBounds_toArray, List.set_cons_zero, List.set_cons_succ]; rfl
          refine dpure 10 (some 43) rfl rfl (by kernel_rfl) (fun _ _ _ h => h) (by rfl) (v := ?_) (a' := ?_) ?_ ?_ ?_
          rotate_left 2
          · intro w'; go_simp; with_reducible rfl
          · simp only [Act.put, List.setIfInBounds_toArray, List.set_cons_zero, List.set_cons_succ]; rfl
          refine dpure 11 (some 44) rfl rfl (by kernel_rfl) (fun _ _ _ h => h) (by rfl) (v := ?_) (a' := ?_) ?_ ?_ ?_
          rotate_left 2
          · intro w'; go_simp; with_reducible rfl
          · simp only [Act.put, List.setIfInBounds_toArray, List.set_cons_zero, List.set_cons_succ]; rfl
          refine dpure 12 (some 45) rfl rfl (by kernel_rfl) (fun _ _ _ h => h) (by rfl) (v := ?_) (a' := ?_) ?_ ?_ ?_
          rotate_left 2
          · intro w'; go_simp; with_reducible rfl
          · simp only [Act.put, List.setIfInBounds_toArray, List.set_cons_zero, List.set_cons_succ]; rfl
          refine dtake 13 (some 46) rfl rfl (by kernel_rfl) (fun _ _ _ h => h) (by rfl) hS (v := ?_) (a' := ?_) ?_ ?_ ?_
          rotate_left 2
          · rintro w' s0; go_simp; with_reducible rfl
          · simp only [Act.put, List.setIfInBounds_toArray, List.set_cons_zero, List.set_cons_succ]; rfl
          refine done1 7 (some 40) rfl rfl (by kernel_rfl) (by decide) (fun K hK => ?_)
          refine event_step (by kernel_rfl) (v := .slice (some ⟨wd.heap.size, 0, none⟩) 1 1) (w1 := wd.alloc (.cells #[.int .u8 (x.size : Int)] 5 (0, 0))) (by go_simp; done) ?_
          refine hK.out _ _ (cell_new _ hS) (fun hS => ?_)
          clear hK K
          refine norm_ (a' := ?_) ?_ ?_
          rotate_left
          · simp only [Act.put, List.setIfInBounds_toArray, List.set_cons_zero, List.set_cons_succ]; rfl
          refine done1 8 (some 41) rfl rfl (by kernel_rfl) (by decide) (fun K hK => ?_)
          have hcw := hcv wd
          refine event_step (by kernel_rfl) (v := .string u) (w1 := wd.alloc (.cells #[.int .u8 (x.size : Int)] 5 (0, 0))) (by go_simp; done) ?_
          clear hcw
          refine hK.out _ _ (by assumption) (fun hS => ?_)
          clear hK K
          refine norm_ (a' := ?_) ?_ ?_
          rotate_left
          · simp only [Act.put, List.setIfInBounds_toArray, List.set_cons_zero, List.set_cons_succ]; rfl
          refine dpure 9 (some 42) rfl rfl (by kernel_rfl) (fun _ _ _ h => h) (by rfl) (v := ?_) (a' := ?_) ?_ ?_ ?_
          rotate_left 2
          · intro w'; go_simp; with_reducible rfl
          · simp only [Act.put, List.setIfInBounds_toArray, List.set_cons_zero, List.set_cons_succ]; rfl
          refine dpure 14 (some 47) rfl rfl (by kernel_rfl) (fun _ _ _ h => h) (by rfl) (v := ?_) (a' := ?_) ?_ ?_ ?_
          rotate_left 2
          · intro w'; go_simp; with_reducible rfl
          · simp only [Act.put, List.setIfInBounds_toArray, List.set_cons_zero, List.set_cons_succ]; rfl
          refine dpure 15 (some 5) rfl rfl (by kernel_rfl) (fun _ _ _ h => h) (by rfl) (v := ?_) (a' := ?_) ?_ ?_ ?_
          rotate_left 2
          · intro w'; go_simp; with_reducible rfl
          · simp only [Act.put, List.setIfInBounds_toArray, List.set_cons_zero, List.set_cons_succ]; rfl
          refine done_ (by kernel_rfl) ?_
          have HB2 := Aside0.mk (below_alloc HBd.out (.cells #[.int .u8 (x.size : Int)] 5 (0, 0)))
          clear hS hx a1 a2 hcv
          generalize wd.alloc (.cells #[.int .u8 (x.size : Int)] 5 (0, 0)) = w9 at *
          go_wp2_with fail
          go_roundg n
          case measure => omega
          case rel => exact ⟨j + 1, t, by go_num, rfl, ⟨by have := HK.out; omega⟩, ⟨HT.out⟩, HB2⟩
set_option maxHeartbeats 8000000 in
set_option maxRecDepth 100000 in
theorem refFoldN_calls (s : ByteArray) (w : World) (hs : s.size ≤ 1000000) :
    Calls Try.prog 44 #[.string s] w fun e w' => e = .returned (.string (foldN s)) ∧ Below w.heap.size w w' := by
  have HB := Aside0.mk (Below.refl w.heap.size w)
  obtain ⟨V, hV⟩ : ∃ V, foldN s = V := ⟨_, rfl⟩
  rw [hV]
  unfold foldN at hV
  have hlb := fun w => labels_calls s w (by omega)
  cases h : isName s with
  | false =>
    rw [h, if_neg (by simp)] at hV
    subst hV
    have HI := Lib.hid (show (split s).2 = false from h)
    clear h
    go_enter Try.func44, Try.ntmps44
    go_wp2_with fail
    refine (hlb _).mono ?_
    rintro e w2 ⟨v, rfl, hv, hb⟩
    obtain ⟨A2, c2, rfl⟩ := Kd.R_slice hv
    rw [HI.out]
    have HB2 := Aside0.mk (below_step HB.out hb)
    clear hv hb
    go_wp2_with fail
    go_ret
    exact ⟨rfl, HB2.out⟩
  | true =>
    rw [h, if_pos rfl] at hV
    have HI := Lib.hid (show (split s).2 = true from h)
    have hj := join_fold h
    rw [hV] at hj
    obtain ⟨l1, l2, -⟩ := split_labs h
    obtain ⟨l3, l4⟩ := labL_len h
    generalize hsp : (split s).1 = L at *
    clear hV l1 hsp h
    have l5 : ∀ x ∈ L.map foldS, 1 ≤ x.size ∧ x.size ≤ 63 := by
      intro x hx
      obtain ⟨y, hy, rfl⟩ := List.mem_map.1 hx
      rw [foldS_size]
      exact l2 y hy
    have l6 : (L.map foldS).length ≤ 254 := by rw [List.length_map]; exact l4
    have HJ := Lib.hid hj
    have HL2 := Aside0.mk l2
    have HL3 := Aside0.mk l3
    have HL5 := Aside0.mk l5
    have HL6 := Aside0.mk l6
    have HL4 := Lib.hid l4
    clear hj l2 l3 l4 l5 l6
    go_enter Try.func44, Try.ntmps44
    go_wp2_with fail
    refine (hlb _).mono ?_
    rintro e w2 ⟨v, rfl, hv, hb⟩
    rw [HI.out]
    obtain ⟨A2, n2, c2, rfl⟩ := R_anyslice hv
    obtain ⟨rfl, -, hc⟩ := Kd.R_reads' hv
    have HC2 := Aside0.mk hc
    have HB2 := Aside0.mk (below_step HB.out hb)
    clear hv hb hc hlb
    generalize hM : L.map foldS = M at *
    have hfd := fun (w : World) (h : Kd.string.C w A2 L.length L) (c : Nat) => folded_calls (c := c) h (fun x hx => by have := HL2.out x hx; omega) (by have := HL4.out; omega)
    rw [hM] at hfd
    clear hM
    have HF := Aside0.mk hfd
    clear hfd
    go_wp2_with fail
    refine (HF.out _ HC2.out _).mono ?_
    rintro e w3 ⟨v, rfl, hv, hb⟩
    obtain ⟨A3, n3, c3, rfl⟩ := R_anyslice hv
    obtain ⟨rfl, -, hc⟩ := Kd.R_reads' hv
    have HC3 := Aside0.mk hc
    have HB3 := Aside0.mk (below_step HB2.out hb)
    clear hv hb hc HF HC2
    go_wp2_with fail
    refine (make_calls HC3.out HL5.out HL3.out HL6.out).mono ?_
    rw [HJ.out]
    rintro e w4 ⟨rfl, hb⟩
    have HB4 := Aside0.mk (below_step HB3.out hb)
    clear hb
    go_wp2_with fail
    go_ret
    exact ⟨rfl, HB4.out⟩
end Go.Proofs.Ytfoflodgegehfaa.M
set_option linter.unusedVariables false
set_option linter.unusedSimpArgs false
namespace Go.Proofs.Ytfoflodgegehfaa.M
open Go.RowKit Go.Maps Go.Proofs.YtfoflodgegehfaaW.PrintWords Go.Proofs.YtfoflodgegehfaaW.PrintLast Go.Proofs.YtfoflodgegehfaaW.PrintMore
attribute [local go_sem] max2_int min2_int max_two min_two max_three min_three max_four min_four
attribute [local go_sem ↓] Go.wp_at_zero Go.wp_at_succ
set_option maxHeartbeats 2000000 in
theorem qr_calls (fl : Int) (w : World) : Calls Try.prog 41 #[.int .u16 fl] w fun e w' => e = .returned (.bool (decide (32768 ≤ fl))) ∧ w = w' := by
  go_enter Try.func41, Try.ntmps41
  go_wp2_with fail
  go_ret
  exact ⟨rfl, rfl⟩
set_option maxHeartbeats 2000000 in
theorem opcode08_calls (fl : Int) (h0 : 0 ≤ fl) (h1 : fl ≤ 65535) (w : World) : Calls Try.prog 42 #[.int .u16 fl] w fun e w' => e = .returned (.int .i64 (opF fl)) ∧ w = w' := by
  have w1 : IntKind.i64.wrap fl = fl := by rw [IntKind.wrap_i64]; omega
  have t1 : fl.tdiv 2048 = fl / 2048 := Int.tdiv_eq_ediv_of_nonneg h0
  have t2 : (fl / 2048).tmod 16 = fl / 2048 % 16 := Int.tmod_eq_emod_of_nonneg (by omega)
  have w2 : IntKind.i64.wrap (fl / 2048) = fl / 2048 := by rw [IntKind.wrap_i64]; omega
  have w3 : IntKind.i64.wrap (fl / 2048 % 16) = fl / 2048 % 16 := by rw [IntKind.wrap_i64]; omega
  go_enter Try.func42, Try.ntmps42
  go_wp2_with fail
  go_ret
  exact ⟨rfl, rfl⟩
set_option maxHeartbeats 4000000 in
set_option maxRecDepth 100000 in
theorem do08_calls (m : Msg) (v : Value) (w : World) (hv : MsgAt w v m) (hm : MsgSm m) :
    Calls Try.prog 45 #[v] w fun e w' => e = .returned (.bool (doF m.add)) ∧ Below w.heap.size w w' := by
  obtain ⟨A2, c2, A3, c3, A4, c4, A5, c5, rfl, -, -, -, -, -, -, l5, g5⟩ := hv
  have G5 := Aside0.mk g5
  have HM := Aside0.mk hm
  have n3 : (m.add.length : Int) ≤ 256 := by have := hm.n3; omega
  obtain ⟨R, hR⟩ : ∃ R, doF m.add = R := ⟨_, rfl⟩
  rw [hR]
  have HR0 := Aside0.mk hR
  clear g5 hm hR
  go_enter Try.func45, Try.ntmps45
  go_upto_region 1 with fail
  have HX := SAt.new w #[.int .u16 m.id, .int .u16 m.flags, .slice A2 m.qs.length c2, .slice A3 m.ans.length c3, .slice A4 m.auth.length c4, .slice A5 m.add.length c5] 35
  have HB := Aside0.mk (below_alloc (Below.refl w.heap.size w) (.cells #[.int .u16 m.id, .int .u16 m.flags, .slice A2 m.qs.length c2, .slice A3 m.ans.length c3, .slice A4 m.auth.length c4, .slice A5 m.add.length c5] 35 (0, 0)))
  generalize w.alloc (.cells #[.int .u16 m.id, .int .u16 m.flags, .slice A2 m.qs.length c2, .slice A3 m.ans.length c3, .slice A4 m.auth.length c4, .slice A5 m.add.length c5] 35 (0, 0)) = w1 at *
  have z0 := HX.is 0 rfl
  have z1 := HX.is 1 rfl
  have z2 := HX.is 2 rfl
  have z3 := HX.is 3 rfl
  have z4 := HX.is 4 rfl
  have z5 := HX.is 5 rfl
  clear HX z0 z1 z2 z3 z4
  go_wp2_with fail
  go_loopg [3] m.add.length (fun kq v3 w' => ∃ k : Nat, v3 = .int .i64 k ∧ Aside0 (kq + k = m.add.length) ∧ Aside0 (doF (m.add.drop k) = R) ∧ Aside0 (w' = w1))
  case atStart => exact ⟨0, rfl, ⟨by omega⟩, HR0, ⟨rfl⟩⟩
  case round =>
    clear HR0
    obtain ⟨k, rfl, HK, HR, HW⟩ := hrel
    obtain rfl := HW.out
    clear HW
    cases gk with
    | zero =>
      obtain rfl : k = m.add.length := by have := HK.out; omega
      have hr := HR.out
      rw [List.drop_of_length_le (Nat.le_refl _)] at hr
      obtain rfl : false = R := hr
      go_wp2_with fail
      go_ret
      exact ⟨rfl, HB.out⟩
    | succ j =>
      have hk : k < m.add.length := by have := HK.out; omega
      obtain ⟨ad, B4, b4, B5, b5, B6, b6, r, h2, hq, y0, y1, y2, y3, y4, y5, y6, -⟩ := at_rec (Kd.C_below G5.out HB.out) k hk
      subst h2
      have p1 : (0 : Int) ≤ (k : Int) := by omega
      have p2 : (k : Int) < (m.add.length : Int) := by omega
      have hr := HR.out
      rw [drop_get zRec _ k hk, hq, doF] at hr
      have hs := HM.out.r r (by rw [← hq]; exact getD_mem' zRec hk)
      have l0 := hs.l0
      have l1 := hs.l1
      clear HR hs hq
      by_cases c : r.f1 = 41
      · rw [if_pos c] at hr
        have e1 : (r.f1 == 41) = true := beq_iff_eq.mpr c
        clear c
        have t1 : r.f3.tdiv 32768 = r.f3 / 32768 := Int.tdiv_eq_ediv_of_nonneg l0
        have t2 : (r.f3 / 32768).tmod 2 = r.f3 / 32768 % 2 := Int.tmod_eq_emod_of_nonneg (by omega)
        have w2 : IntKind.u32.wrap (r.f3 / 32768) = r.f3 / 32768 := by simp [IntKind.wrap, IntKind.bits, IntKind.signed]; omega
        have w3 : IntKind.u32.wrap (r.f3 / 32768 % 2) = r.f3 / 32768 % 2 := by simp [IntKind.wrap, IntKind.bits, IntKind.signed]; omega
        obtain ⟨u, hu⟩ : ∃ u, r.f3 / 32768 % 2 = u := ⟨_, rfl⟩
        rw [hu] at hr t2 w3
        have d1 : (u == 1) = R := by rw [← hr, Bool.eq_iff_iff, beq_iff_eq, decide_eq_true_iff]
        clear hr hu
        go_wp2_with fail
        go_ret
        exact ⟨rfl, HB.out⟩
      · rw [if_neg c] at hr
        have e1 : (r.f1 == 41) = false := beq_eq_false_iff_ne.mpr c
        have HR := Aside0.mk hr
        clear c hr
        go_wp2_with fail
        go_roundg j
        case measure => omega
        case rel => exact ⟨k + 1, by go_num, ⟨by have := HK.out; omega⟩, HR, ⟨rfl⟩⟩
theorem ask8_cells {w w' : World} {k h g : Nat} {ks : Array Value} {u0 u1 u2 x0 x1 x2 x3 x4 x5 : Value} (h1 : SAt w' k ks 37) (h2 : SAt w' h #[u0, u1, u2] 63) (h3 : SAt w' g #[x0, x1, x2, x3, x4, x5] 35) (hb : Below w.heap.size w w') :
    ((w'.cell? ⟨h, 0, none⟩ = some u0 ∧ w'.cell? ⟨h, 1, none⟩ = some u1 ∧ w'.cell? ⟨h, 2, none⟩ = some u2) ∧ (w'.cell? ⟨g, 0, none⟩ = some x0 ∧ w'.cell? ⟨g, 1, none⟩ = some x1 ∧ w'.cell? ⟨g, 2, none⟩ = some x2 ∧ w'.cell? ⟨g, 3, none⟩ = some x3 ∧ w'.cell? ⟨g, 4, none⟩ = some x4 ∧ w'.cell? ⟨g, 5, none⟩ = some x5)) ∧
    Aside0 (SAt w' k ks 37 ∧ SAt w' h #[u0, u1, u2] 63 ∧ SAt w' g #[x0, x1, x2, x3, x4, x5] 35 ∧ Below w.heap.size w w') :=
  ⟨⟨⟨h2.is 0 rfl, h2.is 1 rfl, h2.is 2 rfl⟩, h3.is 0 rfl, h3.is 1 rfl, h3.is 2 rfl, h3.is 3 rfl, h3.is 4 rfl, h3.is 5 rfl⟩, ⟨h1, h2, h3, hb⟩⟩
set_option maxHeartbeats 8000000 in
set_option maxRecDepth 100000 in
theorem ask08_calls (m : Msg) (v : Value) (w : World) (hv : MsgAt w v m) (hm : MsgSm m) :
    Calls Try.prog 27 #[v] w fun e w' => e = .returned (askE (askF m)) ∧ Below w.heap.size w w' := by
  have hv0 := hv
  obtain ⟨A2, c2, A3, c3, A4, c4, A5, c5, rfl, l2, g2, -, -, -, -, -, -⟩ := hv
  have HV := Aside0.mk hv0
  have HM := Aside0.mk hm
  have G2 := Aside0.mk g2
  obtain ⟨R, hR⟩ : ∃ R, askF m = R := ⟨_, rfl⟩
  rw [hR]
  unfold askF at hR
  have n0 : (m.qs.length : Int) ≤ 256 := by have := hm.n0; omega
  have n1 : (m.ans.length : Int) ≤ 256 := by have := hm.n1; omega
  have n2 : (m.auth.length : Int) ≤ 256 := by have := hm.n2; omega
  have f0 := hm.f0
  have f1 := hm.f1
  have hqr := fun w => qr_calls m.flags w
  have hop := fun w => opcode08_calls m.flags f0 f1 w
  have hqq : decide (32768 ≤ m.flags) = decide (m.flags / 32768 % 2 = 1) := by
    rw [Bool.eq_iff_iff, decide_eq_true_iff, decide_eq_true_iff]
    omega
  rw [hqq] at hqr
  clear hv0 hm g2 hqq f0 f1
  go_enter Try.func27, Try.ntmps27
  go_upto_region 1 with fail
  obtain ⟨HX0, HK0, HB0⟩ := two_at w #[.int .u16 m.id, .int .u16 m.flags, .slice A2 m.qs.length c2, .slice A3 m.ans.length c3, .slice A4 m.auth.length c4, .slice A5 m.add.length c5] #[.string ⟨#[]⟩, .int .u16 0, .int .u16 0, .bool false] 35 37
  have hk : w.heap.size ≤ w.heap.size + 1 := by omega
  have hgk : w.heap.size ≠ w.heap.size + 1 := by omega
  generalize hW : ((w.alloc (.cells #[.int .u16 m.id, .int .u16 m.flags, .slice A2 m.qs.length c2, .slice A3 m.ans.length c3, .slice A4 m.auth.length c4, .slice A5 m.add.length c5] 35 (0, 0))).alloc (.cells #[.string ⟨#[]⟩, .int .u16 0, .int .u16 0, .bool false] 37 (0, 0))) = w1 at *
  obtain ⟨k, hkk⟩ : ∃ k, w.heap.size + 1 = k := ⟨_, rfl⟩
  rw [hkk] at HK0 hk hgk
  rw [hkk]
  clear hW hkk
  have HX1 := Aside0.mk HX0
  have HK1 := Aside0.mk HK0
  have HB1 := Aside0.mk HB0
  clear HX0 HK0 HB0
  have z0 := HX1.out.is 0 rfl
  have z1 := HX1.out.is 1 rfl
  have z2 := HX1.out.is 2 rfl
  have z3 := HX1.out.is 3 rfl
  have z4 := HX1.out.is 4 rfl
  have z5 := HX1.out.is 5 rfl
  by_cases c1 : m.flags / 32768 % 2 = 1
  · rw [if_pos c1] at hR
    subst hR
    rw [decide_eq_true c1] at hqr
    clear c1
    go_wp2_with fail
    refine (hqr _).mono ?_
    rintro e wx ⟨rfl, hwx⟩
    subst hwx
    have k0 := HK1.out.is 0 rfl
    have k1 := HK1.out.is 1 rfl
    have k2 := HK1.out.is 2 rfl
    have k3 := HK1.out.is 3 rfl
    have fk0 := HK1.out.frozen 0
    have fk1 := HK1.out.frozen 1
    have fk2 := HK1.out.frozen 2
    have fk3 := HK1.out.frozen 3
    go_wp2_with fail
    clear k0 k1 k2 k3 fk0 fk1 fk2 fk3
    have HX : SAt _ k #[(.string ⟨#[]⟩), (.int .u16 0), (.int .u16 0), (.bool false)] 37 := (((HK1.out.set 0 (.string ⟨#[]⟩)).set 1 (.int .u16 0)).set 2 (.int .u16 0)).set 3 (.bool false)
    have HY := (((HB1.out.setCell (p := ⟨k, 0, none⟩) hk (.string ⟨#[]⟩)).setCell (p := ⟨k, 1, none⟩) hk (.int .u16 0)).setCell (p := ⟨k, 2, none⟩) hk (.int .u16 0)).setCell (p := ⟨k, 3, none⟩) hk (.bool false)
    generalize hW : ((((w1.setCell ⟨k, 0, none⟩ (.string ⟨#[]⟩)).setCell ⟨k, 1, none⟩ (.int .u16 0)).setCell ⟨k, 2, none⟩ (.int .u16 0)).setCell ⟨k, 3, none⟩ (.bool false)) = w9 at *
    clear hW
    have q0 := HX.is 0 rfl
    have q1 := HX.is 1 rfl
    have q2 := HX.is 2 rfl
    have q3 := HX.is 3 rfl
    exact bodyPost_ret (v := askE none) (by simp [results, Try.results27, go_sem, q0, q1, q2, q3, askE, Key.v, zKey]) rfl ⟨rfl, HY⟩
  rw [if_neg c1] at hR
  rw [decide_eq_false c1] at hqr
  clear c1
  go_wp2_with fail
  refine (hqr _).mono ?_
  rintro e wx ⟨rfl, hwx⟩
  subst hwx
  go_wp2_with fail
  refine (hop _).mono ?_
  rintro e wx ⟨rfl, hwx⟩
  subst hwx
  by_cases c2' : opF m.flags ≠ 0
  · rw [if_pos c2'] at hR
    subst hR
    have e2 : (opF m.flags != 0) = true := bne_iff_ne.mpr c2'
    clear c2'
    have k0 := HK1.out.is 0 rfl
    have k1 := HK1.out.is 1 rfl
    have k2 := HK1.out.is 2 rfl
    have k3 := HK1.out.is 3 rfl
    have fk0 := HK1.out.frozen 0
    have fk1 := HK1.out.frozen 1
    have fk2 := HK1.out.frozen 2
    have fk3 := HK1.out.frozen 3
    go_wp2_with fail
    clear k0 k1 k2 k3 fk0 fk1 fk2 fk3
    have HX : SAt _ k #[(.string ⟨#[]⟩), (.int .u16 0), (.int .u16 0), (.bool false)] 37 := (((HK1.out.set 0 (.string ⟨#[]⟩)).set 1 (.int .u16 0)).set 2 (.int .u16 0)).set 3 (.bool false)
    have HY := (((HB1.out.setCell (p := ⟨k, 0, none⟩) hk (.string ⟨#[]⟩)).setCell (p := ⟨k, 1, none⟩) hk (.int .u16 0)).setCell (p := ⟨k, 2, none⟩) hk (.int .u16 0)).setCell (p := ⟨k, 3, none⟩) hk (.bool false)
    generalize hW : ((((w1.setCell ⟨k, 0, none⟩ (.string ⟨#[]⟩)).setCell ⟨k, 1, none⟩ (.int .u16 0)).setCell ⟨k, 2, none⟩ (.int .u16 0)).setCell ⟨k, 3, none⟩ (.bool false)) = w9 at *
    clear hW
    have q0 := HX.is 0 rfl
    have q1 := HX.is 1 rfl
    have q2 := HX.is 2 rfl
    have q3 := HX.is 3 rfl
    exact bodyPost_ret (v := askE none) (by simp [results, Try.results27, go_sem, q0, q1, q2, q3, askE, Key.v, zKey]) rfl ⟨rfl, HY⟩
  rw [if_neg c2'] at hR
  have e2 : (opF m.flags != 0) = false := by rw [Decidable.not_not.mp c2']; rfl
  clear c2'
  by_cases c3' : m.qs.length ≠ 1
  · rw [if_pos c3'] at hR
    subst hR
    have e3 : ((m.qs.length : Int) != 1) = true := by rw [bne_iff_ne]; omega
    have e3' : (m.qs.length != 1) = true := bne_iff_ne.mpr c3'
    clear c3'
    have k0 := HK1.out.is 0 rfl
    have k1 := HK1.out.is 1 rfl
    have k2 := HK1.out.is 2 rfl
    have k3 := HK1.out.is 3 rfl
    have fk0 := HK1.out.frozen 0
    have fk1 := HK1.out.frozen 1
    have fk2 := HK1.out.frozen 2
    have fk3 := HK1.out.frozen 3
    go_wp2_with fail
    clear k0 k1 k2 k3 fk0 fk1 fk2 fk3
    have HX : SAt _ k #[(.string ⟨#[]⟩), (.int .u16 0), (.int .u16 0), (.bool false)] 37 := (((HK1.out.set 0 (.string ⟨#[]⟩)).set 1 (.int .u16 0)).set 2 (.int .u16 0)).set 3 (.bool false)
    have HY := (((HB1.out.setCell (p := ⟨k, 0, none⟩) hk (.string ⟨#[]⟩)).setCell (p := ⟨k, 1, none⟩) hk (.int .u16 0)).setCell (p := ⟨k, 2, none⟩) hk (.int .u16 0)).setCell (p := ⟨k, 3, none⟩) hk (.bool false)
    generalize hW : ((((w1.setCell ⟨k, 0, none⟩ (.string ⟨#[]⟩)).setCell ⟨k, 1, none⟩ (.int .u16 0)).setCell ⟨k, 2, none⟩ (.int .u16 0)).setCell ⟨k, 3, none⟩ (.bool false)) = w9 at *
    clear hW
    have q0 := HX.is 0 rfl
    have q1 := HX.is 1 rfl
    have q2 := HX.is 2 rfl
    have q3 := HX.is 3 rfl
    exact bodyPost_ret (v := askE none) (by simp [results, Try.results27, go_sem, q0, q1, q2, q3, askE, Key.v, zKey]) rfl ⟨rfl, HY⟩
  rw [if_neg c3'] at hR
  have c3' := Decidable.not_not.mp c3'
  have e3 : ((m.qs.length : Int) != 1) = false := by rw [c3']; rfl
  have e3' : (m.qs.length != 1) = false := by rw [c3']; rfl
  by_cases c4a : 0 < m.ans.length
  · rw [if_pos (by omega)] at hR
    subst hR
    have e4 : decide ((0 : Int) < (m.ans.length : Int)) = true := decide_eq_true (by omega)
    have e4' : decide (0 < m.ans.length) = true := decide_eq_true c4a
    clear c4a c3'
    have k0 := HK1.out.is 0 rfl
    have k1 := HK1.out.is 1 rfl
    have k2 := HK1.out.is 2 rfl
    have k3 := HK1.out.is 3 rfl
    have fk0 := HK1.out.frozen 0
    have fk1 := HK1.out.frozen 1
    have fk2 := HK1.out.frozen 2
    have fk3 := HK1.out.frozen 3
    go_wp2_with fail
    clear k0 k1 k2 k3 fk0 fk1 fk2 fk3
    have HX : SAt _ k #[(.string ⟨#[]⟩), (.int .u16 0), (.int .u16 0), (.bool false)] 37 := (((HK1.out.set 0 (.string ⟨#[]⟩)).set 1 (.int .u16 0)).set 2 (.int .u16 0)).set 3 (.bool false)
    have HY := (((HB1.out.setCell (p := ⟨k, 0, none⟩) hk (.string ⟨#[]⟩)).setCell (p := ⟨k, 1, none⟩) hk (.int .u16 0)).setCell (p := ⟨k, 2, none⟩) hk (.int .u16 0)).setCell (p := ⟨k, 3, none⟩) hk (.bool false)
    generalize hW : ((((w1.setCell ⟨k, 0, none⟩ (.string ⟨#[]⟩)).setCell ⟨k, 1, none⟩ (.int .u16 0)).setCell ⟨k, 2, none⟩ (.int .u16 0)).setCell ⟨k, 3, none⟩ (.bool false)) = w9 at *
    clear hW
    have q0 := HX.is 0 rfl
    have q1 := HX.is 1 rfl
    have q2 := HX.is 2 rfl
    have q3 := HX.is 3 rfl
    exact bodyPost_ret (v := askE none) (by simp [results, Try.results27, go_sem, q0, q1, q2, q3, askE, Key.v, zKey]) rfl ⟨rfl, HY⟩
  have e4 : decide ((0 : Int) < (m.ans.length : Int)) = false := decide_eq_false (by omega)
  have e4' : decide (0 < m.ans.length) = false := decide_eq_false c4a
  by_cases c4b : 0 < m.auth.length
  · rw [if_pos (by omega)] at hR
    subst hR
    have e5 : decide ((0 : Int) < (m.auth.length : Int)) = true := decide_eq_true (by omega)
    have e5' : decide (0 < m.auth.length) = true := decide_eq_true c4b
    clear c4a c4b c3'
    have k0 := HK1.out.is 0 rfl
    have k1 := HK1.out.is 1 rfl
    have k2 := HK1.out.is 2 rfl
    have k3 := HK1.out.is 3 rfl
    have fk0 := HK1.out.frozen 0
    have fk1 := HK1.out.frozen 1
    have fk2 := HK1.out.frozen 2
    have fk3 := HK1.out.frozen 3
    go_wp2_with fail
    clear k0 k1 k2 k3 fk0 fk1 fk2 fk3
    have HX : SAt _ k #[(.string ⟨#[]⟩), (.int .u16 0), (.int .u16 0), (.bool false)] 37 := (((HK1.out.set 0 (.string ⟨#[]⟩)).set 1 (.int .u16 0)).set 2 (.int .u16 0)).set 3 (.bool false)
    have HY := (((HB1.out.setCell (p := ⟨k, 0, none⟩) hk (.string ⟨#[]⟩)).setCell (p := ⟨k, 1, none⟩) hk (.int .u16 0)).setCell (p := ⟨k, 2, none⟩) hk (.int .u16 0)).setCell (p := ⟨k, 3, none⟩) hk (.bool false)
    generalize hW : ((((w1.setCell ⟨k, 0, none⟩ (.string ⟨#[]⟩)).setCell ⟨k, 1, none⟩ (.int .u16 0)).setCell ⟨k, 2, none⟩ (.int .u16 0)).setCell ⟨k, 3, none⟩ (.bool false)) = w9 at *
    clear hW
    have q0 := HX.is 0 rfl
    have q1 := HX.is 1 rfl
    have q2 := HX.is 2 rfl
    have q3 := HX.is 3 rfl
    exact bodyPost_ret (v := askE none) (by simp [results, Try.results27, go_sem, q0, q1, q2, q3, askE, Key.v, zKey]) rfl ⟨rfl, HY⟩
  have e5 : decide ((0 : Int) < (m.auth.length : Int)) = false := decide_eq_false (by omega)
  have e5' : decide (0 < m.auth.length) = false := decide_eq_false c4b
  rw [if_neg (by omega)] at hR
  clear c4a c4b
  obtain ⟨q, hq⟩ : ∃ q, m.qs = [q] := List.length_eq_one_iff.mp c3'
  have hgd : m.qs.getD 0 zQues = q := by rw [hq]; rfl
  rw [hgd] at hR
  obtain ⟨ad, _, hA, -, -, -, -⟩ := at_ques G2.out 0 (by rw [c3']; decide)
  subst hA
  have g2 := G2.out
  rw [hq] at g2
  obtain ⟨y0, y1, y2⟩ := ques_at (Kd.C_below g2 HB1.out) (by simp)
  have p2 : (0 : Int) < (m.qs.length : Int) := by omega
  have HQS := Aside0.mk (HM.out.q q (by rw [hq]; simp))
  clear c3' hgd hq g2 G2
  go_upto_region 4 with fail
  have HH := SAt.new w1 #[.string q.f0, .int .u16 q.f1, .int .u16 q.f2] 63
  have hb := below_alloc (Below.refl w1.heap.size w1) (.cells #[.string q.f0, .int .u16 q.f1, .int .u16 q.f2] 63 (0, 0))
  have HX2 := Aside0.mk (HX1.out.below hb)
  have HK2 := Aside0.mk (HK1.out.below hb)
  have HB2 := Aside0.mk (below_step HB1.out hb)
  clear hb HX1 HK1 HB1 z0 z1 z2 z3 z4 z5 y0 y1 y2 e2 e3 e3' e4 e4' e5 e5' p2
  generalize w1.alloc (.cells #[.string q.f0, .int .u16 q.f1, .int .u16 q.f2] 63 (0, 0)) = w2 at *
  generalize w1.heap.size = h at *
  have HH2 := Aside0.mk HH
  have y0 : World.cell? _ ⟨_, 0, none⟩ = some (.string q.f0) := HH.is 0 rfl
  have y1 : World.cell? _ ⟨_, 1, none⟩ = some (.int .u16 q.f1) := HH.is 1 rfl
  clear HH
  by_cases c5' : q.f1 = 41
  · rw [if_pos c5'] at hR
    subst hR
    have e5 : (q.f1 == 41) = true := beq_iff_eq.mpr c5'
    clear c5'
    have k0 := HK2.out.is 0 rfl
    have k1 := HK2.out.is 1 rfl
    have k2 := HK2.out.is 2 rfl
    have k3 := HK2.out.is 3 rfl
    have fk0 := HK2.out.frozen 0
    have fk1 := HK2.out.frozen 1
    have fk2 := HK2.out.frozen 2
    have fk3 := HK2.out.frozen 3
    go_wp2_with fail
    clear k0 k1 k2 k3 fk0 fk1 fk2 fk3
    have HX : SAt _ k #[(.string ⟨#[]⟩), (.int .u16 0), (.int .u16 0), (.bool false)] 37 := (((HK2.out.set 0 (.string ⟨#[]⟩)).set 1 (.int .u16 0)).set 2 (.int .u16 0)).set 3 (.bool false)
    have HY := (((HB2.out.setCell (p := ⟨k, 0, none⟩) hk (.string ⟨#[]⟩)).setCell (p := ⟨k, 1, none⟩) hk (.int .u16 0)).setCell (p := ⟨k, 2, none⟩) hk (.int .u16 0)).setCell (p := ⟨k, 3, none⟩) hk (.bool false)
    generalize hW : ((((w2.setCell ⟨k, 0, none⟩ (.string ⟨#[]⟩)).setCell ⟨k, 1, none⟩ (.int .u16 0)).setCell ⟨k, 2, none⟩ (.int .u16 0)).setCell ⟨k, 3, none⟩ (.bool false)) = w9 at *
    clear hW
    have q0 := HX.is 0 rfl
    have q1 := HX.is 1 rfl
    have q2 := HX.is 2 rfl
    have q3 := HX.is 3 rfl
    exact bodyPost_ret (v := askE none) (by simp [results, Try.results27, go_sem, q0, q1, q2, q3, askE, Key.v, zKey]) rfl ⟨rfl, HY⟩
  rw [if_neg c5'] at hR
  have e5 : (q.f1 == 41) = false := beq_eq_false_iff_ne.mpr c5'
  clear c5'
  go_wp2_with fail
  refine (refIs_calls q.f0 _ (by have := HQS.out.name; omega)).mono ?_
  rintro e w3 ⟨rfl, hb⟩
  have HX3 := Aside0.mk (HX2.out.below hb)
  have HK3 := Aside0.mk (HK2.out.below hb)
  have HH3 := Aside0.mk (HH2.out.below hb)
  have HB3 := Aside0.mk (below_step HB2.out hb)
  clear hb HX2 HK2 HH2 HB2 y0 y1
  cases c6 : isName q.f0 with
  | false =>
    rw [if_pos c6] at hR
    subst hR
    clear c6
    have k0 := HK3.out.is 0 rfl
    have k1 := HK3.out.is 1 rfl
    have k2 := HK3.out.is 2 rfl
    have k3 := HK3.out.is 3 rfl
    have fk0 := HK3.out.frozen 0
    have fk1 := HK3.out.frozen 1
    have fk2 := HK3.out.frozen 2
    have fk3 := HK3.out.frozen 3
    go_wp2_with fail
    clear k0 k1 k2 k3 fk0 fk1 fk2 fk3
    have HX : SAt _ k #[(.string ⟨#[]⟩), (.int .u16 0), (.int .u16 0), (.bool false)] 37 := (((HK3.out.set 0 (.string ⟨#[]⟩)).set 1 (.int .u16 0)).set 2 (.int .u16 0)).set 3 (.bool false)
    have HY := (((HB3.out.setCell (p := ⟨k, 0, none⟩) hk (.string ⟨#[]⟩)).setCell (p := ⟨k, 1, none⟩) hk (.int .u16 0)).setCell (p := ⟨k, 2, none⟩) hk (.int .u16 0)).setCell (p := ⟨k, 3, none⟩) hk (.bool false)
    generalize hW : ((((w3.setCell ⟨k, 0, none⟩ (.string ⟨#[]⟩)).setCell ⟨k, 1, none⟩ (.int .u16 0)).setCell ⟨k, 2, none⟩ (.int .u16 0)).setCell ⟨k, 3, none⟩ (.bool false)) = w9 at *
    clear hW
    have q0 := HX.is 0 rfl
    have q1 := HX.is 1 rfl
    have q2 := HX.is 2 rfl
    have q3 := HX.is 3 rfl
    exact bodyPost_ret (v := askE none) (by simp [results, Try.results27, go_sem, q0, q1, q2, q3, askE, Key.v, zKey]) rfl ⟨rfl, HY⟩
  | true =>
    rw [if_neg (by rw [c6]; simp)] at hR
    have hN : foldN q.f0 = foldS q.f0 := by unfold foldN; rw [if_pos c6]
    have hfd := fun w => refFoldN_calls q.f0 w (by have := HQS.out.name; omega)
    rw [hN] at hfd
    have hdo := fun w h => do08_calls m _ w (HV.out.below (w1 := w) h) HM.out
    clear hN c6
    generalize foldS q.f0 = nm at *
    generalize doF m.add = bd at *
    subst hR
    have HF := Aside0.mk hfd
    have HD := Aside0.mk hdo
    clear hfd hdo
    go_upto_region 6 with fail
    refine start_ (n := 12) (S := fun w' => ((w'.cell? ⟨h, 0, none⟩ = some (.string q.f0) ∧ w'.cell? ⟨h, 1, none⟩ = some (.int .u16 q.f1) ∧ w'.cell? ⟨h, 2, none⟩ = some (.int .u16 q.f2)) ∧
      (w'.cell? ⟨w.heap.size, 0, none⟩ = some (.int .u16 m.id) ∧ w'.cell? ⟨w.heap.size, 1, none⟩ = some (.int .u16 m.flags) ∧ w'.cell? ⟨w.heap.size, 2, none⟩ = some (.slice (some ad) m.qs.length c2) ∧ w'.cell? ⟨w.heap.size, 3, none⟩ = some (.slice A3 m.ans.length c3) ∧ w'.cell? ⟨w.heap.size, 4, none⟩ = some (.slice A4 m.auth.length c4) ∧ w'.cell? ⟨w.heap.size, 5, none⟩ = some (.slice A5 m.add.length c5))) ∧
      Aside0 (SAt w' k #[.string ⟨#[]⟩, .int .u16 0, .int .u16 0, .bool false] 37 ∧ SAt w' h #[.string q.f0, .int .u16 q.f1, .int .u16 q.f2] 63 ∧ SAt w' w.heap.size #[.int .u16 m.id, .int .u16 m.flags, .slice (some ad) m.qs.length c2, .slice A3 m.ans.length c3, .slice A4 m.auth.length c4, .slice A5 m.add.length c5] 35 ∧ Below w.heap.size w w')) (ds := [10]) (Array.replicate 12 false) (by kernel_rfl) (by kernel_rfl) rfl
      (ask8_cells HK3.out HH3.out HX3.out HB3.out.drew) (fun hS => ?_)
    refine dpure 0 (some 47) rfl rfl (by kernel_rfl) (fun _ _ _ h => h) (by rfl) (v := ?_) (a' := ?_) ?_ ?_ ?_
    rotate_left 2
    · intro w'; go_simp; with_reducible rfl
    · simp only [Act.put, List.setIfInBounds_toArray, List.set_cons_zero, List.set_cons_succ]; rfl
    refine dtake 1 (some 48) rfl rfl (by kernel_rfl) (fun _ _ _ h => h) (by rfl) hS (v := ?_) (a' := ?_) ?_ ?_ ?_
    rotate_left 2
    · rintro w' ⟨⟨⟨s0,s1,s2⟩,_⟩,_⟩; go_simp; with_reducible rfl
    · simp only [Act.put, List.setIfInBounds_toArray, List.set_cons_zero, List.set_cons_succ]; rfl
    refine dpure 3 (some 50) rfl rfl (by kernel_rfl) (fun _ _ _ h => h) (by rfl) (v := ?_) (a' := ?_) ?_ ?_ ?_
    rotate_left 2
    · intro w'; go_simp; with_reducible rfl
    · simp only [Act.put, List.setIfInBounds_toArray, List.set_cons_zero, List.set_cons_succ]; rfl
    refine dtake 4 (some 51) rfl rfl (by kernel_rfl) (fun _ _ _ h => h) (by rfl) hS (v := ?_) (a' := ?_) ?_ ?_ ?_
    rotate_left 2
    · rintro w' ⟨⟨⟨s0,s1,s2⟩,_⟩,_⟩; go_simp; with_reducible rfl
    · simp only [Act.put, List.setIfInBounds_toArray, List.set_cons_zero, List.set_cons_succ]; rfl
    refine dpure 5 (some 52) rfl rfl (by kernel_rfl) (fun _ _ _ h => h) (by rfl) (v := ?_) (a' := ?_) ?_ ?_ ?_
    rotate_left 2
    · intro w'; go_simp; with_reducible rfl
    · simp only [Act.put, List.setIfInBounds_toArray, List.set_cons_zero, List.set_cons_succ]; rfl
    refine dtake 6 (some 53) rfl rfl (by kernel_rfl) (fun _ _ _ h => h) (by rfl) hS (v := ?_) (a' := ?_) ?_ ?_ ?_
    rotate_left 2
    · rintro w' ⟨⟨⟨s0,s1,s2⟩,_⟩,_⟩; go_simp; with_reducible rfl
    · simp only [Act.put, List.setIfInBounds_toArray, List.set_cons_zero, List.set_cons_succ]; rfl
    refine dtake 7 (some 54) rfl rfl (by kernel_rfl) (fun _ _ _ h => h) (by rfl) hS (v := ?_) (a' := ?_) ?_ ?_ ?_
    rotate_left 2
    · rintro w' ⟨⟨_,s0,s1,s2,s3,s4,s5⟩,_⟩; go_simp; with_reducible rfl
    · simp only [Act.put, List.setIfInBounds_toArray, List.set_cons_zero, List.set_cons_succ]; rfl
    obtain ⟨-, HS⟩ := hS
    refine done1 2 (some 49) rfl rfl (by kernel_rfl) (by decide) (fun K hK => ?_)
    refine goes_ Try.func44 (by kernel_rfl) rfl #[.string q.f0] (by rfl) rfl rfl (by kernel_rfl) ?_
    refine (HF.out _).mono ?_
    rintro e w4 ⟨rfl, hb⟩
    refine ⟨_, rfl, ?_⟩
    obtain ⟨K4, H4, X4, B4⟩ := HS.out
    refine hK.out _ _ (ask8_cells (K4.below hb) (H4.below hb) (X4.below hb) (below_step B4 hb)) (fun hS => ?_)
    clear hK K
    refine norm_ (a' := ?_) ?_ ?_
    rotate_left
    · simp only [Act.put, List.setIfInBounds_toArray, List.set_cons_zero, List.set_cons_succ]; rfl
    clear K4 H4 X4 B4 HS hb HK3 HH3 HX3 HB3
    obtain ⟨-, HS⟩ := hS
    refine done1 8 (some 55) rfl rfl (by kernel_rfl) (by decide) (fun K hK => ?_)
    refine goes_ Try.func45 (by kernel_rfl) rfl #[.agg #[.int .u16 m.id, .int .u16 m.flags, .slice (some ad) m.qs.length c2, .slice A3 m.ans.length c3, .slice A4 m.auth.length c4, .slice A5 m.add.length c5]] (by rfl) rfl rfl (by kernel_rfl) ?_
    refine (HD.out _ HS.out.2.2.2).mono ?_
    rintro e w5 ⟨rfl, hb⟩
    refine ⟨_, rfl, ?_⟩
    obtain ⟨K4, H4, X4, B4⟩ := HS.out
    refine hK.out _ _ (ask8_cells (K4.below hb) (H4.below hb) (X4.below hb) (below_step B4 hb)) (fun hS => ?_)
    clear hK K
    refine norm_ (a' := ?_) ?_ ?_
    rotate_left
    · simp only [Act.put, List.setIfInBounds_toArray, List.set_cons_zero, List.set_cons_succ]; rfl
    clear K4 H4 X4 B4 HS hb
    obtain ⟨-, HS⟩ := hS
    obtain ⟨K5, H5, X5, B5⟩ := HS.out
    clear H5 X5 HS
    refine dpure 9 (some 56) rfl rfl (by kernel_rfl) (fun _ _ _ h => h) (by rfl) (v := ?_) (a' := ?_) ?_ ?_ ?_
    rotate_left 2
    · intro w'; go_simp; with_reducible rfl
    · simp only [Act.put, List.setIfInBounds_toArray, List.set_cons_zero, List.set_cons_succ]; rfl
    have k0 := K5.is 0 rfl
    have k1 := K5.is 1 rfl
    have k2 := K5.is 2 rfl
    have k3 := K5.is 3 rfl
    have fk0 := K5.frozen 0
    have fk1 := K5.frozen 1
    have fk2 := K5.frozen 2
    have fk3 := K5.frozen 3
    refine dlast 10 (Array.getElem?_eq_getElem (by decide)) (by kernel_rfl) (List.mem_singleton.2 rfl) (fun K hK => ?_)
    refine dskip (w1 := ((((w5.setCell ⟨k, 0, none⟩ (.string nm)).setCell ⟨k, 1, none⟩ (.int .u16 q.f1)).setCell ⟨k, 2, none⟩ (.int .u16 q.f2)).setCell ⟨k, 3, none⟩ (.bool bd))) (by rfl) rfl (by go_simp) ?_
    refine hK.out _ _ ?_
    clear k0 k1 k2 k3 fk0 fk1 fk2 fk3
    have HX : SAt _ k #[(.string nm), (.int .u16 q.f1), (.int .u16 q.f2), (.bool bd)] 37 := (((K5.set 0 (.string nm)).set 1 (.int .u16 q.f1)).set 2 (.int .u16 q.f2)).set 3 (.bool bd)
    have HY := (((B5.setCell (p := ⟨k, 0, none⟩) hk (.string nm)).setCell (p := ⟨k, 1, none⟩) hk (.int .u16 q.f1)).setCell (p := ⟨k, 2, none⟩) hk (.int .u16 q.f2)).setCell (p := ⟨k, 3, none⟩) hk (.bool bd)
    generalize hW : ((((w5.setCell ⟨k, 0, none⟩ (.string nm)).setCell ⟨k, 1, none⟩ (.int .u16 q.f1)).setCell ⟨k, 2, none⟩ (.int .u16 q.f2)).setCell ⟨k, 3, none⟩ (.bool bd)) = w6 at *
    clear hW hK K K5 B5
    refine dpure 11 (some 3) rfl rfl (by kernel_rfl) (fun _ _ _ h => h) (by rfl) (v := ?_) (a' := ?_) ?_ ?_ ?_
    rotate_left 2
    · intro w'; go_simp; with_reducible rfl
    · simp only [Act.put, List.setIfInBounds_toArray, List.set_cons_zero, List.set_cons_succ]; rfl
    refine done_ (by kernel_rfl) ?_
    go_wp2_with fail
    have q0 := HX.is 0 rfl
    have q1 := HX.is 1 rfl
    have q2 := HX.is 2 rfl
    have q3 := HX.is 3 rfl
    exact bodyPost_ret (v := askE (some ⟨nm, q.f1, q.f2, bd⟩)) (by simp [results, Try.results27, go_sem, q0, q1, q2, q3, askE, Key.v]) rfl ⟨rfl, HY⟩
end Go.Proofs.Ytfoflodgegehfaa.M
set_option linter.unusedVariables false
set_option linter.unusedSimpArgs false
namespace Go.Proofs.Ytfoflodgegehfaa.M
open Go.RowKit Go.Proofs.YtfoflodgegehfaaW.PrintWords Go.Proofs.YtfoflodgegehfaaW.PrintLast Go.Proofs.YtfoflodgegehfaaW.PrintMore
attribute [local go_sem] max2_int min2_int max_two min_two max_three min_three max_four min_four
set_option maxHeartbeats 2000000 in
set_option maxRecDepth 100000 in
theorem part01_calls (s : ByteArray) (a n : Int) (w : World) (hs : s.size ≤ 1000000000000) :
    Calls Try.prog 70 #[.string s, .int .i64 a, .int .i64 n] w fun e w' => e = partE (partF s a n) ∧ Below w.heap.size w w' := by
  have hb := Below.refl w.heap.size w
  obtain ⟨R, hR⟩ : ∃ R, partF s a n = R := ⟨_, rfl⟩
  rw [hR]
  unfold partF at hR
  by_cases h1 : a < 0
  · rw [if_pos (.inl h1)] at hR
    subst hR
    have d1 : decide (a < 0) = true := decide_eq_true h1
    go_enter Try.func70, Try.ntmps70
    go_wp2
    go_ret2
    exact ⟨rfl, hb⟩
  have d1 : decide (a < 0) = false := decide_eq_false h1
  by_cases h2 : n < 0
  · rw [if_pos (.inr (.inl h2))] at hR
    subst hR
    have d2 : decide (n < 0) = true := decide_eq_true h2
    clear h1
    go_enter Try.func70, Try.ntmps70
    go_wp2
    go_ret2
    exact ⟨rfl, hb⟩
  have d2 : decide (n < 0) = false := decide_eq_false h2
  by_cases h3 : (s.size : Int) < a
  · rw [if_pos (.inr (.inr (.inl h3)))] at hR
    subst hR
    have d3 : decide ((s.size : Int) < a) = true := decide_eq_true h3
    clear h1 h2
    go_enter Try.func70, Try.ntmps70
    go_wp2
    go_ret2
    exact ⟨rfl, hb⟩
  have d3 : decide ((s.size : Int) < a) = false := decide_eq_false h3
  have q1 : 0 ≤ a := by omega
  have q2 : a ≤ (s.size : Int) := by omega
  have q3 : (s.size : Int) ≤ 1000000000000 := by omega
  by_cases h4 : (s.size : Int) - a < n
  · rw [if_pos (.inr (.inr (.inr h4)))] at hR
    subst hR
    have d4 : decide ((s.size : Int) - a < n) = true := decide_eq_true h4
    clear h1 h2 h3
    go_enter Try.func70, Try.ntmps70
    go_wp2
    go_ret2
    exact ⟨rfl, hb⟩
  have d4 : decide ((s.size : Int) - a < n) = false := decide_eq_false h4
  rw [if_neg (by omega)] at hR
  subst hR
  have q4 : a + n ≤ (s.size : Int) := by omega
  have q5 : a ≤ a + n := by omega
  have q6 : 0 ≤ a + n := by omega
  clear h1 h2 h3 h4
  go_enter Try.func70, Try.ntmps70
  go_wp2
  go_ret2
  exact ⟨rfl, hb⟩
set_option maxHeartbeats 2000000 in
set_option maxRecDepth 100000 in
theorem get01_calls (s : ByteArray) (a n : Int) (w : World) (hs : s.size ≤ 1000000000000) :
    Calls Try.prog 53 #[.string s, .int .i64 a, .int .i64 n] w fun e w' => e = getE (getF s a n) ∧ Below w.heap.size w w' := by
  obtain ⟨R, hR⟩ : ∃ R, getF s a n = R := ⟨_, rfl⟩
  rw [hR]
  unfold getF at hR
  by_cases h1 : n < 1
  · rw [if_pos (.inl h1)] at hR
    subst hR
    have d1 : decide (n < 1) = true := decide_eq_true h1
    clear h1
    go_enter Try.func53, Try.ntmps53
    go_wp2_with fail
    go_ret2
    exact ⟨rfl, Below.refl _ _⟩
  have d1 : decide (n < 1) = false := decide_eq_false h1
  by_cases h2 : 8 < n
  · rw [if_pos (.inr h2)] at hR
    subst hR
    have d2 : decide (8 < n) = true := decide_eq_true h2
    clear h1 h2
    go_enter Try.func53, Try.ntmps53
    go_wp2_with fail
    go_ret2
    exact ⟨rfl, Below.refl _ _⟩
  have d2 : decide (8 < n) = false := decide_eq_false h2
  rw [if_neg (by omega)] at hR
  obtain ⟨j, rfl⟩ := Int.eq_ofNat_of_zero_le (show 0 ≤ n by omega)
  have HN := Lib.hid (show j ≤ 8 by omega)
  clear h1 h2
  cases hp : partF s a (j : Int) with
  | none =>
    rw [hp] at hR
    subst hR
    have HP := Lib.hid hp
    clear hp
    go_enter Try.func53, Try.ntmps53
    go_wp2_with fail
    refine (part01_calls s a _ _ hs).mono ?_
    rw [HP.out]
    rintro e w1 ⟨rfl, hb⟩
    have HB := Aside0.mk hb
    clear hb
    simp only [partE]
    go_wp2_with fail
    go_ret2
    exact ⟨rfl, HB.out⟩
  | some t =>
    rw [hp] at hR
    obtain ⟨hz, -, -, -, -⟩ := part_size hp
    have HP := Lib.hid hp
    have HR := Lib.hid hR
    have ht : t.size ≤ 8 := by have := HN.out; omega
    have HT := Lib.hid (show t.size = j by omega)
    clear hp hR hz
    go_enter Try.func53, Try.ntmps53
    go_wp2_with fail
    refine (part01_calls s a _ _ hs).mono ?_
    rw [HP.out]
    rintro e w1 ⟨rfl, hb⟩
    have HB := Aside0.mk hb
    clear hb
    simp only [partE]
    obtain rfl := HT.out
    clear HT
    go_wp2_with fail
    go_loopg [10, 11] t.size (fun kq v10 v11 w' => ∃ (j : Nat) (m : Int), v10 = .int .u64 m ∧ v11 = .int .i64 j ∧ Aside0 (kq + j = t.size) ∧ Aside0 (valF 0 (bytesOf t) = valF m ((bytesOf t).drop j)) ∧ Aside0 (0 ≤ m ∧ m < 256 ^ j) ∧ Aside0 (Below w.heap.size w w'))
    case atStart => exact ⟨0, 0, rfl, rfl, ⟨by omega⟩, ⟨rfl⟩, ⟨by omega, by decide⟩, HB⟩
    case round =>
      clear HB
      obtain ⟨j, m, rfl, rfl, HK, HV, HM, HB⟩ := hrel
      have q3 : (t.size : Int) ≤ 8 := by have := HN.out; omega
      by_cases hj : j < t.size
      · obtain ⟨c0, c1⟩ := bt_range t j
        have HD := Lib.hid (drop_bytes t j hj)
        have hm0 := HM.out.1
        have hpow : (256 : Int) ^ j ≤ 256 ^ 7 := by
          have : (256 : Nat) ^ j ≤ 256 ^ 7 := Nat.pow_le_pow_right (by decide) (by have := HN.out; omega)
          exact_mod_cast this
        have hm1 : m < 72057594037927936 := by have := HM.out.2; omega
        have hsh : IntKind.u64.wrap (m * 256) = m * 256 := by
          simp [IntKind.wrap, IntKind.bits, IntKind.signed]
          omega
        have hsh2 : IntKind.u64.wrap (m * 256 + bt t (j : Int)) = m * 256 + bt t (j : Int) := by
          simp [IntKind.wrap, IntKind.bits, IntKind.signed]
          omega
        have q1 : (0 : Int) ≤ (j : Int) := by omega
        have q2 : (j : Int) < (t.size : Int) := by omega
        clear hpow
        go_wp2_with fail
        go_roundg (t.size - (j + 1))
        case measure => have := HK.out; omega
        case rel =>
          refine ⟨j + 1, m * 256 + bt t (j : Int), ?_, by go_num, ⟨by omega⟩, ⟨by rw [HV.out, HD.out]; rfl⟩, ⟨by omega, ?_⟩, HB⟩
          · rw [show ((t[j].toNat : Nat) : Int) = bt t (j : Int) from bt_at t (j : Int) hj, show IntKind.u64.wrap (bt t (j : Int)) = bt t (j : Int) by simp [IntKind.wrap, IntKind.bits, IntKind.signed]; omega, hsh2]
          · have := HM.out.2
            rw [Int.pow_succ]
            omega
      · obtain rfl : j = t.size := by have := HK.out; omega
        have HF := Lib.hid (show valF 0 (bytesOf t) = m by rw [HV.out, List.drop_of_length_le (by rw [bytesOf_length]; omega)]; rfl)
        go_wp2_with fail
        go_ret2
        exact ⟨by rw [← HR.out, Option.map_some, HF.out]; rfl, HB.out⟩
end Go.Proofs.Ytfoflodgegehfaa.M
set_option linter.unusedVariables false
set_option linter.unusedSimpArgs false
namespace Go.Proofs.Ytfoflodgegehfaa.M
open Go.RowKit Go.Maps Go.Proofs.YtfoflodgegehfaaW.PrintWords Go.Proofs.YtfoflodgegehfaaW.PrintLast Go.Proofs.YtfoflodgegehfaaW.PrintMore
attribute [local go_sem] max2_int min2_int max_two min_two max_three min_three max_four min_four
theorem get1_at {s : ByteArray} {a n : Int} (h : getF s a 1 = some n) : (bytesOf s)[a.toNat]? = some n := by
  have g := get1 h
  have hl : a.toNat < (bytesOf s).length := by rw [bytesOf_length]; omega
  have hx := get_byte (s := s) (a := a.toNat) (List.getElem?_eq_getElem hl)
  rw [show ((a.toNat : Nat) : Int) = a by omega, h] at hx
  rw [List.getElem?_eq_getElem hl, Option.some.inj hx]
theorem lab_split {s l : ByteArray} {a n : Int} (h : getF s a 1 = some n) (h3 : partF s (a + 1) n = some l) : ∃ t, partF s a (n + 1) = some t ∧ bytesOf t = n :: bytesOf l := by
  have g := get1 h
  have hb := get1_at h
  obtain ⟨lz, -, -, l3, rfl⟩ := part_size h3
  refine ⟨s.extract a.toNat (a + (n + 1)).toNat, ?_, ?_⟩
  · unfold partF
    rw [if_neg (by omega)]
  · obtain ⟨hl, he⟩ := List.getElem?_eq_some_iff.1 hb
    rw [bmid', bmid', List.drop_eq_getElem_cons hl, he, show (a + (n + 1)).toNat - a.toNat = n.toNat + 1 by omega, List.take_succ_cons, show (a + 1 + n).toNat - (a + 1).toNat = n.toNat by omega, show (a + 1).toNat = a.toNat + 1 by omega]
theorem lab_none {s : ByteArray} {a n : Int} (h : getF s a 1 = some n) (h3 : partF s (a + 1) n = none) : partF s a (n + 1) = none := by
  have g := get1 h
  unfold partF at h3 ⊢
  by_cases c : a + 1 < 0 ∨ n < 0 ∨ (s.size : Int) < a + 1 ∨ (s.size : Int) - (a + 1) < n
  · rw [if_pos (by omega)]
  · rw [if_neg c] at h3
    exact absurd h3 (by simp)
theorem two_none {s : ByteArray} {a n : Int} (h : getF s a 1 = some n) (h2 : getF s (a + 1) 1 = none) : getF s a 2 = none := by
  have g := get1 h
  unfold getF at h2 ⊢
  rw [if_neg (by omega)] at h2 ⊢
  have h2 : partF s (a + 1) 1 = none := by simpa using h2
  have h3 : partF s a 2 = none := by
    unfold partF at h2 ⊢
    by_cases c : a + 1 < 0 ∨ (1 : Int) < 0 ∨ (s.size : Int) < a + 1 ∨ (s.size : Int) - (a + 1) < 1
    · rw [if_pos (by omega)]
    · rw [if_neg c] at h2
      exact absurd h2 (by simp)
  rw [h3]
  rfl
theorem two_some {s : ByteArray} {a n m : Int} (h : getF s a 1 = some n) (h2 : getF s (a + 1) 1 = some m) : getF s a 2 = some (n * 256 + m) := by
  have g := get1 h
  have g2 := get1 h2
  have b1 := get1_at h
  have b2 := get1_at h2
  obtain ⟨hl, he⟩ := List.getElem?_eq_some_iff.1 b1
  unfold getF partF
  rw [if_neg (by omega), if_neg (by omega), Option.map_some, bmid', List.drop_eq_getElem_cons hl, he, show (a + 2).toNat - a.toNat = 1 + 1 by omega, List.take_succ_cons]
  have : List.drop (a.toNat + 1) (bytesOf s) = m :: List.drop (a.toNat + 1 + 1) (bytesOf s) := by
    have hj : (a + 1).toNat = a.toNat + 1 := by omega
    rw [hj] at b2
    obtain ⟨hl3, he3⟩ := List.getElem?_eq_some_iff.1 b2
    rw [List.drop_eq_getElem_cons hl3, he3]
  rw [this]
  simp [valF]
set_option maxHeartbeats 4000000 in
set_option maxRecDepth 100000 in
theorem refName_calls (s : ByteArray) (a : Int) (w : World) (hs : s.size ≤ 1000000) (wf : -9223372036854775808 ≤ a) (wf1 : a ≤ 9223372036854775807) :
    Calls Try.prog 54 #[.string s, .int .i64 a] w fun e w' => e = nameT (nameAt s a) ∧ Below w.heap.size w w' := by
  obtain ⟨R, hR⟩ : ∃ R, nameAt s a = R := ⟨_, rfl⟩
  rw [hR]
  have HE := Aside0.mk hR
  have HS := Lib.hid hs
  have HB := Aside0.mk (Below.refl w.heap.size w)
  clear hR
  go_enter Try.func54, Try.ntmps54
  go_wp2_with fail
  go_loopg [1, 7, 8, 9] (a.toNat * 256 + 257) (fun kq v1 v7 v8 v9 w' => ∃ (b : List Int) (part nx at' : Int) (o : ByteArray), v1 = .int .i64 at' ∧ v7 = .int .i64 part ∧ v8 = .int .i64 nx ∧ v9 = .string o ∧ Aside0 (strOfNums b = o) ∧ Aside0 (nameR kq s b part nx at' = R) ∧ Aside0 (part.toNat * 256 + 256 < kq + b.length) ∧ Aside0 (b.length ≤ 254) ∧ Aside0 (-1 ≤ nx ∧ nx ≤ 1000000) ∧ Aside0 (Below w.heap.size w w'))
  case atStart => exact ⟨[], a, -1, a, _, rfl, rfl, rfl, rfl, ⟨rfl⟩, HE, ⟨by simp⟩, ⟨by simp⟩, ⟨by omega⟩, HB⟩
  case round =>
    clear HE HB
    obtain ⟨b, part, nx, at', o, rfl, rfl, rfl, rfl, HO, HE, HK, HL, HX, HB⟩ := hrel
    obtain ⟨k, rfl⟩ : ∃ k, gk = k + 1 := ⟨gk - 1, by have := HK.out; have := HL.out; omega⟩
    have he := HE.out
    unfold nameR at he
    clear HE
    cases h1 : getF s at' 1 with
    | none =>
      rw [h1] at he
      have H1 := Lib.hid h1
      have HE := Lib.hid he
      clear he h1
      go_wp2_with fail
      refine (get01_calls s at' 1 _ (by have := HS.out; omega)).mono ?_
      rw [H1.out]
      rintro e w2 ⟨rfl, hb⟩
      have HB2 := Aside0.mk (below_step HB.out hb)
      clear hb
      simp only [getE]
      go_wp2_with fail
      go_ret3
      exact ⟨by rw [← HE.out]; rfl, HB2.out⟩
    | some n =>
      rw [h1] at he
      simp only [] at he
      have H1 := Lib.hid h1
      obtain ⟨n0, n1, a0, a1⟩ := get1 h1
      have hosz : o.size = b.length := by rw [← HO.out, strOfNums_size]
      have q9 : (o.size : Int) ≤ 254 := by have := HL.out; omega
      have q0 : at' + 1 ≤ 1000000 := by have := HS.out; omega
      have hw1 : IntKind.i64.wrap n = n := by rw [IntKind.wrap_i64]; omega
      by_cases c1 : n = 0
      · rw [if_pos c1] at he
        subst c1
        have e1 : ((0 : Int) == 0) = true := rfl
        have hadd := fun W => run_string_add_sum (P := Try.prog) W o ⟨#[0]⟩ (by have : (⟨#[0]⟩ : ByteArray).size = 1 := rfl; omega)
        have HOt := Lib.hid (show strOfNums (b ++ [0]) = o ++ ⟨#[0]⟩ by rw [← HO.out, ← str_app]; rfl)
        by_cases c2 : 0 ≤ nx
        · rw [if_pos c2] at he
          have HE := Lib.hid he
          have d2 : decide (nx < 0) = false := decide_eq_false (by omega)
          clear he h1 hosz c2
          go_wp2_with fail
          refine (get01_calls s at' 1 _ (by have := HS.out; omega)).mono ?_
          rw [H1.out]
          rintro e w2 ⟨rfl, hb⟩
          have HB2 := Aside0.mk (below_step HB.out hb)
          clear hb
          simp only [getE]
          go_wp2_with fail
          go_ret3
          exact ⟨by rw [← HE.out, nameT, HOt.out]; rfl, HB2.out⟩
        · rw [if_neg c2] at he
          have HE := Lib.hid he
          have d2 : decide (nx < 0) = true := decide_eq_true (by omega)
          clear he h1 hosz c2
          go_wp2_with fail
          refine (get01_calls s at' 1 _ (by have := HS.out; omega)).mono ?_
          rw [H1.out]
          rintro e w2 ⟨rfl, hb⟩
          have HB2 := Aside0.mk (below_step HB.out hb)
          clear hb
          simp only [getE]
          go_wp2_with fail
          go_ret3
          exact ⟨by rw [← HE.out, nameT, HOt.out]; rfl, HB2.out⟩
      rw [if_neg c1] at he
      have e1 : (n == 0) = false := beq_eq_false_iff_ne.mpr c1
      by_cases c3 : 191 < n
      · rw [if_pos c3] at he
        have d3 : decide (192 ≤ n) = true := decide_eq_true (by omega)
        clear c1
        cases h2 : getF s (at' + 1) 1 with
        | none =>
          rw [h2] at he
          have H2 := Lib.hid (two_none h1 h2)
          have HE := Lib.hid he
          clear he h2 h1 hosz
          go_wp2_with fail
          refine (get01_calls s at' 1 _ (by have := HS.out; omega)).mono ?_
          rw [H1.out]
          rintro e w2 ⟨rfl, hb⟩
          have HB2 := Aside0.mk (below_step HB.out hb)
          clear hb
          simp only [getE]
          go_wp2_with fail
          refine (get01_calls s at' 2 _ (by have := HS.out; omega)).mono ?_
          rw [H2.out]
          rintro e w3 ⟨rfl, hb⟩
          have HB3 := Aside0.mk (below_step HB2.out hb)
          clear hb
          simp only [getE]
          go_wp2_with fail
          go_ret3
          exact ⟨by rw [← HE.out]; rfl, HB3.out⟩
        | some m =>
          rw [h2] at he
          simp only [] at he
          obtain ⟨m0, m1, _, a2⟩ := get1 h2
          obtain ⟨p, hp⟩ : ∃ p, n * 256 + m = p := ⟨_, rfl⟩
          have hgp := two_some h1 h2
          rw [hp] at hgp
          have H2 := Lib.hid hgp
          rw [show n % 64 * 256 + m = p - 49152 by omega] at he
          have hw2 : IntKind.i64.wrap p = p := by rw [IntKind.wrap_i64]; omega
          have q1 : at' + 1 + 1 ≤ 1000000 := by have := HS.out; omega
          have q2 : 49152 ≤ p := by omega
          have q3 : p ≤ 65535 := by omega
          clear h2 hp hgp h1 hosz
          by_cases c4 : part ≤ p - 49152
          · rw [if_pos c4] at he
            have HE := Lib.hid he
            have d4 : decide (part ≤ p - 49152) = true := decide_eq_true c4
            clear he c4
            go_wp2_with fail
            refine (get01_calls s at' 1 _ (by have := HS.out; omega)).mono ?_
            rw [H1.out]
            rintro e w2 ⟨rfl, hb⟩
            have HB2 := Aside0.mk (below_step HB.out hb)
            clear hb
            simp only [getE]
            go_wp2_with fail
            refine (get01_calls s at' 2 _ (by have := HS.out; omega)).mono ?_
            rw [H2.out]
            rintro e w3 ⟨rfl, hb⟩
            have HB3 := Aside0.mk (below_step HB2.out hb)
            clear hb
            simp only [getE]
            go_wp2_with fail
            go_ret3
            exact ⟨by rw [← HE.out]; rfl, HB3.out⟩
          · rw [if_neg c4] at he
            have d4 : decide (part ≤ p - 49152) = false := decide_eq_false c4
            have HMs := Aside0.mk (show (p - 49152).toNat * 256 + 256 < k + b.length by have := HK.out; have := HL.out; omega)
            by_cases c5 : nx < 0
            · rw [if_pos c5] at he
              have HE := Aside0.mk he
              have d5 : decide (nx < 0) = true := decide_eq_true c5
              clear he c4 c5
              go_wp2_with fail
              refine (get01_calls s at' 1 _ (by have := HS.out; omega)).mono ?_
              rw [H1.out]
              rintro e w2 ⟨rfl, hb⟩
              have HB2 := Aside0.mk (below_step HB.out hb)
              clear hb
              simp only [getE]
              go_wp2_with fail
              refine (get01_calls s at' 2 _ (by have := HS.out; omega)).mono ?_
              rw [H2.out]
              rintro e w3 ⟨rfl, hb⟩
              have HB3 := Aside0.mk (below_step HB2.out hb)
              clear hb
              simp only [getE]
              go_wp2_with fail
              go_roundg k
              case measure => omega
              case rel => exact ⟨b, p - 49152, at' + 2, p - 49152, o, rfl, rfl, rfl, rfl, HO, HE, HMs, HL, ⟨by omega⟩, HB3⟩
            · rw [if_neg c5] at he
              have HE := Aside0.mk he
              have d5 : decide (nx < 0) = false := decide_eq_false c5
              clear he c4 c5
              go_wp2_with fail
              refine (get01_calls s at' 1 _ (by have := HS.out; omega)).mono ?_
              rw [H1.out]
              rintro e w2 ⟨rfl, hb⟩
              have HB2 := Aside0.mk (below_step HB.out hb)
              clear hb
              simp only [getE]
              go_wp2_with fail
              refine (get01_calls s at' 2 _ (by have := HS.out; omega)).mono ?_
              rw [H2.out]
              rintro e w3 ⟨rfl, hb⟩
              have HB3 := Aside0.mk (below_step HB2.out hb)
              clear hb
              simp only [getE]
              go_wp2_with fail
              go_roundg k
              case measure => omega
              case rel => exact ⟨b, p - 49152, nx, p - 49152, o, rfl, rfl, rfl, rfl, HO, HE, HMs, HL, HX, HB3⟩
      rw [if_neg c3] at he
      have d3 : decide (192 ≤ n) = false := decide_eq_false (by omega)
      by_cases c6 : 63 < n
      · rw [if_pos c6] at he
        have HE := Lib.hid he
        have d6 : decide (64 ≤ n) = true := decide_eq_true (by omega)
        clear he c1 c3 c6 h1 hosz
        go_wp2_with fail
        refine (get01_calls s at' 1 _ (by have := HS.out; omega)).mono ?_
        rw [H1.out]
        rintro e w2 ⟨rfl, hb⟩
        have HB2 := Aside0.mk (below_step HB.out hb)
        clear hb
        simp only [getE]
        go_wp2_with fail
        go_ret3
        exact ⟨by rw [← HE.out]; rfl, HB2.out⟩
      rw [if_neg c6] at he
      have d6 : decide (64 ≤ n) = false := decide_eq_false (by omega)
      have q6 : n ≤ 63 := by omega
      cases h3 : partF s (at' + 1) n with
      | none =>
        rw [h3] at he
        have H3 := Lib.hid (lab_none h1 h3)
        have HE := Lib.hid he
        clear he h3 c1 c3 c6 h1 hosz
        go_wp2_with fail
        refine (get01_calls s at' 1 _ (by have := HS.out; omega)).mono ?_
        rw [H1.out]
        rintro e w2 ⟨rfl, hb⟩
        have HB2 := Aside0.mk (below_step HB.out hb)
        clear hb
        simp only [getE]
        go_wp2_with fail
        refine (part01_calls s at' (n + 1) _ (by have := HS.out; omega)).mono ?_
        rw [H3.out]
        rintro e w3 ⟨rfl, hb⟩
        have HB3 := Aside0.mk (below_step HB2.out hb)
        clear hb
        simp only [partE]
        go_wp2_with fail
        go_ret3
        exact ⟨by rw [← HE.out]; rfl, HB3.out⟩
      | some l =>
        rw [h3] at he
        simp only [] at he
        obtain ⟨t, ht, hbt⟩ := lab_split h1 h3
        have H3 := Lib.hid ht
        obtain ⟨lz, -, -, l3, -⟩ := part_size h3
        have htz : (t.size : Int) = n + 1 := by rw [← bytesOf_length t, hbt, List.length_cons, bytesOf_length]; omega
        have q5 : (t.size : Int) ≤ 64 := by omega
        have q7 : at' + (t.size : Int) ≤ 1000000 := by have := HS.out; omega
        have q8 : (0 : Int) ≤ at' + (t.size : Int) := by omega
        have hadd := fun W => run_string_add_sum (P := Try.prog) W o t (by omega)
        have HOt := Aside0.mk (show strOfNums (b ++ [n] ++ bytesOf l) = o ++ t by rw [← HO.out, str_app_s, hbt]; simp)
        by_cases c7 : 255 < (b.length : Int) + n + 2
        · rw [if_pos c7] at he
          have HE := Lib.hid he
          have d7 : decide ((255 : Int) < (o.size : Int) + (t.size : Int) + 1) = true := decide_eq_true (by omega)
          have d8 : decide (255 < o.size + t.size + 1) = true := decide_eq_true (by omega)
          clear he h3 c1 c3 c6 h1 hosz c7 lz l3 ht hbt htz
          go_wp2_with fail
          refine (get01_calls s at' 1 _ (by have := HS.out; omega)).mono ?_
          rw [H1.out]
          rintro e w2 ⟨rfl, hb⟩
          have HB2 := Aside0.mk (below_step HB.out hb)
          clear hb
          simp only [getE]
          go_wp2_with fail
          refine (part01_calls s at' (n + 1) _ (by have := HS.out; omega)).mono ?_
          rw [H3.out]
          rintro e w3 ⟨rfl, hb⟩
          have HB3 := Aside0.mk (below_step HB2.out hb)
          clear hb
          simp only [partE]
          go_wp2_with fail
          go_ret3
          exact ⟨by rw [← HE.out]; rfl, HB3.out⟩
        · rw [if_neg c7] at he
          have HE := Aside0.mk (show nameR k s (b ++ [n] ++ bytesOf l) part nx (at' + (t.size : Int)) = R by rw [htz, ← he]; congr 1; omega)
          have d7 : decide ((255 : Int) < (o.size : Int) + (t.size : Int) + 1) = false := decide_eq_false (by omega)
          have d8 : decide (255 < o.size + t.size + 1) = false := decide_eq_false (by omega)
          have HLn := Lib.hid (show (b ++ [n] ++ bytesOf l).length = b.length + t.size ∧ b.length + t.size ≤ 254 ∧ 1 ≤ t.size by
            simp only [List.length_append, List.length_singleton, bytesOf_length]
            omega)
          clear he h3 c1 c3 c6 h1 hosz c7 lz l3 ht hbt htz
          go_wp2_with fail
          refine (get01_calls s at' 1 _ (by have := HS.out; omega)).mono ?_
          rw [H1.out]
          rintro e w2 ⟨rfl, hb⟩
          have HB2 := Aside0.mk (below_step HB.out hb)
          clear hb
          simp only [getE]
          go_wp2_with fail
          refine (part01_calls s at' (n + 1) _ (by have := HS.out; omega)).mono ?_
          rw [H3.out]
          rintro e w3 ⟨rfl, hb⟩
          have HB3 := Aside0.mk (below_step HB2.out hb)
          clear hb
          simp only [partE]
          go_wp2_with fail
          go_roundg k
          case measure => omega
          case rel => exact ⟨b ++ [n] ++ bytesOf l, part, nx, at' + (t.size : Int), o ++ t, rfl, rfl, rfl, rfl, HOt, HE, ⟨by have := HK.out; have := HLn.out; omega⟩, ⟨by have := HLn.out; omega⟩, HX, HB3⟩
end Go.Proofs.Ytfoflodgegehfaa.M
set_option linter.unusedVariables false
set_option linter.unusedSimpArgs false
namespace Go.Proofs.Ytfoflodgegehfaa.M
open Go.RowKit Go.Maps Go.Proofs.YtfoflodgegehfaaW.PrintWords Go.Proofs.YtfoflodgegehfaaW.PrintLast Go.Proofs.YtfoflodgegehfaaW.PrintMore
section
variable {s' s : ByteArray}
end
section
variable {s : ByteArray} {c : Int}
theorem nameR_err (K : Nat) : ∀ {b : List Int} {part nx a : Int}, nameR K s b part nx a = .error c → c ≠ 0 := by
  induction K with
  | zero => intro b part nx a h; have := Except.error.inj h; omega
  | succ K ih =>
    intro b part nx a h
    unfold nameR at h
    repeat' split at h
    all_goals first | exact ih h | (have := Except.error.inj h; omega) | exact absurd h (by simp)
theorem bareR_err (K : Nat) : ∀ {b : List Int} {a : Int}, bareR K s b a = .error c → c ≠ 0 := by
  induction K with
  | zero => intro b a h; have := Except.error.inj h; omega
  | succ K ih =>
    intro b a h
    unfold bareR at h
    repeat' split at h
    all_goals first | exact ih h | (have := Except.error.inj h; omega) | exact absurd h (by simp)
end
end Go.Proofs.Ytfoflodgegehfaa.M
