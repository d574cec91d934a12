/- Walks: the reference's Decimal; text.Number of any number. -/
import Derived.Test.YtdpoookgmckclaaDoorMDigs
import Derived.Lib.AppendIntMem
import Derived.Lib.LaidTab
set_option linter.unusedVariables false
set_option linter.unusedSimpArgs false
namespace Go.Proofs.YtdpoookgmckclaaDoor.M
open Go.RowKit Go.Maps Go.Proofs.YtdpoookgmckclaaDoorW.PrintWords Go.Proofs.YtdpoookgmckclaaDoorW.PrintLast Go.Proofs.YtdpoookgmckclaaDoorW.PrintMore
attribute [local go_sem] max2_int min2_int max_two min_two max_three min_three max_four min_four
attribute [local go_sem ↓] Go.wp_at_zero Go.wp_at_succ
set_option maxHeartbeats 4000000 in
set_option maxRecDepth 100000 in
theorem refDecimal_calls (s : ByteArray) (most : Int) (w : World) (hs : s.size ≤ 1000000000000) :
    Calls Tryd.prog 22 #[.string s, .int .i64 most] w fun e w' => e = decE (decF s most) ∧ Below w.heap.size w w' := by
  have HB := Aside0.mk (Below.refl w.heap.size w)
  by_cases h1 : 9 < s.size
  · have hE : decF s most = (0, false) := if_pos (.inr (.inl h1))
    rw [hE]
    have d2 : decide ((9 : Int) < (s.size : Int)) = true := decide_eq_true (by omega)
    have d3 : decide (9 < s.size) = true := decide_eq_true h1
    clear hE
    go_enter Tryd.func22, Tryd.ntmps22
    go_wp2_with fail
    go_ret2
    exact ⟨rfl, HB.out⟩
  have d2 : decide ((9 : Int) < (s.size : Int)) = false := decide_eq_false (by omega)
  have d3 : decide (9 < s.size) = false := decide_eq_false h1
  obtain ⟨R, hR⟩ : ∃ R, decF s most = R := ⟨_, rfl⟩
  obtain ⟨T, hT⟩ : ∃ T, numF (valD 0 (bytesOf s)) = T := ⟨_, rfl⟩
  obtain ⟨a, ha⟩ : ∃ a, (bytesOf s).all digI = a := ⟨_, rfl⟩
  have HE : a = true → R = if T = s then (if most < valD 0 (bytesOf s) then (0, false) else (valD 0 (bytesOf s), true)) else (0, false) := fun h => by rw [← hR, ← hT]; exact dec_ref s most h1 (ha.trans h)
  have HN : a = false → R = (0, false) := fun h => by rw [← hR]; exact dec_not s most (ha.trans h)
  obtain ⟨V, hV⟩ : ∃ V, valD 0 (bytesOf s) = V := ⟨_, rfl⟩
  rw [hV] at HE hT
  have HE' := Aside0.mk HE
  have HN' := Aside0.mk HN
  have HT := Aside0.mk hT
  have HA := Aside0.mk (show ((bytesOf s).drop 0).all digI = a from ha)
  have HV := Aside0.mk (show valD 0 ((bytesOf s).drop 0) = V from hV)
  have HS := Lib.hid (show s.size ≤ 9 by omega)
  rw [hR]
  clear HE HN hT ha hV hR h1 hs
  go_enter Tryd.func22, Tryd.ntmps22
  go_wp2_with fail
  go_loopg [6, 7] s.size (fun kq v6 v7 w' => ∃ (j : Nat) (n : Int), v6 = .int .i64 n ∧ v7 = .int .i64 j ∧ Aside0 (kq + j = s.size) ∧ Aside0 (((bytesOf s).drop j).all digI = a) ∧ Aside0 (valD n ((bytesOf s).drop j) = V) ∧ Aside0 (0 ≤ n ∧ n < 10 ^ j) ∧ Aside0 (w' = w))
  case atStart => exact ⟨0, 0, rfl, rfl, ⟨rfl⟩, HA, HV, ⟨by omega, by decide⟩, ⟨rfl⟩⟩
  case round =>
    clear HA HV
    obtain ⟨j, n, rfl, rfl, HK, HA, HV, HN, HW⟩ := hrel
    obtain rfl := HW.out
    clear HW
    have hn0 := HN.out.1
    have hpow : (10 : Int) ^ j ≤ 10 ^ 9 := by
      have : (10 : Nat) ^ j ≤ 10 ^ 9 := Nat.pow_le_pow_right (by decide) (by have := HS.out; have := HK.out; omega)
      exact_mod_cast this
    have hn1 : n < 1000000000 := by have := HN.out.2; omega
    clear hpow
    cases gk with
    | zero =>
      obtain rfl : j = s.size := by have := HK.out; omega
      have hv := HV.out
      have hA := HA.out
      rw [List.drop_of_length_le (by rw [bytesOf_length]; omega)] at hv hA
      obtain rfl : n = V := hv
      obtain rfl : true = a := hA
      have hr := HE'.out rfl
      have hT := HT.out
      clear HA HV HE' HN' HT
      go_wp2_with fail
      refine (refNumber_calls n _ (by omega) (by omega)).mono ?_
      rw [hT]
      rintro e w2 ⟨rfl, hx⟩
      have HB2 := Aside0.mk (HB.out.trans (hx.mono HB.out.size))
      clear hx HB hT
      by_cases ht : T = s
      · rw [if_pos ht] at hr
        subst ht
        by_cases hm : most < n
        · rw [if_pos hm] at hr
          subst hr
          have e1 : decide (most < n) = true := decide_eq_true hm
          clear hm
          go_wp2_with fail
          go_ret2
          exact ⟨rfl, HB2.out⟩
        · rw [if_neg hm] at hr
          subst hr
          have e1 : decide (most < n) = false := decide_eq_false hm
          clear hm
          go_wp2_with fail
          go_ret2
          exact ⟨rfl, HB2.out⟩
      · rw [if_neg ht] at hr
        subst hr
        have e2 : (T.toList == s.toList) = false := text_ne ht
        have e3 : (T.toList != s.toList) = true := by unfold bne; rw [e2]; rfl
        clear ht
        go_wp2_with fail
        go_ret2
        exact ⟨rfl, HB2.out⟩
    | succ k =>
      have hj : j < s.size := by have := HK.out; omega
      have hx := bt_nat s j hj
      obtain ⟨c0, c1⟩ := bt_range s j
      have hv := HV.out
      have hA := HA.out
      rw [drop_bytes s j hj] at hv hA
      rw [List.all_cons] at hA
      obtain ⟨c, hc⟩ : ∃ c, bt s (j : Int) = c := ⟨_, rfl⟩
      rw [hc] at hx c0 c1 hv hA
      have q1 : (0 : Int) ≤ (j : Int) := by omega
      have q2 : (j : Int) < (s.size : Int) := by omega
      have q4 : (j : Int) ≤ 9 := by have := HS.out; omega
      clear hc
      cases hg : digI c with
      | true =>
        obtain ⟨g1, g2⟩ : 48 ≤ c ∧ c ≤ 57 := by simpa [digI, inI] using hg
        rw [hg] at hA
        have HA2 := Aside0.mk (show ((bytesOf s).drop (j + 1)).all digI = a from hA)
        have HV2 := Aside0.mk (show valD (n * 10 + (c - 48)) ((bytesOf s).drop (j + 1)) = V from hv)
        have hp : (10 : Int) ^ (j + 1) = 10 ^ j * 10 := Int.pow_succ _ _
        have HN2 := Aside0.mk (show 0 ≤ n * 10 + (c - 48) ∧ n * 10 + (c - 48) < 10 ^ (j + 1) by have := HN.out.2; rw [hp]; omega)
        clear hp hA hv
        go_wp2_with fail
        refine (in_yes (c := c) (a := 48) (b := 57) hg _).mono ?_
        rintro e wx ⟨rfl, rfl⟩
        go_wp2_with fail
        go_roundg k
        case measure => omega
        case rel =>
          refine ⟨j + 1, n * 10 + (c - 48), ?_, ?_, ⟨by have := HK.out; omega⟩, HA2, HV2, HN2, ⟨rfl⟩⟩
          · exact congrArg (Value.int .i64) (by omega)
          · go_num
      | false =>
        rw [hg] at hA
        obtain rfl : R = (0, false) := HN'.out hA.symm
        clear hA hv
        go_wp2_with fail
        refine (in_no (c := c) (a := 48) (b := 57) hg _).mono ?_
        rintro e wx ⟨rfl, rfl⟩
        go_wp2_with fail
        go_ret2
        exact ⟨rfl, HB.out⟩
/-- The table of powers of ten, as the rows list it. -/
def Tab (w : World) : Prop := Lib.TabIs Tryd.prog w "internal/strconv.uint64pow10" .u64 Lib.pow10Tab
theorem tab_global : Tryd.prog.globalNamed "internal/strconv.uint64pow10" = some 0 := by kernel_rfl
theorem tab_below {w w' : World} (h : Tab w) (hb : Below w.heap.size w w') : Tab w' := by
  unfold Tab Lib.TabIs World.var? at h ⊢
  simp only [tab_global, Option.bind_some] at h ⊢
  have hlt : 0 < w.heap.size := by
    rcases Nat.lt_or_ge 0 w.heap.size with hl | hl
    · exact hl
    · exfalso
      rw [Array.getElem?_eq_none hl] at h
      simp at h
  rw [hb.block 0 hlt]
  exact h
theorem itoa_num (n : Int) (h : ¬ n < 0) : (⟨(Lib.itoa n).toArray⟩ : ByteArray) = numF n := by
  unfold numF Lib.itoa
  rw [if_neg h, if_neg h]
set_option maxHeartbeats 4000000 in
set_option maxRecDepth 100000 in
theorem number_calls (n : Int) (w : World) (h0 : -9223372036854775808 ≤ n) (h1 : n ≤ 9223372036854775807) (ht : Tab w) :
    Calls Tryd.prog 15 #[.int .i64 n] w fun e w' => e = .returned (.string (numF n)) ∧ Below w.heap.size w w' := by
  have HB := Aside0.mk (Below.refl w.heap.size w)
  by_cases hn : n < 0
  · have hE : numF n = ⟨#[]⟩ := if_pos hn
    rw [hE]
    have d1 : decide (n < 0) = true := decide_eq_true hn
    clear hE ht
    go_enter Tryd.func15, Tryd.ntmps15
    go_wp2_with fail
    go_ret
    exact ⟨rfl, HB.out⟩
  have HT := Lib.hid ht
  have HL := Lib.hid h0
  have HU := Lib.hid h1
  have HE := Lib.hid (itoa_num n hn)
  obtain ⟨R, hR⟩ : ∃ R, numF n = R := ⟨_, rfl⟩
  rw [hR] at HE ⊢
  have d1 : decide (n < 0) = false := decide_eq_false hn
  clear hR hn ht h0 h1
  go_enter Tryd.func15, Tryd.ntmps15
  go_wp2_with fail
  refine (Tryd.strconv_Itoa n HL.out HU.out _ HT.out).mono ?_
  rw [HE.out]
  rintro e w2 ⟨rfl, k, os, hw⟩
  have HB2 := Aside0.mk (show Below w.heap.size w w2 by rw [hw]; exact Go.Lib.below_grow _ w (Nat.le_refl _) k os)
  clear hw HB
  go_wp2_with fail
  go_ret
  exact ⟨rfl, HB2.out⟩
end Go.Proofs.YtdpoookgmckclaaDoor.M
