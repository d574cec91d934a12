/- The law TextNumbers. -/
import Derived.Test.YtfoflodgegehfaaDoorMNumb
import Derived.Test.YtfoflodgegehfaaDoorRows
import Derived.Stop.LaidErr
set_option linter.unusedVariables false
set_option linter.unusedSimpArgs false
namespace Go.Proofs.YtfoflodgegehfaaDoor.M
open Go.RowKit Go.Maps Go.Proofs.YtfoflodgegehfaaDoorW.PrintWords Go.Proofs.YtfoflodgegehfaaDoorW.PrintLast Go.Proofs.YtfoflodgegehfaaDoorW.PrintMore
attribute [local go_sem] max2_int min2_int max_two min_two max_three min_three max_four min_four
attribute [local go_sem ↓] Go.wp_at_zero Go.wp_at_succ
theorem tab_of {W : World} (h : laidMet Tryd.prog Rows.textNumbersRow.laid W) : Tab W := by
  have h2 := laidMet.tail (laidMet.tail h)
  exact Lib.tabIs_of_head (g := 3) (t := 69) (n := 20) (e := 55) tab_global (by kernel_rfl) (by kernel_rfl) (by kernel_rfl) (by kernel_rfl) (by kernel_rfl) h2
theorem num_size (n : Int) (h : n ≤ 9223372036854775807) : (numF n).size ≤ 1000 := by
  unfold numF
  split
  · exact Nat.zero_le _
  · have h1 := dg_len 18 n.toNat (by omega)
    have h2 : (dgI n.toNat).length = (dgS n.toNat).size := bytesOf_length _
    show (dgS n.toNat).size ≤ 1000
    omega
set_option maxHeartbeats 8000000 in
set_option maxRecDepth 100000 in
theorem numbers_calls (s : ByteArray) (n most : Int) (w : World) (h0 : -9223372036854775808 ≤ n) (h1 : n ≤ 9223372036854775807) (ht : Tab w) :
    Calls Tryd.prog 6 #[.string s, .int .i64 n, .int .i64 most] w fun e w' => e = .returned (.bool true) ∧ Below w.heap.size w w' := by
  have HB := Aside0.mk (Below.refl w.heap.size w)
  have HT := Lib.hid ht
  have HL := Lib.hid h0
  have HU := Lib.hid h1
  have HZ := Lib.hid (num_size n h1)
  have HD := Lib.hid (dec_num n)
  clear ht h0 h1
  go_enter Tryd.func6, Tryd.ntmps6
  go_wp2_with fail
  refine (awake2_calls _).mono ?_
  rintro e w1 ⟨rfl, hb⟩
  have HB1 := Aside0.mk (HB.out.trans (hb.mono HB.out.size))
  clear hb HB
  by_cases hs : 20000 < s.size
  · have d1 : decide ((20000 : Int) < (s.size : Int)) = true := decide_eq_true (by omega)
    have d3 : decide (20000 < s.size) = true := decide_eq_true hs
    go_wp2_with fail
    go_ret
    exact ⟨rfl, HB1.out⟩
  have d1 : decide ((20000 : Int) < (s.size : Int)) = false := decide_eq_false (by omega)
  have d3 : decide (20000 < s.size) = false := decide_eq_false hs
  have HS := Lib.hid (show s.size ≤ 1000000000000 by omega)
  obtain ⟨x, ok, hx⟩ : ∃ x ok, decF s most = (x, ok) := ⟨_, _, rfl⟩
  have HX := Lib.hid hx
  obtain ⟨T, hT⟩ : ∃ T, numF n = T := ⟨_, rfl⟩
  have HN := Lib.hid hT
  rw [hT] at HZ HD
  clear hs hx hT
  go_wp2_with fail
  refine (decimal_calls s most _ HS.out).mono ?_
  rw [HX.out]
  rintro e w2 ⟨rfl, hx⟩
  have HB2 := Aside0.mk (HB1.out.trans (hx.mono HB1.out.size))
  clear hx HB1
  unfold decE
  go_wp2_with fail
  refine (refDecimal_calls s most _ HS.out).mono ?_
  rw [HX.out]
  rintro e w3 ⟨rfl, hx⟩
  have HB3 := Aside0.mk (HB2.out.trans (hx.mono HB2.out.size))
  clear hx HB2
  unfold decE
  go_wp2_with fail
  refine (number_calls n _ HL.out HU.out (tab_below HT.out HB3.out)).mono ?_
  rw [HN.out]
  rintro e w4 ⟨rfl, hx⟩
  have HB4 := Aside0.mk (HB3.out.trans (hx.mono HB3.out.size))
  clear hx HB3
  go_wp2_with fail
  refine (refNumber_calls n _ HL.out HU.out).mono ?_
  rw [HN.out]
  rintro e w5 ⟨rfl, hx⟩
  have HB5 := Aside0.mk (HB4.out.trans (hx.mono HB4.out.size))
  clear hx HB4
  go_wp2_with fail
  refine (number_calls n _ HL.out HU.out (tab_below HT.out HB5.out)).mono ?_
  rw [HN.out]
  rintro e w6 ⟨rfl, hx⟩
  have HB6 := Aside0.mk (HB5.out.trans (hx.mono HB5.out.size))
  clear hx HB5
  go_wp2_with fail
  refine (decimal_calls T 999999999 _ (by have := HZ.out; omega)).mono ?_
  rw [HD.out]
  rintro e w7 ⟨rfl, hx⟩
  have HB7 := Aside0.mk (HB6.out.trans (hx.mono HB6.out.size))
  clear hx HB6
  by_cases g0 : 0 ≤ n
  · have e0 : decide (0 ≤ n) = true := decide_eq_true g0
    by_cases g1 : n ≤ 999999999
    · have e1 : decide (n ≤ 999999999) = true := decide_eq_true g1
      rw [if_pos ⟨g0, g1⟩]
      unfold decE
      clear g0 g1
      go_wp2_with fail
      go_ret
      exact ⟨rfl, HB7.out⟩
    · have e1 : decide (n ≤ 999999999) = false := decide_eq_false g1
      rw [if_neg (fun h => g1 h.2)]
      unfold decE
      clear g0 g1
      go_wp2_with fail
      go_ret
      exact ⟨rfl, HB7.out⟩
  · have e0 : decide (0 ≤ n) = false := decide_eq_false g0
    rw [if_neg (fun h => g0 h.1)]
    unfold decE
    clear g0
    go_wp2_with fail
    go_ret
    exact ⟨rfl, HB7.out⟩
theorem numbers_all (W : World) (s : ByteArray) (hs : s.size ≤ 140737488351232) (n : Int) (hn : (Lit.int .i64 n).wf = true) (most : Int) (hm : (Lit.int .i64 most).wf = true) (ht : Tab W) :
    Calls Tryd.prog 6 #[.string s, .int .i64 n, .int .i64 most] W fun e w' => e = .returned (.bool true) ∧ Below W.heap.size W w' := by
  have h : -9223372036854775808 ≤ n ∧ n ≤ 9223372036854775807 := by simpa [Lit.wf, IntKind.min, IntKind.max, IntKind.signed, IntKind.bits] using hn
  exact numbers_calls s n most W h.1 h.2 ht
end Go.Proofs.YtfoflodgegehfaaDoor.M
