/- The law HeadTells. -/
import Derived.Test.YtdpoookgmckclaaDoorMHRefE
import Derived.Test.YtdpoookgmckclaaDoorMRowFl
import Derived.Test.YtdpoookgmckclaaDoorMHMem
set_option linter.unusedVariables false
set_option linter.unusedSimpArgs false
namespace Go.Proofs.YtdpoookgmckclaaDoor.M
open Go.RowKit Go.Maps Go.Proofs.YtdpoookgmckclaaDoorW.PrintWords Go.Proofs.YtdpoookgmckclaaDoorW.PrintLast Go.Proofs.YtdpoookgmckclaaDoorW.PrintMore
attribute [local go_sem] max2_int min2_int max_two min_two max_three min_three max_four min_four
attribute [local go_sem ↓] Go.wp_at_zero Go.wp_at_succ
theorem reqE_is (R : Option (ByteArray × ByteArray × ByteArray × Int)) : ∃ s0 s1 s2 s3 b4 n5 k, reqE R = .tuple #[.agg #[.string s0, .string s1, .string s2, .string s3, .bool b4, .int .i64 n5], .int .i64 k] := by
  cases R with
  | none => exact ⟨_, _, _, _, _, _, _, rfl⟩
  | some x => exact ⟨_, _, _, _, _, _, _, rfl⟩
theorem resE_is (R : Option (Int × ByteArray × Int)) : ∃ k m n e, resE R = .tuple #[.agg #[.int .i64 k, .string m, .int .i64 n], .int .i64 e] ∧ resE4 R = .tuple #[.int .i64 k, .string m, .int .i64 n, .int .i64 e] := by
  cases R with
  | none => exact ⟨_, _, _, _, rfl, rfl⟩
  | some x => exact ⟨_, _, _, _, rfl, rfl⟩
set_option maxHeartbeats 8000000 in
set_option maxRecDepth 100000 in
theorem tells_calls (A : Option Addr) (cp : Nat) (xs : List Fl) (w : World) (hr : kF.C w A xs.length xs) (hcp : xs.length ≤ cp) (hi : FlIn xs) :
    Calls Tryd.prog 3 #[.slice A xs.length cp] w fun e w' => e = .returned (.bool true) ∧ Below w.heap.size w w' := by
  have HRd := Aside0.mk hr
  have HCp := Lib.hid hcp
  have HI := Aside0.mk hi
  clear hr hcp hi
  go_enter Tryd.func3, Tryd.ntmps3
  go_wp2_with fail
  refine (awake20_calls _).mono ?_
  rintro e w1 ⟨rfl, hb⟩
  have HB1 := Aside0.mk hb
  clear hb
  go_wp2_with fail
  refine (fewFields_calls A cp xs _ (Kd.C_below HRd.out HB1.out) HI.out).mono ?_
  rintro e w2 ⟨b, rfl, hfew, hb⟩
  have HB2 := Aside0.mk (below_step HB1.out hb)
  clear hb HB1
  cases b with
  | false =>
    clear hfew
    go_wp2_with fail
    go_ret
    exact ⟨rfl, HB2.out⟩
  | true =>
  have HFw := Aside0.mk (hfew rfl)
  clear hfew
  by_cases hl : 200 < xs.length
  · have d1 : decide ((200 : Int) < (xs.length : Int)) = true := decide_eq_true (by omega)
    have d2 : decide (200 < xs.length) = true := decide_eq_true hl
    clear hl
    go_wp2_with fail
    go_ret
    exact ⟨rfl, HB2.out⟩
  have d1 : decide ((200 : Int) < (xs.length : Int)) = false := decide_eq_false (by omega)
  have d2 : decide (200 < xs.length) = false := decide_eq_false hl
  have hlen : xs.length ≤ 200 := by omega
  clear hl
  have HE3 := Aside0.mk (fl_lit w2 w.heap.size [] HB2.out.size (by simp))
  have HB3 := Aside0.mk (HB2.out.alloc HB2.out.size (.cells (flCells []).toArray 41 (0, 0)))
  go_wp2_with ((with_reducible refine gate_dst (N := 26) rfl ?_); refine appF (w0 := w) (base := w.heap.size) (c := cp) rfl (.tmp 24) (.tmp 25) (by kernel_rfl) (by kernel_rfl) (by kernel_rfl) HE3.out (Kd.C_below HRd.out HB3.out) HB3.out HB3.out.size (by simp; omega) ?_)
  rintro v4 w4 ho hb hg ho2
  obtain ⟨A4, c4, rfl, hlc, hrc⟩ := Kd.R_reads ho
  have HO := Aside0.mk ho
  have HB4 := Aside0.mk hb
  have HRd4 := Aside0.mk (show kF.C w4 A4 xs.length xs from hrc)
  have HCp4 := Lib.hid (show xs.length ≤ c4 from hlc)
  clear ho hb hg ho2 hlc hrc HE3 HB3 HB2
  have HFF := Aside0.mk HFw.out.few
  go_wp2_with fail
  refine (request_calls A4 c4 xs _ HRd4.out HCp4.out HFF.out).mono ?_
  obtain ⟨s0, s1, s2, s3, b4, n5, k6, hR1⟩ := reqE_is (requestF (xs.map Fl.f))
  obtain ⟨k7, m8, n9, e10, hR2, hR3⟩ := resE_is (responseF (xs.map Fl.f))
  obtain ⟨T, hT⟩ : ∃ R, trailE (trailersF (xs.map Fl.f)) = R := ⟨_, rfl⟩
  have HR1 := Lib.hid hR1
  have HR2 := Lib.hid hR2
  have HR3 := Lib.hid hR3
  have HR4 := Lib.hid hT
  rw [hR1]
  clear hR1 hR2 hR3 hT
  rintro e w5 ⟨rfl, hb⟩
  have HB5 := Aside0.mk (below_step HB4.out hb)
  have HRd5 := Aside0.mk (Kd.C_below HRd4.out hb)
  clear hb HB4 HRd4
  go_upto_region 7 with fail
  have hal := below_alloc (Below.refl w5.heap.size w5) (.cells #[.string s0, .string s1, .string s2, .string s3, .bool b4, .int .i64 n5] 26 (0, 0))
  have HX6 := Aside0.mk (SAt.new w5 #[.string s0, .string s1, .string s2, .string s3, .bool b4, .int .i64 n5] 26)
  have HB6 := Aside0.mk (below_step HB5.out hal)
  have HRd6 := Aside0.mk (Kd.C_below HRd5.out hal)
  generalize w5.alloc (.cells #[.string s0, .string s1, .string s2, .string s3, .bool b4, .int .i64 n5] 26 (0, 0)) = w6 at *
  obtain ⟨q, hq⟩ : ∃ g, w5.heap.size = g := ⟨_, rfl⟩
  rw [hq] at HX6 ⊢
  clear hal hq HB5 HRd5
  go_wp2_with fail
  refine (refRequest_calls A cp xs _ (Kd.C_below HRd.out HB6.out) HCp.out HFF.out).mono ?_
  rw [HR1.out]
  rintro e w7 ⟨rfl, hb⟩
  have HX7 := Aside0.mk (HX6.out.below hb)
  have HB7 := Aside0.mk (below_step HB6.out hb)
  have HRd7 := Aside0.mk (Kd.C_below HRd6.out hb)
  clear hb HB6 HRd6
  go_upto_region 8 with fail
  have hal := below_alloc (Below.refl w7.heap.size w7) (.cells #[.string s0, .string s1, .string s2, .string s3, .bool b4, .int .i64 n5] 26 (0, 0))
  have HX8 := Aside0.mk (HX7.out.below hal)
  have HY8 := Aside0.mk (SAt.new w7 #[.string s0, .string s1, .string s2, .string s3, .bool b4, .int .i64 n5] 26)
  have HB8 := Aside0.mk (below_step HB7.out hal)
  have HRd8 := Aside0.mk (Kd.C_below HRd7.out hal)
  generalize w7.alloc (.cells #[.string s0, .string s1, .string s2, .string s3, .bool b4, .int .i64 n5] 26 (0, 0)) = w8 at *
  obtain ⟨q2, hq⟩ : ∃ g, w7.heap.size = g := ⟨_, rfl⟩
  rw [hq] at HY8 ⊢
  clear hal hq HB7 HRd7 HX6 HX7
  go_wp2_with fail
  refine (response_calls A4 c4 xs _ HRd8.out HCp4.out HFF.out).mono ?_
  rw [HR2.out]
  rintro e w9 ⟨rfl, hb⟩
  have HX9 := Aside0.mk (HX8.out.below hb)
  have HY9 := Aside0.mk (HY8.out.below hb)
  have HB9 := Aside0.mk (below_step HB8.out hb)
  have HRd9 := Aside0.mk (Kd.C_below HRd8.out hb)
  clear hb HB8 HRd8
  go_upto_region 9 with fail
  have hal := below_alloc (Below.refl w9.heap.size w9) (.cells #[.int .i64 k7, .string m8, .int .i64 n9] 33 (0, 0))
  have HX10 := Aside0.mk (HX9.out.below hal)
  have HY10 := Aside0.mk (HY9.out.below hal)
  have HZ10 := Aside0.mk (SAt.new w9 #[.int .i64 k7, .string m8, .int .i64 n9] 33)
  have HB10 := Aside0.mk (below_step HB9.out hal)
  have HRd10 := Aside0.mk (Kd.C_below HRd9.out hal)
  generalize w9.alloc (.cells #[.int .i64 k7, .string m8, .int .i64 n9] 33 (0, 0)) = w10 at *
  obtain ⟨r, hq⟩ : ∃ g, w9.heap.size = g := ⟨_, rfl⟩
  rw [hq] at HZ10 ⊢
  clear hal hq HB9 HRd9 HX8 HY8 HX9 HY9
  go_wp2_with fail
  refine (refResponse_calls A cp xs _ (Kd.C_below HRd.out HB10.out) HCp.out HFF.out).mono ?_
  rw [HR3.out]
  rintro e w11 ⟨rfl, hb⟩
  have HX11 := Aside0.mk (HX10.out.below hb)
  have HY11 := Aside0.mk (HY10.out.below hb)
  have HZ11 := Aside0.mk (HZ10.out.below hb)
  have HB11 := Aside0.mk (below_step HB10.out hb)
  have HRd11 := Aside0.mk (Kd.C_below HRd10.out hb)
  clear hb HB10 HRd10
  clear HX10 HY10 HZ10
  have x0 := HX11.out.is 0 rfl
  have x1 := HX11.out.is 1 rfl
  have x2 := HX11.out.is 2 rfl
  have x3 := HX11.out.is 3 rfl
  have x4 := HX11.out.is 4 rfl
  have x5 := HX11.out.is 5 rfl
  have y0 := HY11.out.is 0 rfl
  have y1 := HY11.out.is 1 rfl
  have y2 := HY11.out.is 2 rfl
  have y3 := HY11.out.is 3 rfl
  have y4 := HY11.out.is 4 rfl
  have y5 := HY11.out.is 5 rfl
  have z0 := HZ11.out.is 0 rfl
  have z1 := HZ11.out.is 1 rfl
  have z2 := HZ11.out.is 2 rfl
  go_wp2_with fail
  refine (trailers_calls A4 c4 xs _ HRd11.out HCp4.out HFF.out).mono ?_
  rw [HR4.out]
  rintro e w12 ⟨rfl, hb⟩
  have HB12 := Aside0.mk (below_step HB11.out hb)
  have HRd12 := Aside0.mk (Kd.C_below HRd11.out hb)
  clear hb HB11 HRd11
  clear x0 x1 x2 x3 x4 x5 y0 y1 y2 y3 y4 y5 z0 z1 z2 HX11 HY11 HZ11
  go_wp2_with fail
  refine (refTrailers_calls A cp xs _ (Kd.C_below HRd.out HB12.out) HCp.out HFF.out).mono ?_
  rw [HR4.out]
  rintro e w13 ⟨rfl, hb⟩
  have HB13 := Aside0.mk (below_step HB12.out hb)
  have HRd13 := Aside0.mk (Kd.C_below HRd12.out hb)
  clear hb HB12 HRd12
  go_wp2_with fail
  go_ret
  exact ⟨rfl, HB13.out⟩
theorem tells_all (W : World) (v : Value) (xs : List Fl) (hm : FlV W v xs) (hi : FlIn xs) :
    Calls Tryd.prog 3 #[v] W fun e W' => e = .returned (.bool true) ∧ Below W.heap.size W W' := by
  obtain ⟨A, c, rfl, hc, hr⟩ := hm
  exact tells_calls A c xs W hr hc hi
end Go.Proofs.YtdpoookgmckclaaDoor.M
