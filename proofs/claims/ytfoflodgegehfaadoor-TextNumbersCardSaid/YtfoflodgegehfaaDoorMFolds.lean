/- The law TextFolds. -/
import Derived.Test.YtfoflodgegehfaaDoorMText11
set_option linter.unusedVariables false
set_option linter.unusedSimpArgs false
namespace Go.Proofs.YtfoflodgegehfaaDoor.M
open Go.RowKit Go.Maps Go.Proofs.YtfoflodgegehfaaDoorW.PrintWords Go.Proofs.YtfoflodgegehfaaDoorW.PrintLast Go.Proofs.YtfoflodgegehfaaDoorW.PrintMore
attribute [local go_sem] max2_int min2_int max_two min_two max_three min_three max_four min_four
attribute [local go_sem ↓] Go.wp_at_zero Go.wp_at_succ
theorem foldI_twice (c : Int) : foldI (foldI c) = foldI c := by
  by_cases h : 65 ≤ c ∧ c ≤ 90
  · rw [show foldI c = c + 32 from if_pos h]
    exact if_neg (by omega)
  · rw [show foldI c = c from if_neg h]
    exact if_neg h
theorem fold_bytes (s : ByteArray) : bytesOf (foldS s) = (bytesOf s).map foldI := by
  refine tb_byt ?_
  intro x hx
  obtain ⟨c, hc, rfl⟩ := List.mem_map.1 hx
  have := tb_range s c hc
  unfold foldI
  split <;> omega
theorem fold_twice (s : ByteArray) : foldS (foldS s) = foldS s := by
  apply tb_inj
  rw [fold_bytes, fold_bytes, List.map_map]
  exact congrArg (fun f => List.map f _) (funext foldI_twice)
theorem fold_app (s t : ByteArray) : foldS (s ++ t) = foldS s ++ foldS t := by
  apply tb_inj
  rw [fold_bytes, tb_app, tb_app, fold_bytes, fold_bytes, List.map_append]
theorem text_same (s : ByteArray) : (s.toList == s.toList) = true := beq_self_eq_true _
set_option maxHeartbeats 4000000 in
set_option maxRecDepth 100000 in
theorem folds_calls (s t : ByteArray) (w : World) :
    Calls Tryd.prog 3 #[.string s, .string t] w fun e w' => e = .returned (.bool true) ∧ Below w.heap.size w w' := by
  have HB := Aside0.mk (Below.refl w.heap.size w)
  go_enter Tryd.func3, Tryd.ntmps3
  go_wp2_with fail
  refine (awake2_calls _).mono ?_
  rintro e w1 ⟨rfl, hb⟩
  have HB1 := Aside0.mk (HB.out.trans (hb.mono HB.out.size))
  clear hb HB
  by_cases h1 : 20000 < s.size
  · have d1 : decide ((20000 : Int) < (s.size : Int)) = true := decide_eq_true (by omega)
    have d3 : decide (20000 < s.size) = true := decide_eq_true h1
    go_wp2_with fail
    go_ret
    exact ⟨rfl, HB1.out⟩
  have d1 : decide ((20000 : Int) < (s.size : Int)) = false := decide_eq_false (by omega)
  by_cases h2 : 20000 < t.size
  · have d2 : decide ((20000 : Int) < (t.size : Int)) = true := decide_eq_true (by omega)
    go_wp2_with fail
    go_ret
    exact ⟨rfl, HB1.out⟩
  have d2 : decide ((20000 : Int) < (t.size : Int)) = false := decide_eq_false (by omega)
  have HS := Lib.hid (show s.size ≤ 20000 by omega)
  have HT := Lib.hid (show t.size ≤ 20000 by omega)
  have F1 := text_eq (foldS s)
  have F2 := fold_twice s
  have hadd1 := fun W => run_string_add_sum (P := Tryd.prog) W s t (by have := HS.out; have := HT.out; omega)
  have hadd2 := fun W => run_string_add_sum (P := Tryd.prog) W (foldS s) (foldS t) (by have := HS.out; have := HT.out; rw [fold_size, fold_size]; omega)
  have HE := Lib.hid (show ((foldS (s ++ t)).toList == (foldS s ++ foldS t).toList) = true by rw [fold_app, text_eq])
  obtain ⟨b, hb⟩ : ∃ b, ((foldS s).toList == (foldS t).toList) = b := ⟨_, rfl⟩
  have HQ := Lib.hid (show decide (s.size = t.size ∧ foldS s = foldS t) = b by
    rw [← hb, text_dec]
    congr 1
    exact propext ⟨fun h => h.2, fun h => ⟨by rw [← fold_size s, h, fold_size], h⟩⟩)
  have HQ2 := Lib.hid (show decide (s.size = (foldS s).size ∧ foldS s = foldS (foldS s)) = true by rw [F2, fold_size]; simp)
  have HA := Lib.hid (show (s ++ t).size ≤ 1000000000000 by rw [ByteArray.size_append]; omega)
  have d3 : decide (20000 < s.size) = false := decide_eq_false h1
  have d4 : decide (20000 < t.size) = false := decide_eq_false h2
  clear h1 h2
  go_wp2_with fail
  refine (fold_calls s _ (by have := HS.out; omega)).mono ?_
  rintro e w2 ⟨rfl, hb⟩
  have HB2 := Aside0.mk (HB1.out.trans (hb.mono HB1.out.size))
  clear hb HB1
  go_wp2_with fail
  refine (refFold_calls s _ (by have := HS.out; omega)).mono ?_
  rintro e w3 ⟨rfl, hb⟩
  have HB3 := Aside0.mk (HB2.out.trans (hb.mono HB2.out.size))
  clear hb HB2
  go_wp2_with fail
  refine (fold_calls (foldS s) _ (by have := HS.out; rw [fold_size]; omega)).mono ?_
  rintro e w4 ⟨rfl, hb⟩
  have HB4 := Aside0.mk (HB3.out.trans (hb.mono HB3.out.size))
  clear hb HB3
  go_wp2_with fail
  refine (same_calls s t _ (by have := HS.out; omega) (by have := HT.out; omega)).mono ?_
  rw [HQ.out]
  rintro e w5 ⟨rfl, hx⟩
  have HB5 := Aside0.mk (HB4.out.trans (hx.mono HB4.out.size))
  clear hx HB4
  go_wp2_with fail
  refine (refFold_calls s _ (by have := HS.out; omega)).mono ?_
  rintro e w6 ⟨rfl, hb⟩
  have HB6 := Aside0.mk (HB5.out.trans (hb.mono HB5.out.size))
  clear hb HB5
  go_wp2_with fail
  refine (refFold_calls t _ (by have := HT.out; omega)).mono ?_
  rintro e w7 ⟨rfl, hb⟩
  have HB7 := Aside0.mk (HB6.out.trans (hb.mono HB6.out.size))
  clear hb HB6
  go_wp2_with fail
  refine (same_calls s (foldS s) _ (by have := HS.out; omega) (by have := HS.out; rw [fold_size]; omega)).mono ?_
  rw [HQ2.out]
  rintro e w8 ⟨rfl, hx⟩
  have HB8 := Aside0.mk (HB7.out.trans (hx.mono HB7.out.size))
  clear hx HB7
  go_wp2_with fail
  refine (fold_calls (s ++ t) _ HA.out).mono ?_
  rintro e w9 ⟨rfl, hb⟩
  have HB9 := Aside0.mk (HB8.out.trans (hb.mono HB8.out.size))
  clear hb HB8
  go_wp2_with fail
  refine (fold_calls t _ (by have := HT.out; omega)).mono ?_
  rintro e wa ⟨rfl, hb⟩
  have HBa := Aside0.mk (HB9.out.trans (hb.mono HB9.out.size))
  clear hb HB9
  go_wp2_with fail
  go_ret
  exact ⟨congrArg (fun x => Ending.returned (.bool x)) HE.out, HBa.out⟩
theorem folds_all (W : World) (s : ByteArray) (hs : s.size ≤ 140737488351232) (t : ByteArray) (ht : t.size ≤ 140737488351232) :
    Calls Tryd.prog 3 #[.string s, .string t] W fun e w' => e = .returned (.bool true) ∧ Below W.heap.size W w' := folds_calls s t W
end Go.Proofs.YtfoflodgegehfaaDoor.M
