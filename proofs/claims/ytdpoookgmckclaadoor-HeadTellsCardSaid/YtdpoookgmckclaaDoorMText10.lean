/- Walks of nuncioref02: Number, Decimal. -/
import Derived.Test.YtdpoookgmckclaaDoorMText9
import Derived.Lib.ItoaNum
import Derived.Laws.Concat
set_option linter.unusedVariables false
set_option linter.unusedSimpArgs false
namespace Go.Proofs.YtdpoookgmckclaaDoor.M
open Go.RowKit Go.Maps Go.Proofs.YtdpoookgmckclaaDoorW.PrintWords Go.Proofs.YtdpoookgmckclaaDoorW.PrintLast Go.Proofs.YtdpoookgmckclaaDoorW.PrintMore
attribute [local go_sem] max2_int min2_int max_two min_two max_three min_three max_four min_four
attribute [local go_sem ↓] Go.wp_at_zero Go.wp_at_succ
/-- A number in digits. -/
def numF (n : Int) : ByteArray := if n < 0 then ⟨#[]⟩ else ⟨(Lib.decDigits n.toNat).toArray⟩
theorem one_byte10 (W : World) (x : Int) : (convert 63 9 (.slice (some ⟨W.heap.size, 0, none⟩) 1 1)).run Tryd.prog (W.alloc (.cells #[.int .u8 x] 5 (0, 0))) = .ok (.string (strOfNums [x])) (W.alloc (.cells #[.int .u8 x] 5 (0, 0))) := by
  refine run_convert_bytes_arg (P := Tryd.prog) _ 63 5 Tryd.underlying63 Tryd.underlying5 W.heap.size 0 1 1 [x] rfl ?_ 9 Tryd.underlying9
  intro i hi
  have hb := blk_new W (.cells #[.int .u8 x] 5 (0, 0))
  match i, hi with
  | 0, _ => exact (blk_cell hb 0).trans rfl
theorem dig_one (m : Nat) (h : m < 10) : (⟨(Lib.decDigits m).toArray⟩ : ByteArray) = strOfNums [48 + (m : Int)] := by
  unfold Lib.decDigits
  rw [dif_pos h]
  apply ByteArray.ext
  apply Array.toList_inj.1
  rw [tb_data]
  simp
  rw [show (48 + (m : Int)).toNat = 48 + m by omega]
  simp
theorem dig_more (m : Nat) (h : ¬ m < 10) (t : ByteArray) : (⟨(Lib.decDigits m).toArray⟩ : ByteArray) ++ t = ⟨(Lib.decDigits (m / 10)).toArray⟩ ++ (strOfNums [48 + ((m % 10 : Nat) : Int)] ++ t) := by
  rw [Lib.decDigits, dif_neg h]
  apply ByteArray.ext
  apply Array.toList_inj.1
  simp [tb_data]
  rw [show (48 + ((m : Int) % 10)).toNat = 48 + m % 10 by omega]
  simp
set_option maxHeartbeats 4000000 in
set_option maxRecDepth 100000 in
theorem refNumber_calls (n : Int) (w : World) (h0 : -9223372036854775808 ≤ n) (h1 : n ≤ 9223372036854775807) :
    Calls Tryd.prog 31 #[.int .i64 n] w fun e w' => e = .returned (.string (numF n)) ∧ Below w.heap.size w w' := by
  have HB := Aside0.mk (Below.refl w.heap.size w)
  by_cases hn : n < 0
  · have hE : numF n = ⟨#[]⟩ := if_pos hn
    rw [hE]
    have d1 : decide (n < 0) = true := decide_eq_true hn
    clear hE
    go_enter Tryd.func31, Tryd.ntmps31
    go_wp2_with fail
    go_ret
    exact ⟨rfl, HB.out⟩
  have hE : numF n = ⟨(Lib.decDigits n.toNat).toArray⟩ := if_neg hn
  obtain ⟨m, rfl⟩ : ∃ m : Nat, n = m := ⟨n.toNat, by omega⟩
  rw [hE, Int.toNat_natCast]
  obtain ⟨R, hR⟩ : ∃ R, (⟨(Lib.decDigits m).toArray⟩ : ByteArray) = R := ⟨_, rfl⟩
  rw [hR]
  have HR := Aside0.mk (show (⟨(Lib.decDigits m).toArray⟩ : ByteArray) ++ ⟨#[]⟩ = R by rw [hR]; apply ByteArray.ext; simp)
  have HL := Lib.hid h1
  have d1 : decide ((m : Int) < 0) = false := decide_eq_false hn
  clear hE hR hn h0 h1
  go_enter Tryd.func31, Tryd.ntmps31
  go_wp2_with fail
  go_loopg [0, 3] m (fun kq v0 v3 w' => ∃ (q : Nat) (t : ByteArray), v0 = .int .i64 q ∧ v3 = .string t ∧ Aside0 (q ≤ kq) ∧ Aside0 (q ≤ m ∧ t.size + q ≤ m ∧ (t.size = 0 ∨ 1 ≤ q)) ∧ Aside0 ((⟨(Lib.decDigits q).toArray⟩ : ByteArray) ++ t = R) ∧ Aside0 (Below w.heap.size w w'))
  case atStart => exact ⟨m, _, rfl, rfl, ⟨Nat.le_refl _⟩, ⟨Nat.le_refl _, by show 0 + m ≤ m; omega, .inl rfl⟩, HR, HB⟩
  case round =>
    clear HR HB
    obtain ⟨q, t, rfl, rfl, HK, HZ, HR, HB⟩ := hrel
    have HCv := fun (x : Int) => one_byte10 wr x
    have q0 : (0 : Int) ≤ (q : Int) := by omega
    have q1 : (q : Int) ≤ 9223372036854775807 := by have := HL.out; have := HZ.out; omega
    have hz := HZ.out
    have hl := HL.out
    by_cases h : q < 10
    · have d2 : decide ((9 : Int) < (q : Int)) = false := decide_eq_false (by omega)
      have d3 : decide (9 < q) = false := decide_eq_false (by omega)
      have hadd := fun W => run_string_add_sum (P := Tryd.prog) W (strOfNums [48 + (q : Int)]) t (by rw [strOfNums_size, List.length_singleton]; omega)
      have HE := Lib.hid (show strOfNums [48 + (q : Int)] ++ t = R by rw [← HR.out, dig_one q h])
      have HB2 := Aside0.mk (below_alloc HB.out (.cells #[.int .u8 (48 + (q : Int))] 5 (0, 0)))
      have q2 : (q : Int) ≤ 9 := by omega
      clear hz hl h HR
      go_wp2_with fail
      go_ret
      exact ⟨congrArg (fun x => Ending.returned (.string x)) HE.out, HB2.out⟩
    · have d2 : decide ((9 : Int) < (q : Int)) = true := decide_eq_true (by omega)
      have d3 : decide (9 < q) = true := decide_eq_true (by omega)
      have hadd := fun W => run_string_add_sum (P := Tryd.prog) W (strOfNums [48 + (q : Int) % 10]) t (by rw [strOfNums_size, List.length_singleton]; omega)
      have HR2 := Aside0.mk (show (⟨(Lib.decDigits (q / 10)).toArray⟩ : ByteArray) ++ (strOfNums [48 + (q : Int) % 10] ++ t) = R by rw [← HR.out, dig_more q h t, Int.natCast_emod]; rfl)
      have HB2 := Aside0.mk (below_alloc HB.out (.cells #[.int .u8 (48 + (q : Int) % 10)] 5 (0, 0)))
      have HZ2 := Aside0.mk (show q / 10 ≤ m ∧ (strOfNums [48 + (q : Int) % 10] ++ t).size + q / 10 ≤ m ∧ ((strOfNums [48 + (q : Int) % 10] ++ t).size = 0 ∨ 1 ≤ q / 10) by rw [ByteArray.size_append, strOfNums_size, List.length_singleton]; omega)
      obtain ⟨k, rfl⟩ : ∃ k, gk = k + 1 := ⟨gk - 1, by have := HK.out; omega⟩
      clear hz hl HR
      go_wp2_with fail
      go_roundg k
      case measure => omega
      case rel => exact ⟨q / 10, _, by rw [Int.natCast_ediv]; rfl, rfl, ⟨by have := HK.out; omega⟩, HZ2, HR2, HB2⟩
end Go.Proofs.YtdpoookgmckclaaDoor.M
