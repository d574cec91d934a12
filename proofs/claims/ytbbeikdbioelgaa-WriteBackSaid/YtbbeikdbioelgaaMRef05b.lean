/- Walks of packages nuncioref01 (Put) and nuncioref05 (plain). -/
import Derived.Test.YtbbeikdbioelgaaMRef05
import Derived.Laws.Concat
set_option linter.unusedVariables false
set_option linter.unusedSimpArgs false
namespace Go.Proofs.Ytbbeikdbioelgaa.M
open Go.RowKit Go.Proofs.YtbbeikdbioelgaaW.PrintWords Go.Proofs.YtbbeikdbioelgaaW.PrintLast Go.Proofs.YtbbeikdbioelgaaW.PrintMore
attribute [local go_sem] max2_int min2_int max_two min_two max_three min_three max_four min_four
theorem one_byte (W : World) (x : Int) : (convert 57 9 (.slice (some ⟨W.heap.size, 0, none⟩) 1 1)).run Try.prog (W.alloc (.cells #[.int .u8 x] 5 (0, 0))) = .ok (.string (strOfNums [x])) (W.alloc (.cells #[.int .u8 x] 5 (0, 0))) := by
  refine run_convert_bytes_arg (P := Try.prog) _ 57 5 Try.underlying57 Try.underlying5 W.heap.size 0 1 1 [x] rfl ?_ 9 Try.underlying9
  intro i hi
  have hb := blk_new W (.cells #[.int .u8 x] 5 (0, 0))
  match i, hi with
  | 0, _ => exact (blk_cell hb 0).trans rfl
theorem str_app (a b : List Int) : strOfNums a ++ strOfNums b = strOfNums (a ++ b) := by
  apply ByteArray.ext
  simp [strOfNums]
theorem str_of (s : ByteArray) : strOfNums (bytesOf s) = s := by
  apply ByteArray.ext
  apply Array.toList_inj.1
  rw [strOfNums_data]
  unfold bytesOf
  rw [List.map_map]
  conv => rhs; rw [← List.map_id s.data.toList]
  apply List.map_congr_left
  intro b _
  simp
theorem str_app_s (a : List Int) (s : ByteArray) : strOfNums a ++ s = strOfNums (a ++ bytesOf s) := by
  rw [← str_app, str_of]
set_option maxHeartbeats 4000000 in
set_option maxRecDepth 100000 in
theorem Put5_calls (s : ByteArray) (n : Int) (k : Nat) (w : World) (hs : s.size ≤ 1000000000000) (n0 : 0 ≤ n) (n1 : n ≤ 4294967295) (hk : k ≤ 8) :
    Calls Try.prog 38 #[.string s, .int .u64 n, .int .i64 k] w fun e w' => e = .returned (.string (s ++ strOfNums (putL n k))) ∧ Below w.heap.size w w' := by
  have HB := Aside0.mk (Below.refl w.heap.size w)
  have hcv := fun W x => one_byte W x
  have p1 : (k : Int) ≤ 8 := by omega
  have HS := Lib.hid (show s.size ≤ 1000000000000 ∧ k ≤ 8 ∧ 0 ≤ n ∧ n ≤ 4294967295 from ⟨hs, hk, n0, n1⟩)
  clear hs hk n0 n1
  go_enter Try.func38, Try.ntmps38
  go_wp2
  go_loopg [1, 7, 8] k (fun kq v1 v7 v8 w' => ∃ i : Nat, v8 = .int .i64 i ∧ v7 = .string (strOfNums (putL n i)) ∧ v1 = .int .u64 (n / 2 ^ (8 * i)) ∧ Aside0 (kq + i = k) ∧ Aside0 (Below w.heap.size w w'))
  case atStart => exact ⟨0, rfl, rfl, by simp, ⟨rfl⟩, HB⟩
  case round =>
    clear HB
    obtain ⟨i, rfl, rfl, rfl, HK, HB⟩ := hrel
    cases gk with
    | zero =>
      obtain rfl : i = k := by have := HK.out; omega
      have hadd := fun W => run_string_add_sum (P := Try.prog) W s (strOfNums (putL n i)) (by rw [strOfNums_size, putL_length]; have := HS.out; omega)
      go_wp2
      go_ret
      exact ⟨rfl, HB.out⟩
    | succ j =>
      have q1 : (i : Int) < (k : Int) := by have := HK.out; omega
      have q2 : (i : Int) < 8 := by omega
      obtain ⟨m, hm⟩ : ∃ m, n / 2 ^ (8 * i) = m := ⟨_, rfl⟩
      have m0 : 0 ≤ m := by rw [← hm]; exact Int.ediv_nonneg HS.out.2.2.1 (Int.le_of_lt (Int.pow_pos (by decide)))
      have hnext : n / 2 ^ (8 * (i + 1)) = m / 256 := by
        rw [← hm, Int.ediv_ediv_of_nonneg (Int.le_of_lt (Int.pow_pos (by decide)))]
        congr 1
        rw [show 8 * (i + 1) = 8 * i + 8 by omega, Int.pow_add]
        rfl
      have hputs : strOfNums [m % 256] ++ strOfNums (putL n i) = strOfNums (putL n (i + 1)) := by
        rw [str_app]
        show _ = strOfNums (n / 2 ^ (8 * i) % 256 :: putL n i)
        rw [hm]
        rfl
      have m1 : m ≤ 4294967295 := by
        rw [← hm]
        exact Int.le_trans (Int.ediv_le_self _ HS.out.2.2.1) HS.out.2.2.2
      have HDv := Lib.hid (show IntKind.u64.wrap (m.tdiv 256) = m / 256 by
        rw [Int.tdiv_eq_ediv_of_nonneg m0]
        simp [IntKind.wrap, IntKind.bits, IntKind.signed]
        omega)
      have HN := Lib.hid hnext
      have HP := Lib.hid hputs
      rw [hm]
      have hw1 : IntKind.u8.wrap (m % 256) = m % 256 := by rw [IntKind.wrap_u8]; omega
      have hadd := fun W => run_string_add_sum (P := Try.prog) W (strOfNums [m % 256]) (strOfNums (putL n i)) (by rw [strOfNums_size, strOfNums_size, putL_length]; have := HS.out; simp; omega)
      clear hnext hputs hm
      go_wp2
      go_roundg j
      case measure => omega
      case rel => exact ⟨i + 1, by go_num, by rw [← HP.out], by rw [HN.out], ⟨by have := HK.out; omega⟩, ⟨below_alloc HB.out _⟩⟩
/-- How many bytes the texts have. -/
def total (r : Rec) : Nat := (r.f6.flatMap (textL r)).length
def plain5E (r : Rec) : Ending := if 65535 < total r then .returned (.tuple #[.string ⟨#[]⟩, .bool false]) else .returned (.tuple #[.string (strOfNums (plainL r)), .bool true])
theorem textL_len (r : Rec) (s : ByteArray) : (textL r s).length = s.size + (if r.f1 = 16 then 1 else 0) := by
  unfold textL
  rw [List.length_append, bytesOf_length]
  split <;> simp <;> omega
/-- A text that is laid piece by piece. -/
def sAcc {α : Type} (acc : List Int) (l : List α) (f : α → List Int) (k : Nat) : ByteArray := strOfNums (acc ++ (l.take k).flatMap f)
theorem sAcc_zero {α : Type} (acc : List Int) (l : List α) (f : α → List Int) : sAcc acc l f 0 = strOfNums acc := by simp [sAcc]
theorem sAcc_end {α : Type} (acc : List Int) (l : List α) (f : α → List Int) : sAcc acc l f l.length = strOfNums (acc ++ l.flatMap f) := by simp [sAcc]
theorem sAcc_next {α : Type} (acc : List Int) (l : List α) (f : α → List Int) (z : α) (k : Nat) (h : k < l.length) : sAcc acc l f k ++ strOfNums (f (l.getD k z)) = sAcc acc l f (k + 1) := by
  unfold sAcc
  rw [str_app, flat_snoc z f l k h, List.append_assoc]
def txN (r : Rec) (k : Nat) : Nat := ((r.f6.take k).flatMap (textL r)).length
theorem txN_zero (r : Rec) : txN r 0 = 0 := by simp [txN]
theorem txN_end (r : Rec) : txN r r.f6.length = total r := by unfold txN total; rw [List.take_length]
theorem txN_next (r : Rec) (k : Nat) (h : k < r.f6.length) : txN r (k + 1) = txN r k + ((r.f6.getD k ⟨#[]⟩).size + (if r.f1 = 16 then 1 else 0)) := by
  unfold txN
  rw [flat_snoc ⟨#[]⟩ (textL r) r.f6 k h, List.length_append, textL_len]
theorem txN_le (r : Rec) (k : Nat) : txN r k ≤ total r := by
  unfold total txN
  have h2 : (r.f6.flatMap (textL r)).length = ((r.f6.take k).flatMap (textL r)).length + ((r.f6.drop k).flatMap (textL r)).length := by
    rw [← List.length_append, ← List.flatMap_append, List.take_append_drop]
  omega
set_option maxHeartbeats 8000000 in
set_option maxRecDepth 100000 in
theorem plain5_calls (r : Rec) (v : Value) (w : World) (hv : RecAt w v r) (hF : Fine r) :
    Calls Try.prog 53 #[v] w fun e w' => e = plain5E r ∧ Below w.heap.size w w' := by
  obtain ⟨A4, c4, A5, c5, A6, c6, rfl, l4, g4, l5, g5, l6, g6⟩ := hv
  have G4 := Aside0.mk g4
  have G5 := Aside0.mk g5
  have G6 := Aside0.mk g6
  have HF := Aside0.mk hF
  obtain ⟨R, hR⟩ : ∃ R, plain5E r = R := ⟨_, rfl⟩
  rw [hR]
  have HRes := Lib.hid hR
  have m6 : (r.f6.length : Int) ≤ 1000000000 := by have := hF.texts2; omega
  have m5 : (r.f5.length : Int) ≤ 1000000000 := by have := hF.names; omega
  have m4 : (r.f4.length : Int) ≤ 1000000000 := by have := hF.len4; omega
  clear g4 g5 g6 hF hR
  go_enter Try.func53, Try.ntmps53
  go_wp2_with (((with_reducible refine gate_dst (N := 1) rfl ?_); refine box_event rfl (N := 1) rfl (cs := #[.string r.f0, .int .u16 r.f1, .int .u16 r.f2, .int .u32 r.f3, .slice A4 r.f4.length c4, .slice A5 r.f5.length c5, .slice A6 r.f6.length c6]) (t := 44) (by first | (go_simp; done) | (go_simp; rfl)) ?_; intro g hg w1 hbox hb); have HX := Aside0.mk hbox; have HB := Aside0.mk hb; have HGe := Aside0.mk hg; clear hb hg; have z0 : w1.cell? ⟨g, 0, none⟩ = some (.string r.f0) := (blk_cell HX.out 0).trans rfl; clear hbox; have z1 : w1.cell? ⟨g, 1, none⟩ = some (.int .u16 r.f1) := (blk_cell HX.out 1).trans rfl; have z2 : w1.cell? ⟨g, 2, none⟩ = some (.int .u16 r.f2) := (blk_cell HX.out 2).trans rfl; have z3 : w1.cell? ⟨g, 3, none⟩ = some (.int .u32 r.f3) := (blk_cell HX.out 3).trans rfl; have z4 : w1.cell? ⟨g, 4, none⟩ = some (.slice A4 r.f4.length c4) := (blk_cell HX.out 4).trans rfl; have z5 : w1.cell? ⟨g, 5, none⟩ = some (.slice A5 r.f5.length c5) := (blk_cell HX.out 5).trans rfl; have z6 : w1.cell? ⟨g, 6, none⟩ = some (.slice A6 r.f6.length c6) := (blk_cell HX.out 6).trans rfl)
  go_loopg [4, 5] r.f6.length (fun kq v4 v5 w' => ∃ k : Nat, v5 = .int .i64 k ∧ v4 = .int .i64 (txN r k : Nat) ∧ Aside0 (kq + k = r.f6.length) ∧ Aside0 (txN r k ≤ 65535) ∧ w1 = w')
  case atStart => exact ⟨0, rfl, by rw [txN_zero]; rfl, ⟨rfl⟩, ⟨by rw [txN_zero]; omega⟩, rfl⟩
  case round =>
    obtain ⟨k, rfl, rfl, HK, HT, rfl⟩ := hrel
    cases gk with
    | zero =>
      obtain rfl : k = r.f6.length := by have := HK.out; omega
      have HTot := Lib.hid (show ¬ 65535 < total r by have := HT.out; rw [txN_end] at this; omega)
      have HBr := Aside0.mk (Below.refl w1.heap.size w1)
      have HXr := HX
      have HBt := HB
      clear HT HK
      by_cases k6 : r.f1 = 6
      · have K6 := Lib.hid k6
        have e6 : (r.f1 != 6) = false := by rw [bne_eq_false_iff_eq]; exact k6
        have e7 : (r.f1 == 6) = true := beq_iff_eq.mpr k6
        obtain ⟨ac, hac⟩ : ∃ ac : List Int, ac = [] := ⟨_, rfl⟩
        have HAcc := Lib.hid (show ac.length ≤ 10 by rw [hac]; simp)
        have hs0 : (⟨#[]⟩ : ByteArray) = strOfNums ac := by rw [hac]; rfl
        have HS0 := Lib.hid hs0
        have HAq := Lib.hid hac
        clear hac hs0
        clear k6
        go_wp2
        rw [HS0.out]
        go_loopg [6, 7] 1 (fun kq v6 v w' => v6 = .string (strOfNums ac) ∧ v = .int .i64 0 ∧ Aside0 (Below w1.heap.size w1 w'))
        case atStart => exact ⟨rfl, rfl, HBr⟩
        case round =>
          clear HBr HXr HBt z0 z1 z2 z3 z4 z5 z6
          obtain ⟨rfl, rfl, HBr⟩ := hrel
          have HXr := Aside0.mk (blk_below HX.out HBr.out)
          have HBt := Aside0.mk (HB.out.trans (HBr.out.mono (below_size HB.out)))
          have z0 : wr.cell? ⟨g, 0, none⟩ = some (.string r.f0) := (blk_cell HXr.out 0).trans rfl
          have z1 : wr.cell? ⟨g, 1, none⟩ = some (.int .u16 r.f1) := (blk_cell HXr.out 1).trans rfl
          have z2 : wr.cell? ⟨g, 2, none⟩ = some (.int .u16 r.f2) := (blk_cell HXr.out 2).trans rfl
          have z3 : wr.cell? ⟨g, 3, none⟩ = some (.int .u32 r.f3) := (blk_cell HXr.out 3).trans rfl
          have z4 : wr.cell? ⟨g, 4, none⟩ = some (.slice A4 r.f4.length c4) := (blk_cell HXr.out 4).trans rfl
          have z5 : wr.cell? ⟨g, 5, none⟩ = some (.slice A5 r.f5.length c5) := (blk_cell HXr.out 5).trans rfl
          have z6 : wr.cell? ⟨g, 6, none⟩ = some (.slice A6 r.f6.length c6) := (blk_cell HXr.out 6).trans rfl
          by_cases c0 : 0 < r.f5.length
          · have c1 : decide ((0 : Int) < (r.f5.length : Int)) = true := decide_eq_true (by omega)
            have c2 : decide (0 < r.f5.length) = true := decide_eq_true c0
            clear c0
            go_wp2
            go_loopg [6, 8] r.f4.length (fun kq v6 v w' => ∃ k : Nat, v = .int .i64 k ∧ v6 = .string (sAcc ac r.f4 (bytesOf) k) ∧ Aside0 (kq + k = r.f4.length) ∧ Aside0 (Below w1.heap.size w1 w'))
            case atStart => exact ⟨0, rfl, by rw [sAcc_zero], ⟨rfl⟩, HBr⟩
            case round =>
              clear HBr HXr HBt z0 z1 z2 z3 z4 z5 z6
              obtain ⟨k, rfl, rfl, HK, HBr⟩ := hrel
              have HXr := Aside0.mk (blk_below HX.out HBr.out)
              have HBt := Aside0.mk (HB.out.trans (HBr.out.mono (below_size HB.out)))
              have z0 : wr.cell? ⟨g, 0, none⟩ = some (.string r.f0) := (blk_cell HXr.out 0).trans rfl
              have z1 : wr.cell? ⟨g, 1, none⟩ = some (.int .u16 r.f1) := (blk_cell HXr.out 1).trans rfl
              have z2 : wr.cell? ⟨g, 2, none⟩ = some (.int .u16 r.f2) := (blk_cell HXr.out 2).trans rfl
              have z3 : wr.cell? ⟨g, 3, none⟩ = some (.int .u32 r.f3) := (blk_cell HXr.out 3).trans rfl
              have z4 : wr.cell? ⟨g, 4, none⟩ = some (.slice A4 r.f4.length c4) := (blk_cell HXr.out 4).trans rfl
              have z5 : wr.cell? ⟨g, 5, none⟩ = some (.slice A5 r.f5.length c5) := (blk_cell HXr.out 5).trans rfl
              have z6 : wr.cell? ⟨g, 6, none⟩ = some (.slice A6 r.f6.length c6) := (blk_cell HXr.out 6).trans rfl
              cases gk with
              | zero =>
                obtain rfl : k = r.f4.length := by have := HK.out; omega
                have HS2 := Lib.hid (sAcc_end ac r.f4 bytesOf)
                go_wp2
                rw [HS2.out]
                obtain ⟨ac, hac2⟩ : ∃ ac2, ac ++ r.f4.flatMap (bytesOf) = ac2 := ⟨_, rfl⟩
                rw [hac2]
                have HAcc := Lib.hid (show ac.length ≤ 5000000000 by
                  rw [← hac2, List.length_append]
                  have h1 := nums_le r.f5 r.f5.length 4
                  have h1' := nums_le r.f5 r.f5.length 2
                  have h4 := names_le r.f4 r.f4.length
                  rw [List.take_length] at h1 h1' h4
                  have h2 := HF.out.names
                  have h3 := HAcc.out
                  omega)
                have HAq := Lib.hid (hac2.symm.trans (congrArg (fun x => x ++ r.f4.flatMap (bytesOf)) HAq.out))
                clear hac2 HS2
                go_loopg [6, 9] r.f5.length (fun kq v6 v w' => ∃ k : Nat, v = .int .i64 k ∧ v6 = .string (sAcc ac r.f5 (fun n => putL n 4) k) ∧ Aside0 (kq + k = r.f5.length) ∧ Aside0 (Below w1.heap.size w1 w'))
                case atStart => exact ⟨0, rfl, by rw [sAcc_zero], ⟨rfl⟩, HBr⟩
                case round =>
                  clear HBr HXr HBt z0 z1 z2 z3 z4 z5 z6
                  obtain ⟨k, rfl, rfl, HK, HBr⟩ := hrel
                  have HXr := Aside0.mk (blk_below HX.out HBr.out)
                  have HBt := Aside0.mk (HB.out.trans (HBr.out.mono (below_size HB.out)))
                  have z0 : wr.cell? ⟨g, 0, none⟩ = some (.string r.f0) := (blk_cell HXr.out 0).trans rfl
                  have z1 : wr.cell? ⟨g, 1, none⟩ = some (.int .u16 r.f1) := (blk_cell HXr.out 1).trans rfl
                  have z2 : wr.cell? ⟨g, 2, none⟩ = some (.int .u16 r.f2) := (blk_cell HXr.out 2).trans rfl
                  have z3 : wr.cell? ⟨g, 3, none⟩ = some (.int .u32 r.f3) := (blk_cell HXr.out 3).trans rfl
                  have z4 : wr.cell? ⟨g, 4, none⟩ = some (.slice A4 r.f4.length c4) := (blk_cell HXr.out 4).trans rfl
                  have z5 : wr.cell? ⟨g, 5, none⟩ = some (.slice A5 r.f5.length c5) := (blk_cell HXr.out 5).trans rfl
                  have z6 : wr.cell? ⟨g, 6, none⟩ = some (.slice A6 r.f6.length c6) := (blk_cell HXr.out 6).trans rfl
                  cases gk with
                  | zero =>
                    obtain rfl : k = r.f5.length := by have := HK.out; omega
                    have HS2 := Lib.hid (sAcc_end ac r.f5 (fun n => putL n 4))
                    go_wp2
                    rw [HS2.out]
                    obtain ⟨ac, hac2⟩ : ∃ ac2, ac ++ r.f5.flatMap (fun n => putL n 4) = ac2 := ⟨_, rfl⟩
                    rw [hac2]
                    have HAcc := Lib.hid (show ac.length ≤ 9900000000 by
                      rw [← hac2, List.length_append]
                      have h1 := nums_le r.f5 r.f5.length 4
                      have h1' := nums_le r.f5 r.f5.length 2
                      have h4 := names_le r.f4 r.f4.length
                      rw [List.take_length] at h1 h1' h4
                      have h2 := HF.out.names
                      have h3 := HAcc.out
                      omega)
                    have HAq := Lib.hid (hac2.symm.trans (congrArg (fun x => x ++ r.f5.flatMap (fun n => putL n 4)) HAq.out))
                    clear hac2 HS2
                    go_loopg [6, 10] r.f6.length (fun kq v6 v w' => ∃ k : Nat, v = .int .i64 k ∧ v6 = .string (sAcc ac r.f6 (textL r) k) ∧ Aside0 (kq + k = r.f6.length) ∧ Aside0 (Below w1.heap.size w1 w'))
                    case atStart => exact ⟨0, rfl, by rw [sAcc_zero], ⟨rfl⟩, HBr⟩
                    case round =>
                      clear HBr HXr HBt z0 z1 z2 z3 z4 z5 z6
                      obtain ⟨k, rfl, rfl, HK, HBr⟩ := hrel
                      have HXr := Aside0.mk (blk_below HX.out HBr.out)
                      have HBt := Aside0.mk (HB.out.trans (HBr.out.mono (below_size HB.out)))
                      have z0 : wr.cell? ⟨g, 0, none⟩ = some (.string r.f0) := (blk_cell HXr.out 0).trans rfl
                      have z1 : wr.cell? ⟨g, 1, none⟩ = some (.int .u16 r.f1) := (blk_cell HXr.out 1).trans rfl
                      have z2 : wr.cell? ⟨g, 2, none⟩ = some (.int .u16 r.f2) := (blk_cell HXr.out 2).trans rfl
                      have z3 : wr.cell? ⟨g, 3, none⟩ = some (.int .u32 r.f3) := (blk_cell HXr.out 3).trans rfl
                      have z4 : wr.cell? ⟨g, 4, none⟩ = some (.slice A4 r.f4.length c4) := (blk_cell HXr.out 4).trans rfl
                      have z5 : wr.cell? ⟨g, 5, none⟩ = some (.slice A5 r.f5.length c5) := (blk_cell HXr.out 5).trans rfl
                      have z6 : wr.cell? ⟨g, 6, none⟩ = some (.slice A6 r.f6.length c6) := (blk_cell HXr.out 6).trans rfl
                      cases gk with
                      | zero =>
                        obtain rfl : k = r.f6.length := by have := HK.out; omega
                        have HS2 := Lib.hid (sAcc_end ac r.f6 (textL r))
                        go_wp2
                        go_ret2
                        exact ⟨by rw [← HRes.out]; unfold plain5E; rw [if_neg HTot.out, plainL_six K6.out, HS2.out, HAq.out]; simp, HBt.out⟩
                      | succ j =>
                        have hk : k < r.f6.length := by have := HK.out; omega
                        obtain ⟨ad, rfl, hcell⟩ := at_str (Kd.C_below G6.out HBt.out) k hk
                        have q1 : (0 : Int) ≤ (k : Int) := by omega
                        have q2 : (k : Int) < (r.f6.length : Int) := by omega
                        have HE1 := Lib.hid (sAcc_next ac r.f6 (textL r) ⟨#[]⟩ k hk)
                        have htot := txN_le r (k + 1)
                        rw [txN_next r k hk] at htot
                        have HLn := Lib.hid (show (sAcc ac r.f6 (textL r) k).size ≤ 1000000000000 by
                          unfold sAcc
                          rw [strOfNums_size, List.length_append]
                          have h1 := txN_le r k
                          unfold txN at h1
                          have h2 := HTot.out
                          have h3 := HAcc.out
                          omega)
                        obtain ⟨s, hs⟩ : ∃ s, r.f6.getD k ⟨#[]⟩ = s := ⟨_, rfl⟩
                        rw [hs] at HE1 hcell htot
                        obtain ⟨sa, hsa⟩ : ∃ sa, sAcc ac r.f6 (textL r) k = sa := ⟨_, rfl⟩
                        rw [hsa] at HE1 HLn ⊢
                        have HSz := Lib.hid (show s.size ≤ 65535 by have := HTot.out; omega)
                        have q3 : (s.size : Int) ≤ 65535 := by have := HSz.out; omega
                        have hlne : ¬ g = wr.heap.size := Nat.ne_of_lt (blk_lt HXr.out)
                        have hza : ∀ o, (wr.alloc o).cell? ⟨g, 6, none⟩ = some (.slice (some ad) r.f6.length c6) := fun o => pw_cell_below (below_alloc (Below.refl _ _) o) z6
                        have hca : ∀ o, (wr.alloc o).cell? (ad.add k) = some (.string s) := fun o => pw_cell_below (below_alloc (Below.refl _ _) o) hcell
                        clear hs htot hsa
                        by_cases k16 : r.f1 = 16
                        · have e16 : (r.f1 == 16) = true := beq_iff_eq.mpr k16
                          have hu : IntKind.u8.wrap (s.size : Int) = (s.size : Int) % 256 := by rw [IntKind.wrap_u8]
                          have hcv := fun W => one_byte W ((s.size : Int) % 256)
                          have hadd1 := fun W => run_string_add_sum (P := Try.prog) W sa (strOfNums [(s.size : Int) % 256]) (by rw [strOfNums_size]; have := HLn.out; simp; omega)
                          have hadd2 := fun W => run_string_add_sum (P := Try.prog) W (sa ++ strOfNums [(s.size : Int) % 256]) s (by rw [ByteArray.size_append, strOfNums_size]; have := HLn.out; have := HSz.out; simp; omega)
                          have HT := Lib.hid (show sa ++ strOfNums [(s.size : Int) % 256] ++ s = sAcc ac r.f6 (textL r) (k + 1) by
                            rw [← HE1.out]
                            unfold textL
                            rw [if_pos k16, ← str_app, str_of, ByteArray.append_assoc])
                          clear k16
                          go_wp2
                          go_roundg j
                          case measure => omega
                          case rel => exact ⟨k + 1, by go_num, by rw [← HT.out], ⟨by have := HK.out; omega⟩, ⟨below_alloc HBr.out _⟩⟩
                        · have e16 : (r.f1 == 16) = false := beq_eq_false_iff_ne.mpr k16
                          have hadd2 := fun W => run_string_add_sum (P := Try.prog) W sa s (by have := HLn.out; have := HSz.out; omega)
                          have HT := Lib.hid (show sa ++ s = sAcc ac r.f6 (textL r) (k + 1) by
                            rw [← HE1.out]
                            unfold textL
                            rw [if_neg k16, List.nil_append, str_of])
                          clear k16
                          go_wp2
                          go_roundg j
                          case measure => omega
                          case rel => exact ⟨k + 1, by go_num, by rw [← HT.out], ⟨by have := HK.out; omega⟩, HBr⟩
                  | succ j =>
                    have hk : k < r.f5.length := by have := HK.out; omega
                    obtain ⟨ad, rfl, hcell⟩ := at_int (Kd.C_below G5.out HBt.out) k hk
                    have q1 : (0 : Int) ≤ (k : Int) := by omega
                    have q2 : (k : Int) < (r.f5.length : Int) := by omega
                    obtain ⟨n0, n1⟩ := HF.out.wf k hk
                    have HE1 := Lib.hid (sAcc_next ac r.f5 (fun n => putL n 4) 0 k hk)
                    have HLn := Lib.hid (show (sAcc ac r.f5 (fun n => putL n 4) k).size ≤ 1000000000000 by
                      unfold sAcc
                      rw [strOfNums_size, List.length_append]
                      have h1 := nums_le r.f5 k 4
                      have h2 := HF.out.names
                      have h3 := HAcc.out
                      omega)
                    obtain ⟨n, hn⟩ : ∃ n, r.f5.getD k 0 = n := ⟨_, rfl⟩
                    rw [hn] at n0 n1 HE1 hcell
                    clear hn
                    go_wp2_with fail
                    refine (Put5_calls _ n 4 _ HLn.out n0 n1 (by decide)).mono ?_
                    rintro e w' ⟨rfl, hb⟩
                    have HBn := Aside0.mk (HBr.out.trans (hb.mono HBr.out.size))
                    clear hb
                    go_wp2_with fail
                    go_roundg j
                    case measure => omega
                    case rel => exact ⟨k + 1, by go_num, by rw [HE1.out], ⟨by have := HK.out; omega⟩, HBn⟩
              | succ j =>
                have hk : k < r.f4.length := by have := HK.out; omega
                obtain ⟨ad, rfl, hcell⟩ := at_str (Kd.C_below G4.out HBt.out) k hk
                have q1 : (0 : Int) ≤ (k : Int) := by omega
                have q2 : (k : Int) < (r.f4.length : Int) := by omega
                have HE1 := Lib.hid (sAcc_next ac r.f4 bytesOf ⟨#[]⟩ k hk)
                have HSn := Lib.hid (flat_snoc ⟨#[]⟩ bytesOf r.f4 k hk)
                have hsz : (r.f4.getD k ⟨#[]⟩).size ≤ 1000000000 := by
                  have h1 := names_le r.f4 (k + 1)
                  rw [HSn.out, List.length_append, bytesOf_length] at h1
                  have h2 := HF.out.names
                  omega
                have HLn := Lib.hid (show (sAcc ac r.f4 bytesOf k).size ≤ 1000000000000 by
                  unfold sAcc
                  rw [strOfNums_size, List.length_append]
                  have h1 := names_le r.f4 k
                  have h2 := HF.out.names
                  have h3 := HAcc.out
                  omega)
                obtain ⟨s, hs⟩ : ∃ s, r.f4.getD k ⟨#[]⟩ = s := ⟨_, rfl⟩
                rw [hs, str_of] at HE1
                rw [hs] at hcell hsz
                have hadd := fun W => run_string_add_sum (P := Try.prog) W (sAcc ac r.f4 bytesOf k) s (by have := HLn.out; omega)
                clear hs HSn
                go_wp2
                go_roundg j
                case measure => omega
                case rel => exact ⟨k + 1, by go_num, by rw [HE1.out], ⟨by have := HK.out; omega⟩, HBr⟩
          · have c1 : decide ((0 : Int) < (r.f5.length : Int)) = false := decide_eq_false (by omega)
            have c2 : decide (0 < r.f5.length) = false := decide_eq_false c0
            clear c0
            go_wp2
            go_loopg [6, 8] r.f4.length (fun kq v6 v w' => ∃ k : Nat, v = .int .i64 k ∧ v6 = .string (sAcc ac r.f4 (bytesOf) k) ∧ Aside0 (kq + k = r.f4.length) ∧ Aside0 (Below w1.heap.size w1 w'))
            case atStart => exact ⟨0, rfl, by rw [sAcc_zero], ⟨rfl⟩, HBr⟩
            case round =>
              clear HBr HXr HBt z0 z1 z2 z3 z4 z5 z6
              obtain ⟨k, rfl, rfl, HK, HBr⟩ := hrel
              have HXr := Aside0.mk (blk_below HX.out HBr.out)
              have HBt := Aside0.mk (HB.out.trans (HBr.out.mono (below_size HB.out)))
              have z0 : wr.cell? ⟨g, 0, none⟩ = some (.string r.f0) := (blk_cell HXr.out 0).trans rfl
              have z1 : wr.cell? ⟨g, 1, none⟩ = some (.int .u16 r.f1) := (blk_cell HXr.out 1).trans rfl
              have z2 : wr.cell? ⟨g, 2, none⟩ = some (.int .u16 r.f2) := (blk_cell HXr.out 2).trans rfl
              have z3 : wr.cell? ⟨g, 3, none⟩ = some (.int .u32 r.f3) := (blk_cell HXr.out 3).trans rfl
              have z4 : wr.cell? ⟨g, 4, none⟩ = some (.slice A4 r.f4.length c4) := (blk_cell HXr.out 4).trans rfl
              have z5 : wr.cell? ⟨g, 5, none⟩ = some (.slice A5 r.f5.length c5) := (blk_cell HXr.out 5).trans rfl
              have z6 : wr.cell? ⟨g, 6, none⟩ = some (.slice A6 r.f6.length c6) := (blk_cell HXr.out 6).trans rfl
              cases gk with
              | zero =>
                obtain rfl : k = r.f4.length := by have := HK.out; omega
                have HS2 := Lib.hid (sAcc_end ac r.f4 bytesOf)
                go_wp2
                rw [HS2.out]
                obtain ⟨ac, hac2⟩ : ∃ ac2, ac ++ r.f4.flatMap (bytesOf) = ac2 := ⟨_, rfl⟩
                rw [hac2]
                have HAcc := Lib.hid (show ac.length ≤ 5000000000 by
                  rw [← hac2, List.length_append]
                  have h1 := nums_le r.f5 r.f5.length 4
                  have h1' := nums_le r.f5 r.f5.length 2
                  have h4 := names_le r.f4 r.f4.length
                  rw [List.take_length] at h1 h1' h4
                  have h2 := HF.out.names
                  have h3 := HAcc.out
                  omega)
                have HAq := Lib.hid (hac2.symm.trans (congrArg (fun x => x ++ r.f4.flatMap (bytesOf)) HAq.out))
                clear hac2 HS2
                go_loopg [6, 9] r.f5.length (fun kq v6 v w' => ∃ k : Nat, v = .int .i64 k ∧ v6 = .string (sAcc ac r.f5 (fun n => putL n 4) k) ∧ Aside0 (kq + k = r.f5.length) ∧ Aside0 (Below w1.heap.size w1 w'))
                case atStart => exact ⟨0, rfl, by rw [sAcc_zero], ⟨rfl⟩, HBr⟩
                case round =>
                  clear HBr HXr HBt z0 z1 z2 z3 z4 z5 z6
                  obtain ⟨k, rfl, rfl, HK, HBr⟩ := hrel
                  have HXr := Aside0.mk (blk_below HX.out HBr.out)
                  have HBt := Aside0.mk (HB.out.trans (HBr.out.mono (below_size HB.out)))
                  have z0 : wr.cell? ⟨g, 0, none⟩ = some (.string r.f0) := (blk_cell HXr.out 0).trans rfl
                  have z1 : wr.cell? ⟨g, 1, none⟩ = some (.int .u16 r.f1) := (blk_cell HXr.out 1).trans rfl
                  have z2 : wr.cell? ⟨g, 2, none⟩ = some (.int .u16 r.f2) := (blk_cell HXr.out 2).trans rfl
                  have z3 : wr.cell? ⟨g, 3, none⟩ = some (.int .u32 r.f3) := (blk_cell HXr.out 3).trans rfl
                  have z4 : wr.cell? ⟨g, 4, none⟩ = some (.slice A4 r.f4.length c4) := (blk_cell HXr.out 4).trans rfl
                  have z5 : wr.cell? ⟨g, 5, none⟩ = some (.slice A5 r.f5.length c5) := (blk_cell HXr.out 5).trans rfl
                  have z6 : wr.cell? ⟨g, 6, none⟩ = some (.slice A6 r.f6.length c6) := (blk_cell HXr.out 6).trans rfl
                  cases gk with
                  | zero =>
                    obtain rfl : k = r.f5.length := by have := HK.out; omega
                    have HS2 := Lib.hid (sAcc_end ac r.f5 (fun n => putL n 4))
                    go_wp2
                    rw [HS2.out]
                    obtain ⟨ac, hac2⟩ : ∃ ac2, ac ++ r.f5.flatMap (fun n => putL n 4) = ac2 := ⟨_, rfl⟩
                    rw [hac2]
                    have HAcc := Lib.hid (show ac.length ≤ 9900000000 by
                      rw [← hac2, List.length_append]
                      have h1 := nums_le r.f5 r.f5.length 4
                      have h1' := nums_le r.f5 r.f5.length 2
                      have h4 := names_le r.f4 r.f4.length
                      rw [List.take_length] at h1 h1' h4
                      have h2 := HF.out.names
                      have h3 := HAcc.out
                      omega)
                    have HAq := Lib.hid (hac2.symm.trans (congrArg (fun x => x ++ r.f5.flatMap (fun n => putL n 4)) HAq.out))
                    clear hac2 HS2
                    go_loopg [6, 10] r.f6.length (fun kq v6 v w' => ∃ k : Nat, v = .int .i64 k ∧ v6 = .string (sAcc ac r.f6 (textL r) k) ∧ Aside0 (kq + k = r.f6.length) ∧ Aside0 (Below w1.heap.size w1 w'))
                    case atStart => exact ⟨0, rfl, by rw [sAcc_zero], ⟨rfl⟩, HBr⟩
                    case round =>
                      clear HBr HXr HBt z0 z1 z2 z3 z4 z5 z6
                      obtain ⟨k, rfl, rfl, HK, HBr⟩ := hrel
                      have HXr := Aside0.mk (blk_below HX.out HBr.out)
                      have HBt := Aside0.mk (HB.out.trans (HBr.out.mono (below_size HB.out)))
                      have z0 : wr.cell? ⟨g, 0, none⟩ = some (.string r.f0) := (blk_cell HXr.out 0).trans rfl
                      have z1 : wr.cell? ⟨g, 1, none⟩ = some (.int .u16 r.f1) := (blk_cell HXr.out 1).trans rfl
                      have z2 : wr.cell? ⟨g, 2, none⟩ = some (.int .u16 r.f2) := (blk_cell HXr.out 2).trans rfl
                      have z3 : wr.cell? ⟨g, 3, none⟩ = some (.int .u32 r.f3) := (blk_cell HXr.out 3).trans rfl
                      have z4 : wr.cell? ⟨g, 4, none⟩ = some (.slice A4 r.f4.length c4) := (blk_cell HXr.out 4).trans rfl
                      have z5 : wr.cell? ⟨g, 5, none⟩ = some (.slice A5 r.f5.length c5) := (blk_cell HXr.out 5).trans rfl
                      have z6 : wr.cell? ⟨g, 6, none⟩ = some (.slice A6 r.f6.length c6) := (blk_cell HXr.out 6).trans rfl
                      cases gk with
                      | zero =>
                        obtain rfl : k = r.f6.length := by have := HK.out; omega
                        have HS2 := Lib.hid (sAcc_end ac r.f6 (textL r))
                        go_wp2
                        go_ret2
                        exact ⟨by rw [← HRes.out]; unfold plain5E; rw [if_neg HTot.out, plainL_six K6.out, HS2.out, HAq.out]; simp, HBt.out⟩
                      | succ j =>
                        have hk : k < r.f6.length := by have := HK.out; omega
                        obtain ⟨ad, rfl, hcell⟩ := at_str (Kd.C_below G6.out HBt.out) k hk
                        have q1 : (0 : Int) ≤ (k : Int) := by omega
                        have q2 : (k : Int) < (r.f6.length : Int) := by omega
                        have HE1 := Lib.hid (sAcc_next ac r.f6 (textL r) ⟨#[]⟩ k hk)
                        have htot := txN_le r (k + 1)
                        rw [txN_next r k hk] at htot
                        have HLn := Lib.hid (show (sAcc ac r.f6 (textL r) k).size ≤ 1000000000000 by
                          unfold sAcc
                          rw [strOfNums_size, List.length_append]
                          have h1 := txN_le r k
                          unfold txN at h1
                          have h2 := HTot.out
                          have h3 := HAcc.out
                          omega)
                        obtain ⟨s, hs⟩ : ∃ s, r.f6.getD k ⟨#[]⟩ = s := ⟨_, rfl⟩
                        rw [hs] at HE1 hcell htot
                        obtain ⟨sa, hsa⟩ : ∃ sa, sAcc ac r.f6 (textL r) k = sa := ⟨_, rfl⟩
                        rw [hsa] at HE1 HLn ⊢
                        have HSz := Lib.hid (show s.size ≤ 65535 by have := HTot.out; omega)
                        have q3 : (s.size : Int) ≤ 65535 := by have := HSz.out; omega
                        have hlne : ¬ g = wr.heap.size := Nat.ne_of_lt (blk_lt HXr.out)
                        have hza : ∀ o, (wr.alloc o).cell? ⟨g, 6, none⟩ = some (.slice (some ad) r.f6.length c6) := fun o => pw_cell_below (below_alloc (Below.refl _ _) o) z6
                        have hca : ∀ o, (wr.alloc o).cell? (ad.add k) = some (.string s) := fun o => pw_cell_below (below_alloc (Below.refl _ _) o) hcell
                        clear hs htot hsa
                        by_cases k16 : r.f1 = 16
                        · have e16 : (r.f1 == 16) = true := beq_iff_eq.mpr k16
                          have hu : IntKind.u8.wrap (s.size : Int) = (s.size : Int) % 256 := by rw [IntKind.wrap_u8]
                          have hcv := fun W => one_byte W ((s.size : Int) % 256)
                          have hadd1 := fun W => run_string_add_sum (P := Try.prog) W sa (strOfNums [(s.size : Int) % 256]) (by rw [strOfNums_size]; have := HLn.out; simp; omega)
                          have hadd2 := fun W => run_string_add_sum (P := Try.prog) W (sa ++ strOfNums [(s.size : Int) % 256]) s (by rw [ByteArray.size_append, strOfNums_size]; have := HLn.out; have := HSz.out; simp; omega)
                          have HT := Lib.hid (show sa ++ strOfNums [(s.size : Int) % 256] ++ s = sAcc ac r.f6 (textL r) (k + 1) by
                            rw [← HE1.out]
                            unfold textL
                            rw [if_pos k16, ← str_app, str_of, ByteArray.append_assoc])
                          clear k16
                          go_wp2
                          go_roundg j
                          case measure => omega
                          case rel => exact ⟨k + 1, by go_num, by rw [← HT.out], ⟨by have := HK.out; omega⟩, ⟨below_alloc HBr.out _⟩⟩
                        · have e16 : (r.f1 == 16) = false := beq_eq_false_iff_ne.mpr k16
                          have hadd2 := fun W => run_string_add_sum (P := Try.prog) W sa s (by have := HLn.out; have := HSz.out; omega)
                          have HT := Lib.hid (show sa ++ s = sAcc ac r.f6 (textL r) (k + 1) by
                            rw [← HE1.out]
                            unfold textL
                            rw [if_neg k16, List.nil_append, str_of])
                          clear k16
                          go_wp2
                          go_roundg j
                          case measure => omega
                          case rel => exact ⟨k + 1, by go_num, by rw [← HT.out], ⟨by have := HK.out; omega⟩, HBr⟩
                  | succ j =>
                    have hk : k < r.f5.length := by have := HK.out; omega
                    obtain ⟨ad, rfl, hcell⟩ := at_int (Kd.C_below G5.out HBt.out) k hk
                    have q1 : (0 : Int) ≤ (k : Int) := by omega
                    have q2 : (k : Int) < (r.f5.length : Int) := by omega
                    obtain ⟨n0, n1⟩ := HF.out.wf k hk
                    have HE1 := Lib.hid (sAcc_next ac r.f5 (fun n => putL n 4) 0 k hk)
                    have HLn := Lib.hid (show (sAcc ac r.f5 (fun n => putL n 4) k).size ≤ 1000000000000 by
                      unfold sAcc
                      rw [strOfNums_size, List.length_append]
                      have h1 := nums_le r.f5 k 4
                      have h2 := HF.out.names
                      have h3 := HAcc.out
                      omega)
                    obtain ⟨n, hn⟩ : ∃ n, r.f5.getD k 0 = n := ⟨_, rfl⟩
                    rw [hn] at n0 n1 HE1 hcell
                    clear hn
                    go_wp2_with fail
                    refine (Put5_calls _ n 4 _ HLn.out n0 n1 (by decide)).mono ?_
                    rintro e w' ⟨rfl, hb⟩
                    have HBn := Aside0.mk (HBr.out.trans (hb.mono HBr.out.size))
                    clear hb
                    go_wp2_with fail
                    go_roundg j
                    case measure => omega
                    case rel => exact ⟨k + 1, by go_num, by rw [HE1.out], ⟨by have := HK.out; omega⟩, HBn⟩
              | succ j =>
                have hk : k < r.f4.length := by have := HK.out; omega
                obtain ⟨ad, rfl, hcell⟩ := at_str (Kd.C_below G4.out HBt.out) k hk
                have q1 : (0 : Int) ≤ (k : Int) := by omega
                have q2 : (k : Int) < (r.f4.length : Int) := by omega
                have HE1 := Lib.hid (sAcc_next ac r.f4 bytesOf ⟨#[]⟩ k hk)
                have HSn := Lib.hid (flat_snoc ⟨#[]⟩ bytesOf r.f4 k hk)
                have hsz : (r.f4.getD k ⟨#[]⟩).size ≤ 1000000000 := by
                  have h1 := names_le r.f4 (k + 1)
                  rw [HSn.out, List.length_append, bytesOf_length] at h1
                  have h2 := HF.out.names
                  omega
                have HLn := Lib.hid (show (sAcc ac r.f4 bytesOf k).size ≤ 1000000000000 by
                  unfold sAcc
                  rw [strOfNums_size, List.length_append]
                  have h1 := names_le r.f4 k
                  have h2 := HF.out.names
                  have h3 := HAcc.out
                  omega)
                obtain ⟨s, hs⟩ : ∃ s, r.f4.getD k ⟨#[]⟩ = s := ⟨_, rfl⟩
                rw [hs, str_of] at HE1
                rw [hs] at hcell hsz
                have hadd := fun W => run_string_add_sum (P := Try.prog) W (sAcc ac r.f4 bytesOf k) s (by have := HLn.out; omega)
                clear hs HSn
                go_wp2
                go_roundg j
                case measure => omega
                case rel => exact ⟨k + 1, by go_num, by rw [HE1.out], ⟨by have := HK.out; omega⟩, HBr⟩
      · have K6 := Lib.hid k6
        have e6 : (r.f1 != 6) = true := by rw [bne_iff_ne]; exact k6
        have e7 : (r.f1 == 6) = false := beq_eq_false_iff_ne.mpr k6
        obtain ⟨ac, hac⟩ : ∃ ac : List Int, ac = [] := ⟨_, rfl⟩
        have HAcc := Lib.hid (show ac.length ≤ 10 by rw [hac]; simp)
        have hs0 : (⟨#[]⟩ : ByteArray) = strOfNums ac := by rw [hac]; rfl
        have HS0 := Lib.hid hs0
        have HAq := Lib.hid hac
        clear hac hs0
        clear k6
        go_wp2
        rw [HS0.out]
        go_loopg [6, 7] r.f5.length (fun kq v6 v w' => ∃ k : Nat, v = .int .i64 k ∧ v6 = .string (sAcc ac r.f5 (fun n => putL n 2) k) ∧ Aside0 (kq + k = r.f5.length) ∧ Aside0 (Below w1.heap.size w1 w'))
        case atStart => exact ⟨0, rfl, by rw [sAcc_zero], ⟨rfl⟩, HBr⟩
        case round =>
          clear HBr HXr HBt z0 z1 z2 z3 z4 z5 z6
          obtain ⟨k, rfl, rfl, HK, HBr⟩ := hrel
          have HXr := Aside0.mk (blk_below HX.out HBr.out)
          have HBt := Aside0.mk (HB.out.trans (HBr.out.mono (below_size HB.out)))
          have z0 : wr.cell? ⟨g, 0, none⟩ = some (.string r.f0) := (blk_cell HXr.out 0).trans rfl
          have z1 : wr.cell? ⟨g, 1, none⟩ = some (.int .u16 r.f1) := (blk_cell HXr.out 1).trans rfl
          have z2 : wr.cell? ⟨g, 2, none⟩ = some (.int .u16 r.f2) := (blk_cell HXr.out 2).trans rfl
          have z3 : wr.cell? ⟨g, 3, none⟩ = some (.int .u32 r.f3) := (blk_cell HXr.out 3).trans rfl
          have z4 : wr.cell? ⟨g, 4, none⟩ = some (.slice A4 r.f4.length c4) := (blk_cell HXr.out 4).trans rfl
          have z5 : wr.cell? ⟨g, 5, none⟩ = some (.slice A5 r.f5.length c5) := (blk_cell HXr.out 5).trans rfl
          have z6 : wr.cell? ⟨g, 6, none⟩ = some (.slice A6 r.f6.length c6) := (blk_cell HXr.out 6).trans rfl
          cases gk with
          | zero =>
            obtain rfl : k = r.f5.length := by have := HK.out; omega
            have HS2 := Lib.hid (sAcc_end ac r.f5 (fun n => putL n 2))
            go_wp2
            rw [HS2.out]
            obtain ⟨ac, hac2⟩ : ∃ ac2, ac ++ r.f5.flatMap (fun n => putL n 2) = ac2 := ⟨_, rfl⟩
            rw [hac2]
            have HAcc := Lib.hid (show ac.length ≤ 5000000000 by
              rw [← hac2, List.length_append]
              have h1 := nums_le r.f5 r.f5.length 4
              have h1' := nums_le r.f5 r.f5.length 2
              have h4 := names_le r.f4 r.f4.length
              rw [List.take_length] at h1 h1' h4
              have h2 := HF.out.names
              have h3 := HAcc.out
              omega)
            have HAq := Lib.hid (hac2.symm.trans (congrArg (fun x => x ++ r.f5.flatMap (fun n => putL n 2)) HAq.out))
            clear hac2 HS2
            go_loopg [6, 8] r.f4.length (fun kq v6 v w' => ∃ k : Nat, v = .int .i64 k ∧ v6 = .string (sAcc ac r.f4 (bytesOf) k) ∧ Aside0 (kq + k = r.f4.length) ∧ Aside0 (Below w1.heap.size w1 w'))
            case atStart => exact ⟨0, rfl, by rw [sAcc_zero], ⟨rfl⟩, HBr⟩
            case round =>
              clear HBr HXr HBt z0 z1 z2 z3 z4 z5 z6
              obtain ⟨k, rfl, rfl, HK, HBr⟩ := hrel
              have HXr := Aside0.mk (blk_below HX.out HBr.out)
              have HBt := Aside0.mk (HB.out.trans (HBr.out.mono (below_size HB.out)))
              have z0 : wr.cell? ⟨g, 0, none⟩ = some (.string r.f0) := (blk_cell HXr.out 0).trans rfl
              have z1 : wr.cell? ⟨g, 1, none⟩ = some (.int .u16 r.f1) := (blk_cell HXr.out 1).trans rfl
              have z2 : wr.cell? ⟨g, 2, none⟩ = some (.int .u16 r.f2) := (blk_cell HXr.out 2).trans rfl
              have z3 : wr.cell? ⟨g, 3, none⟩ = some (.int .u32 r.f3) := (blk_cell HXr.out 3).trans rfl
              have z4 : wr.cell? ⟨g, 4, none⟩ = some (.slice A4 r.f4.length c4) := (blk_cell HXr.out 4).trans rfl
              have z5 : wr.cell? ⟨g, 5, none⟩ = some (.slice A5 r.f5.length c5) := (blk_cell HXr.out 5).trans rfl
              have z6 : wr.cell? ⟨g, 6, none⟩ = some (.slice A6 r.f6.length c6) := (blk_cell HXr.out 6).trans rfl
              cases gk with
              | zero =>
                obtain rfl : k = r.f4.length := by have := HK.out; omega
                have HS2 := Lib.hid (sAcc_end ac r.f4 bytesOf)
                go_wp2
                rw [HS2.out]
                obtain ⟨ac, hac2⟩ : ∃ ac2, ac ++ r.f4.flatMap (bytesOf) = ac2 := ⟨_, rfl⟩
                rw [hac2]
                have HAcc := Lib.hid (show ac.length ≤ 9000000000 by
                  rw [← hac2, List.length_append]
                  have h1 := nums_le r.f5 r.f5.length 4
                  have h1' := nums_le r.f5 r.f5.length 2
                  have h4 := names_le r.f4 r.f4.length
                  rw [List.take_length] at h1 h1' h4
                  have h2 := HF.out.names
                  have h3 := HAcc.out
                  omega)
                have HAq := Lib.hid (hac2.symm.trans (congrArg (fun x => x ++ r.f4.flatMap (bytesOf)) HAq.out))
                clear hac2 HS2
                go_loopg [6, 9] 1 (fun kq v6 v w' => v6 = .string (strOfNums ac) ∧ v = .int .i64 0 ∧ Aside0 (Below w1.heap.size w1 w'))
                case atStart => exact ⟨rfl, rfl, HBr⟩
                case round =>
                  clear HBr HXr HBt z0 z1 z2 z3 z4 z5 z6
                  obtain ⟨rfl, rfl, HBr⟩ := hrel
                  have HXr := Aside0.mk (blk_below HX.out HBr.out)
                  have HBt := Aside0.mk (HB.out.trans (HBr.out.mono (below_size HB.out)))
                  have z0 : wr.cell? ⟨g, 0, none⟩ = some (.string r.f0) := (blk_cell HXr.out 0).trans rfl
                  have z1 : wr.cell? ⟨g, 1, none⟩ = some (.int .u16 r.f1) := (blk_cell HXr.out 1).trans rfl
                  have z2 : wr.cell? ⟨g, 2, none⟩ = some (.int .u16 r.f2) := (blk_cell HXr.out 2).trans rfl
                  have z3 : wr.cell? ⟨g, 3, none⟩ = some (.int .u32 r.f3) := (blk_cell HXr.out 3).trans rfl
                  have z4 : wr.cell? ⟨g, 4, none⟩ = some (.slice A4 r.f4.length c4) := (blk_cell HXr.out 4).trans rfl
                  have z5 : wr.cell? ⟨g, 5, none⟩ = some (.slice A5 r.f5.length c5) := (blk_cell HXr.out 5).trans rfl
                  have z6 : wr.cell? ⟨g, 6, none⟩ = some (.slice A6 r.f6.length c6) := (blk_cell HXr.out 6).trans rfl
                  by_cases c0 : 0 < r.f5.length
                  · have c1 : decide ((0 : Int) < (r.f5.length : Int)) = true := decide_eq_true (by omega)
                    have c2 : decide (0 < r.f5.length) = true := decide_eq_true c0
                    clear c0
                    go_wp2
                    go_loopg [6, 10] r.f6.length (fun kq v6 v w' => ∃ k : Nat, v = .int .i64 k ∧ v6 = .string (sAcc ac r.f6 (textL r) k) ∧ Aside0 (kq + k = r.f6.length) ∧ Aside0 (Below w1.heap.size w1 w'))
                    case atStart => exact ⟨0, rfl, by rw [sAcc_zero], ⟨rfl⟩, HBr⟩
                    case round =>
                      clear HBr HXr HBt z0 z1 z2 z3 z4 z5 z6
                      obtain ⟨k, rfl, rfl, HK, HBr⟩ := hrel
                      have HXr := Aside0.mk (blk_below HX.out HBr.out)
                      have HBt := Aside0.mk (HB.out.trans (HBr.out.mono (below_size HB.out)))
                      have z0 : wr.cell? ⟨g, 0, none⟩ = some (.string r.f0) := (blk_cell HXr.out 0).trans rfl
                      have z1 : wr.cell? ⟨g, 1, none⟩ = some (.int .u16 r.f1) := (blk_cell HXr.out 1).trans rfl
                      have z2 : wr.cell? ⟨g, 2, none⟩ = some (.int .u16 r.f2) := (blk_cell HXr.out 2).trans rfl
                      have z3 : wr.cell? ⟨g, 3, none⟩ = some (.int .u32 r.f3) := (blk_cell HXr.out 3).trans rfl
                      have z4 : wr.cell? ⟨g, 4, none⟩ = some (.slice A4 r.f4.length c4) := (blk_cell HXr.out 4).trans rfl
                      have z5 : wr.cell? ⟨g, 5, none⟩ = some (.slice A5 r.f5.length c5) := (blk_cell HXr.out 5).trans rfl
                      have z6 : wr.cell? ⟨g, 6, none⟩ = some (.slice A6 r.f6.length c6) := (blk_cell HXr.out 6).trans rfl
                      cases gk with
                      | zero =>
                        obtain rfl : k = r.f6.length := by have := HK.out; omega
                        have HS2 := Lib.hid (sAcc_end ac r.f6 (textL r))
                        go_wp2
                        go_ret2
                        exact ⟨by rw [← HRes.out]; unfold plain5E; rw [if_neg HTot.out, plainL_not K6.out, HS2.out, HAq.out]; simp, HBt.out⟩
                      | succ j =>
                        have hk : k < r.f6.length := by have := HK.out; omega
                        obtain ⟨ad, rfl, hcell⟩ := at_str (Kd.C_below G6.out HBt.out) k hk
                        have q1 : (0 : Int) ≤ (k : Int) := by omega
                        have q2 : (k : Int) < (r.f6.length : Int) := by omega
                        have HE1 := Lib.hid (sAcc_next ac r.f6 (textL r) ⟨#[]⟩ k hk)
                        have htot := txN_le r (k + 1)
                        rw [txN_next r k hk] at htot
                        have HLn := Lib.hid (show (sAcc ac r.f6 (textL r) k).size ≤ 1000000000000 by
                          unfold sAcc
                          rw [strOfNums_size, List.length_append]
                          have h1 := txN_le r k
                          unfold txN at h1
                          have h2 := HTot.out
                          have h3 := HAcc.out
                          omega)
                        obtain ⟨s, hs⟩ : ∃ s, r.f6.getD k ⟨#[]⟩ = s := ⟨_, rfl⟩
                        rw [hs] at HE1 hcell htot
                        obtain ⟨sa, hsa⟩ : ∃ sa, sAcc ac r.f6 (textL r) k = sa := ⟨_, rfl⟩
                        rw [hsa] at HE1 HLn ⊢
                        have HSz := Lib.hid (show s.size ≤ 65535 by have := HTot.out; omega)
                        have q3 : (s.size : Int) ≤ 65535 := by have := HSz.out; omega
                        have hlne : ¬ g = wr.heap.size := Nat.ne_of_lt (blk_lt HXr.out)
                        have hza : ∀ o, (wr.alloc o).cell? ⟨g, 6, none⟩ = some (.slice (some ad) r.f6.length c6) := fun o => pw_cell_below (below_alloc (Below.refl _ _) o) z6
                        have hca : ∀ o, (wr.alloc o).cell? (ad.add k) = some (.string s) := fun o => pw_cell_below (below_alloc (Below.refl _ _) o) hcell
                        clear hs htot hsa
                        by_cases k16 : r.f1 = 16
                        · have e16 : (r.f1 == 16) = true := beq_iff_eq.mpr k16
                          have hu : IntKind.u8.wrap (s.size : Int) = (s.size : Int) % 256 := by rw [IntKind.wrap_u8]
                          have hcv := fun W => one_byte W ((s.size : Int) % 256)
                          have hadd1 := fun W => run_string_add_sum (P := Try.prog) W sa (strOfNums [(s.size : Int) % 256]) (by rw [strOfNums_size]; have := HLn.out; simp; omega)
                          have hadd2 := fun W => run_string_add_sum (P := Try.prog) W (sa ++ strOfNums [(s.size : Int) % 256]) s (by rw [ByteArray.size_append, strOfNums_size]; have := HLn.out; have := HSz.out; simp; omega)
                          have HT := Lib.hid (show sa ++ strOfNums [(s.size : Int) % 256] ++ s = sAcc ac r.f6 (textL r) (k + 1) by
                            rw [← HE1.out]
                            unfold textL
                            rw [if_pos k16, ← str_app, str_of, ByteArray.append_assoc])
                          clear k16
                          go_wp2
                          go_roundg j
                          case measure => omega
                          case rel => exact ⟨k + 1, by go_num, by rw [← HT.out], ⟨by have := HK.out; omega⟩, ⟨below_alloc HBr.out _⟩⟩
                        · have e16 : (r.f1 == 16) = false := beq_eq_false_iff_ne.mpr k16
                          have hadd2 := fun W => run_string_add_sum (P := Try.prog) W sa s (by have := HLn.out; have := HSz.out; omega)
                          have HT := Lib.hid (show sa ++ s = sAcc ac r.f6 (textL r) (k + 1) by
                            rw [← HE1.out]
                            unfold textL
                            rw [if_neg k16, List.nil_append, str_of])
                          clear k16
                          go_wp2
                          go_roundg j
                          case measure => omega
                          case rel => exact ⟨k + 1, by go_num, by rw [← HT.out], ⟨by have := HK.out; omega⟩, HBr⟩
                  · have c1 : decide ((0 : Int) < (r.f5.length : Int)) = false := decide_eq_false (by omega)
                    have c2 : decide (0 < r.f5.length) = false := decide_eq_false c0
                    clear c0
                    go_wp2
                    go_loopg [6, 10] r.f6.length (fun kq v6 v w' => ∃ k : Nat, v = .int .i64 k ∧ v6 = .string (sAcc ac r.f6 (textL r) k) ∧ Aside0 (kq + k = r.f6.length) ∧ Aside0 (Below w1.heap.size w1 w'))
                    case atStart => exact ⟨0, rfl, by rw [sAcc_zero], ⟨rfl⟩, HBr⟩
                    case round =>
                      clear HBr HXr HBt z0 z1 z2 z3 z4 z5 z6
                      obtain ⟨k, rfl, rfl, HK, HBr⟩ := hrel
                      have HXr := Aside0.mk (blk_below HX.out HBr.out)
                      have HBt := Aside0.mk (HB.out.trans (HBr.out.mono (below_size HB.out)))
                      have z0 : wr.cell? ⟨g, 0, none⟩ = some (.string r.f0) := (blk_cell HXr.out 0).trans rfl
                      have z1 : wr.cell? ⟨g, 1, none⟩ = some (.int .u16 r.f1) := (blk_cell HXr.out 1).trans rfl
                      have z2 : wr.cell? ⟨g, 2, none⟩ = some (.int .u16 r.f2) := (blk_cell HXr.out 2).trans rfl
                      have z3 : wr.cell? ⟨g, 3, none⟩ = some (.int .u32 r.f3) := (blk_cell HXr.out 3).trans rfl
                      have z4 : wr.cell? ⟨g, 4, none⟩ = some (.slice A4 r.f4.length c4) := (blk_cell HXr.out 4).trans rfl
                      have z5 : wr.cell? ⟨g, 5, none⟩ = some (.slice A5 r.f5.length c5) := (blk_cell HXr.out 5).trans rfl
                      have z6 : wr.cell? ⟨g, 6, none⟩ = some (.slice A6 r.f6.length c6) := (blk_cell HXr.out 6).trans rfl
                      cases gk with
                      | zero =>
                        obtain rfl : k = r.f6.length := by have := HK.out; omega
                        have HS2 := Lib.hid (sAcc_end ac r.f6 (textL r))
                        go_wp2
                        go_ret2
                        exact ⟨by rw [← HRes.out]; unfold plain5E; rw [if_neg HTot.out, plainL_not K6.out, HS2.out, HAq.out]; simp, HBt.out⟩
                      | succ j =>
                        have hk : k < r.f6.length := by have := HK.out; omega
                        obtain ⟨ad, rfl, hcell⟩ := at_str (Kd.C_below G6.out HBt.out) k hk
                        have q1 : (0 : Int) ≤ (k : Int) := by omega
                        have q2 : (k : Int) < (r.f6.length : Int) := by omega
                        have HE1 := Lib.hid (sAcc_next ac r.f6 (textL r) ⟨#[]⟩ k hk)
                        have htot := txN_le r (k + 1)
                        rw [txN_next r k hk] at htot
                        have HLn := Lib.hid (show (sAcc ac r.f6 (textL r) k).size ≤ 1000000000000 by
                          unfold sAcc
                          rw [strOfNums_size, List.length_append]
                          have h1 := txN_le r k
                          unfold txN at h1
                          have h2 := HTot.out
                          have h3 := HAcc.out
                          omega)
                        obtain ⟨s, hs⟩ : ∃ s, r.f6.getD k ⟨#[]⟩ = s := ⟨_, rfl⟩
                        rw [hs] at HE1 hcell htot
                        obtain ⟨sa, hsa⟩ : ∃ sa, sAcc ac r.f6 (textL r) k = sa := ⟨_, rfl⟩
                        rw [hsa] at HE1 HLn ⊢
                        have HSz := Lib.hid (show s.size ≤ 65535 by have := HTot.out; omega)
                        have q3 : (s.size : Int) ≤ 65535 := by have := HSz.out; omega
                        have hlne : ¬ g = wr.heap.size := Nat.ne_of_lt (blk_lt HXr.out)
                        have hza : ∀ o, (wr.alloc o).cell? ⟨g, 6, none⟩ = some (.slice (some ad) r.f6.length c6) := fun o => pw_cell_below (below_alloc (Below.refl _ _) o) z6
                        have hca : ∀ o, (wr.alloc o).cell? (ad.add k) = some (.string s) := fun o => pw_cell_below (below_alloc (Below.refl _ _) o) hcell
                        clear hs htot hsa
                        by_cases k16 : r.f1 = 16
                        · have e16 : (r.f1 == 16) = true := beq_iff_eq.mpr k16
                          have hu : IntKind.u8.wrap (s.size : Int) = (s.size : Int) % 256 := by rw [IntKind.wrap_u8]
                          have hcv := fun W => one_byte W ((s.size : Int) % 256)
                          have hadd1 := fun W => run_string_add_sum (P := Try.prog) W sa (strOfNums [(s.size : Int) % 256]) (by rw [strOfNums_size]; have := HLn.out; simp; omega)
                          have hadd2 := fun W => run_string_add_sum (P := Try.prog) W (sa ++ strOfNums [(s.size : Int) % 256]) s (by rw [ByteArray.size_append, strOfNums_size]; have := HLn.out; have := HSz.out; simp; omega)
                          have HT := Lib.hid (show sa ++ strOfNums [(s.size : Int) % 256] ++ s = sAcc ac r.f6 (textL r) (k + 1) by
                            rw [← HE1.out]
                            unfold textL
                            rw [if_pos k16, ← str_app, str_of, ByteArray.append_assoc])
                          clear k16
                          go_wp2
                          go_roundg j
                          case measure => omega
                          case rel => exact ⟨k + 1, by go_num, by rw [← HT.out], ⟨by have := HK.out; omega⟩, ⟨below_alloc HBr.out _⟩⟩
                        · have e16 : (r.f1 == 16) = false := beq_eq_false_iff_ne.mpr k16
                          have hadd2 := fun W => run_string_add_sum (P := Try.prog) W sa s (by have := HLn.out; have := HSz.out; omega)
                          have HT := Lib.hid (show sa ++ s = sAcc ac r.f6 (textL r) (k + 1) by
                            rw [← HE1.out]
                            unfold textL
                            rw [if_neg k16, List.nil_append, str_of])
                          clear k16
                          go_wp2
                          go_roundg j
                          case measure => omega
                          case rel => exact ⟨k + 1, by go_num, by rw [← HT.out], ⟨by have := HK.out; omega⟩, HBr⟩
              | succ j =>
                have hk : k < r.f4.length := by have := HK.out; omega
                obtain ⟨ad, rfl, hcell⟩ := at_str (Kd.C_below G4.out HBt.out) k hk
                have q1 : (0 : Int) ≤ (k : Int) := by omega
                have q2 : (k : Int) < (r.f4.length : Int) := by omega
                have HE1 := Lib.hid (sAcc_next ac r.f4 bytesOf ⟨#[]⟩ k hk)
                have HSn := Lib.hid (flat_snoc ⟨#[]⟩ bytesOf r.f4 k hk)
                have hsz : (r.f4.getD k ⟨#[]⟩).size ≤ 1000000000 := by
                  have h1 := names_le r.f4 (k + 1)
                  rw [HSn.out, List.length_append, bytesOf_length] at h1
                  have h2 := HF.out.names
                  omega
                have HLn := Lib.hid (show (sAcc ac r.f4 bytesOf k).size ≤ 1000000000000 by
                  unfold sAcc
                  rw [strOfNums_size, List.length_append]
                  have h1 := names_le r.f4 k
                  have h2 := HF.out.names
                  have h3 := HAcc.out
                  omega)
                obtain ⟨s, hs⟩ : ∃ s, r.f4.getD k ⟨#[]⟩ = s := ⟨_, rfl⟩
                rw [hs, str_of] at HE1
                rw [hs] at hcell hsz
                have hadd := fun W => run_string_add_sum (P := Try.prog) W (sAcc ac r.f4 bytesOf k) s (by have := HLn.out; omega)
                clear hs HSn
                go_wp2
                go_roundg j
                case measure => omega
                case rel => exact ⟨k + 1, by go_num, by rw [HE1.out], ⟨by have := HK.out; omega⟩, HBr⟩
          | succ j =>
            have hk : k < r.f5.length := by have := HK.out; omega
            obtain ⟨ad, rfl, hcell⟩ := at_int (Kd.C_below G5.out HBt.out) k hk
            have q1 : (0 : Int) ≤ (k : Int) := by omega
            have q2 : (k : Int) < (r.f5.length : Int) := by omega
            obtain ⟨n0, n1⟩ := HF.out.wf k hk
            have HE1 := Lib.hid (sAcc_next ac r.f5 (fun n => putL n 2) 0 k hk)
            have HLn := Lib.hid (show (sAcc ac r.f5 (fun n => putL n 2) k).size ≤ 1000000000000 by
              unfold sAcc
              rw [strOfNums_size, List.length_append]
              have h1 := nums_le r.f5 k 2
              have h2 := HF.out.names
              have h3 := HAcc.out
              omega)
            obtain ⟨n, hn⟩ : ∃ n, r.f5.getD k 0 = n := ⟨_, rfl⟩
            rw [hn] at n0 n1 HE1 hcell
            clear hn
            go_wp2_with fail
            refine (Put5_calls _ n 2 _ HLn.out n0 n1 (by decide)).mono ?_
            rintro e w' ⟨rfl, hb⟩
            have HBn := Aside0.mk (HBr.out.trans (hb.mono HBr.out.size))
            clear hb
            go_wp2_with fail
            go_roundg j
            case measure => omega
            case rel => exact ⟨k + 1, by go_num, by rw [HE1.out], ⟨by have := HK.out; omega⟩, HBn⟩
    | succ j =>
      have hk : k < r.f6.length := by have := HK.out; omega
      obtain ⟨ad, rfl, hcell⟩ := at_str (Kd.C_below G6.out HB.out) k hk
      have q1 : (0 : Int) ≤ (k : Int) := by omega
      have q2 : (k : Int) < (r.f6.length : Int) := by omega
      have hnx := txN_next r k hk
      have htl := txN_le r (k + 1)
      have hfl := HF.out.texts k hk
      obtain ⟨s, hs⟩ : ∃ s, r.f6.getD k ⟨#[]⟩ = s := ⟨_, rfl⟩
      rw [hs] at hcell hnx hfl
      obtain ⟨tk, htk⟩ : ∃ tk, txN r k = tk := ⟨_, rfl⟩
      have hT : tk ≤ 65535 := by have := HT.out; omega
      rw [htk] at hnx ⊢
      have q3 : (tk : Int) ≤ 65535 := by omega
      have q4 : (s.size : Int) ≤ 1000000000 := by omega
      clear hs htk hfl HT
      by_cases k16 : r.f1 = 16
      · have e16 : (r.f1 == 16) = true := beq_iff_eq.mpr k16
        rw [if_pos k16] at hnx
        by_cases kb : 65535 < tk + (s.size + 1)
        · have d1 : decide ((65535 : Int) < (tk : Int) + (s.size : Int) + 1) = true := decide_eq_true (by omega)
          have HF2 := Lib.hid (show R = .returned (.tuple #[.string ⟨#[]⟩, .bool false]) by rw [← HRes.out]; unfold plain5E; rw [if_pos (by omega)])
          clear hnx htl kb k16
          go_wp2
          go_ret2
          exact ⟨HF2.out.symm, HB.out⟩
        · have d1 : decide ((65535 : Int) < (tk : Int) + (s.size : Int) + 1) = false := decide_eq_false (by omega)
          have HNx := Lib.hid hnx
          clear hnx htl k16
          go_wp2
          go_roundg j
          case measure => omega
          case rel => exact ⟨k + 1, by go_num, by rw [HNx.out]; go_num, ⟨by have := HK.out; omega⟩, ⟨by rw [HNx.out]; omega⟩, rfl⟩
      · have e16 : (r.f1 == 16) = false := beq_eq_false_iff_ne.mpr k16
        rw [if_neg k16] at hnx
        by_cases kb : 65535 < tk + s.size
        · have d1 : decide ((65535 : Int) < (tk : Int) + (s.size : Int)) = true := decide_eq_true (by omega)
          have HF2 := Lib.hid (show R = .returned (.tuple #[.string ⟨#[]⟩, .bool false]) by rw [← HRes.out]; unfold plain5E; rw [if_pos (by omega)])
          clear hnx htl kb k16
          go_wp2
          go_ret2
          exact ⟨HF2.out.symm, HB.out⟩
        · have d1 : decide ((65535 : Int) < (tk : Int) + (s.size : Int)) = false := decide_eq_false (by omega)
          have HNx := Lib.hid hnx
          clear hnx htl k16
          go_wp2
          go_roundg j
          case measure => omega
          case rel => exact ⟨k + 1, by go_num, by rw [HNx.out]; go_num, ⟨by have := HK.out; omega⟩, ⟨by rw [HNx.out]; omega⟩, rfl⟩
end Go.Proofs.Ytbbeikdbioelgaa.M
