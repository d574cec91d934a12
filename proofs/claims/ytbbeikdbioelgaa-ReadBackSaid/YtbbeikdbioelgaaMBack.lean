/- Walk of nunciolaw06.ReadBack, over its plain law. -/
import Derived.Test.YtbbeikdbioelgaaMAwake6
import Derived.Test.YtbbeikdbioelgaaMRefIs
import Derived.Laws.Concat
set_option linter.unusedVariables false
set_option linter.unusedSimpArgs false
namespace Go.Proofs.Ytbbeikdbioelgaa.M
open Go.RowKit Go.Maps Go.Proofs.YtbbeikdbioelgaaW.PrintWords Go.Proofs.YtbbeikdbioelgaaW.PrintLast Go.Proofs.YtbbeikdbioelgaaW.PrintMore
attribute [local go_sem] max2_int min2_int max_two min_two max_three min_three max_four min_four
attribute [local go_sem ↓] Go.wp_at_zero Go.wp_at_succ
/-- A pointer's two bytes. -/
def ptrB (a : Nat) : ByteArray := strOfNums [192 + (a : Int) / 256, (a : Int) % 256]
/-- The plain law: a name is read as it stands, and by a pointer; a pointer to itself is none. -/
structure BackLaw : Prop where
  here : ∀ (ah nm mo : ByteArray), ah.size ≤ 10000 → isName nm = true → nameAt (ah ++ nm ++ ptrB ah.size ++ mo) ah.size = .ok (bytesOf nm, (ah.size : Int) + nm.size)
  ptr : ∀ (ah nm mo : ByteArray), ah.size ≤ 10000 → isName nm = true → nameAt (ah ++ nm ++ ptrB ah.size ++ mo) ((ah.size : Int) + nm.size) = .ok (bytesOf nm, (ah.size : Int) + nm.size + 2)
  loop : ∀ (ah mo : ByteArray), ah.size ≤ 10000 → nameAt (ah ++ ptrB ah.size ++ mo) ah.size = .error 42
theorem two_bytes (W : World) (x y : Int) : (convert 57 9 (.slice (some ⟨W.heap.size, 0, none⟩) 2 2)).run Try.prog (W.alloc (.cells #[.int .u8 x, .int .u8 y] 5 (0, 0))) = .ok (.string (strOfNums [x, y])) (W.alloc (.cells #[.int .u8 x, .int .u8 y] 5 (0, 0))) := by
  refine run_convert_bytes_arg (P := Try.prog) _ 57 5 Try.underlying57 Try.underlying5 W.heap.size 0 2 2 [x, y] rfl ?_ 9 Try.underlying9
  intro i hi
  have hb := blk_new W (.cells #[.int .u8 x, .int .u8 y] 5 (0, 0))
  match i, hi with
  | 0, _ => exact (blk_cell hb 0).trans rfl
  | 1, _ => exact (blk_cell hb 1).trans rfl
theorem str_bytes (s : ByteArray) : strOfNums (bytesOf s) = s := by
  apply ByteArray.ext
  apply Array.toList_inj.1
  rw [strOfNums_data]
  unfold bytesOf
  rw [List.map_map]
  conv => rhs; rw [← List.map_id s.data.toList]
  apply List.map_congr_left
  intro b _
  simp
set_option maxHeartbeats 4000000 in
set_option maxRecDepth 100000 in
theorem back_calls (H : BackLaw) (s n t : ByteArray) (w : World) (hn : n.size ≤ 140737488351232) :
    Calls Try.prog 9 #[.string s, .string n, .string t] w fun e w' => e = .returned (.bool true) ∧ Below w.heap.size w w' := by
  have HL := Aside0.mk H
  clear H
  by_cases h1 : 10000 < s.size
  · have d1 : decide ((10000 : Int) < (s.size : Int)) = true := decide_eq_true (by omega)
    have d2 : decide (10000 < s.size) = true := decide_eq_true h1
    clear h1
    go_enter Try.func9, Try.ntmps9
    go_wp2_with fail
    refine (awake6_calls _).mono ?_
    rintro e w1 ⟨rfl, hb⟩
    have HB := Aside0.mk hb
    clear hb
    go_wp2_with fail
    go_ret
    exact ⟨rfl, HB.out⟩
  have d1 : decide ((10000 : Int) < (s.size : Int)) = false := decide_eq_false (by omega)
  have d2 : decide (10000 < s.size) = false := decide_eq_false h1
  by_cases h2 : 1000 < t.size
  · have d3 : decide ((1000 : Int) < (t.size : Int)) = true := decide_eq_true (by omega)
    have d4 : decide (1000 < t.size) = true := decide_eq_true h2
    clear h2 h1
    go_enter Try.func9, Try.ntmps9
    go_wp2_with fail
    refine (awake6_calls _).mono ?_
    rintro e w1 ⟨rfl, hb⟩
    have HB := Aside0.mk hb
    clear hb
    go_wp2_with fail
    go_ret
    exact ⟨rfl, HB.out⟩
  have d3 : decide ((1000 : Int) < (t.size : Int)) = false := decide_eq_false (by omega)
  have d4 : decide (1000 < t.size) = false := decide_eq_false h2
  have HS := Lib.hid (show s.size ≤ 10000 ∧ t.size ≤ 1000 by omega)
  clear h2 h1
  by_cases h3 : isName n = true
  case neg =>
    have h3 := Bool.eq_false_iff.mpr h3
    have H3 := Lib.hid h3
    clear h3
    go_enter Try.func9, Try.ntmps9
    go_wp2_with fail
    refine (awake6_calls _).mono ?_
    rintro e w1 ⟨rfl, hb⟩
    have HB := Aside0.mk hb
    clear hb
    go_wp2_with fail
    refine (refIs_calls n _ hn).mono ?_
    rw [H3.out]
    rintro e w2 ⟨rfl, hb⟩
    have HB2 := Aside0.mk (below_step HB.out hb)
    clear hb
    go_wp2_with fail
    go_ret
    exact ⟨rfl, HB2.out⟩
  have H3 := Lib.hid h3
  have HN := Lib.hid (show n.size ≤ 255 from by
    unfold isName split at h3
    by_cases hb : 255 < n.size
    · rw [if_pos hb] at h3; exact absurd h3 (by decide)
    · omega)
  clear h3
  have ha1 := fun W => run_string_add_sum (P := Try.prog) W s n (by have := HS.out; have := HN.out; omega)
  have ha2 := fun W => run_string_add_sum (P := Try.prog) W (s ++ n) (ptrB s.size) (by have := HS.out; have := HN.out; rw [ByteArray.size_append]; simp only [ptrB, strOfNums_size, List.length_cons, List.length_nil]; omega)
  have ha3 := fun W => run_string_add_sum (P := Try.prog) W (s ++ n ++ ptrB s.size) t (by have := HS.out; have := HN.out; rw [ByteArray.size_append, ByteArray.size_append]; simp only [ptrB, strOfNums_size, List.length_cons, List.length_nil]; omega)
  have ha4 := fun W => run_string_add_sum (P := Try.prog) W s (ptrB s.size) (by have := HS.out; simp only [ptrB, strOfNums_size, List.length_cons, List.length_nil]; omega)
  have ha5 := fun W => run_string_add_sum (P := Try.prog) W (s ++ ptrB s.size) t (by have := HS.out; rw [ByteArray.size_append]; simp only [ptrB, strOfNums_size, List.length_cons, List.length_nil]; omega)
  have q1 : (s.size : Int) ≤ 10000 := by have := HS.out; omega
  have q2 : IntKind.u8.wrap (192 + (s.size : Int) / 256) = 192 + (s.size : Int) / 256 := by rw [IntKind.wrap_u8]; omega
  have q3 : IntKind.u8.wrap ((s.size : Int) % 256) = (s.size : Int) % 256 := by rw [IntKind.wrap_u8]; omega
  have q4 : (n.size : Int) ≤ 255 := by have := HN.out; omega
  have hcv := fun W => two_bytes W (192 + (s.size : Int) / 256) ((s.size : Int) % 256)
  have hpt : strOfNums [192 + (s.size : Int) / 256, (s.size : Int) % 256] = ptrB s.size := rfl
  go_enter Try.func9, Try.ntmps9
  go_wp2_with fail
  refine (awake6_calls _).mono ?_
  rintro e w1 ⟨rfl, hb⟩
  have HB := Aside0.mk hb
  clear hb
  go_wp2_with fail
  refine (refIs_calls n _ hn).mono ?_
  rw [H3.out]
  rintro e w2 ⟨rfl, hb⟩
  have HB2 := Aside0.mk (below_step HB.out hb)
  clear hb
  go_wp2_with fail
  have hbig : (s ++ n ++ ptrB s.size ++ t).size ≤ 1000000 := by have := HS.out; have := HN.out; rw [ByteArray.size_append, ByteArray.size_append, ByteArray.size_append]; simp only [ptrB, strOfNums_size, List.length_cons, List.length_nil]; omega
  have HBig := Lib.hid hbig
  have HB3 := Aside0.mk (below_alloc HB2.out (.cells #[.int .u8 (192 + (s.size : Int) / 256), .int .u8 ((s.size : Int) % 256)] 5 (0, 0)))
  clear hbig
  refine (Name_calls _ s.size _ HBig.out (by omega) (by omega)).mono ?_
  rw [HL.out.here s n t HS.out.1 H3.out, nameT, str_bytes]
  rintro e w3 ⟨rfl, hb⟩
  have HB4 := Aside0.mk (below_step HB3.out hb)
  clear hb HB HB2 HB3
  go_wp2_with fail
  refine (Name_calls _ ((s.size : Int) + n.size) _ HBig.out (by omega) (by omega)).mono ?_
  rw [HL.out.ptr s n t HS.out.1 H3.out, nameT, str_bytes]
  rintro e w4 ⟨rfl, hb⟩
  have HB5 := Aside0.mk (below_step HB4.out hb)
  have hnt : (n.toList != n.toList) = false := by rw [bne_eq_false_iff_eq]
  clear hb HB4
  go_wp2_with fail
  have HB6 := Aside0.mk (below_alloc HB5.out (.cells #[.int .u8 (192 + (s.size : Int) / 256), .int .u8 ((s.size : Int) % 256)] 5 (0, 0)))
  have hbig : (s ++ ptrB s.size ++ t).size ≤ 1000000 := by have := HS.out; rw [ByteArray.size_append, ByteArray.size_append]; simp only [ptrB, strOfNums_size, List.length_cons, List.length_nil]; omega
  have HBig2 := Lib.hid hbig
  clear hbig HB5
  refine (Name_calls _ s.size _ HBig2.out (by omega) (by omega)).mono ?_
  rw [HL.out.loop s t HS.out.1, nameT]
  rintro e w5 ⟨rfl, hb⟩
  have HB7 := Aside0.mk (below_step HB6.out hb)
  clear hb HB6
  go_wp2_with fail
  go_ret
  exact ⟨rfl, HB7.out⟩
/-- The same, as the row asks for it. -/
theorem back_row (H : BackLaw) (W : World) (s : ByteArray) (hs : s.size ≤ 140737488351232) (n : ByteArray) (hn : n.size ≤ 140737488351232) (t : ByteArray) (ht : t.size ≤ 140737488351232) :
    Calls Try.prog 9 #[.string s, .string n, .string t] W fun e w' => e = .returned (.bool true) ∧ Below W.heap.size W w' := back_calls H s n t W hn
end Go.Proofs.Ytbbeikdbioelgaa.M
