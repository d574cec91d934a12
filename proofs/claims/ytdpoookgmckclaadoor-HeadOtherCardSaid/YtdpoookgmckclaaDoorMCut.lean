/- Walks of the library's Cut at one sign. -/
import Derived.Test.YtdpoookgmckclaaDoorMTStr
import Derived.Test.YtdpoookgmckclaaDoorMJDraw
import Derived.Test.YtdpoookgmckclaaDoorMShelf
set_option linter.unusedVariables false
set_option linter.unusedSimpArgs false
namespace Go.Proofs.YtdpoookgmckclaaDoor.M
open Go.RowKit Go.Maps Go.Proofs.YtdpoookgmckclaaDoorW.PrintWords Go.Proofs.YtdpoookgmckclaaDoorW.PrintLast Go.Proofs.YtdpoookgmckclaaDoorW.PrintMore
attribute [local go_sem] max2_int min2_int max_two min_two max_three min_three max_four min_four
attribute [local go_sem ↓] Go.wp_at_zero Go.wp_at_succ
def headI (l : List Int) (d : Int) : List Int := l.takeWhile (· != d)
def tailI (l : List Int) (d : Int) : List Int := l.drop ((headI l d).length + 1)
theorem index_at (l : List UInt8) (c : UInt8) : Lib.indexByte l c = if (l.map fun b => (b.toNat : Int)).contains (c.toNat : Int) then ((headI (l.map fun b => (b.toNat : Int)) c.toNat).length : Int) else -1 := by
  induction l with
  | nil => rfl
  | cons b l ih =>
    unfold Lib.indexByte
    rw [ih]
    have he : ((b.toNat : Int) == (c.toNat : Int)) = (b == c) := by
      rw [Bool.eq_iff_iff, beq_iff_eq, beq_iff_eq]
      exact ⟨fun h => UInt8.toNat_inj.mp (by omega), fun h => by rw [h]⟩
    have he2 : ((c.toNat : Int) == (b.toNat : Int)) = (b == c) := by rw [← he, Bool.eq_iff_iff, beq_iff_eq, beq_iff_eq]; exact eq_comm
    simp only [List.map_cons, List.contains_cons, headI, List.takeWhile_cons, bne, he, he2]
    cases hb : (b == c) with
    | true => simp
    | false =>
      simp only [Bool.false_or, Bool.not_false, if_true, Bool.false_eq_true, if_false]
      split
      · rename_i h
        simp only [headI, bne] at *
        simp
        try omega
      · rfl
theorem head_len (l : List Int) (d : Int) (h : l.contains d = true) : (headI l d).length < l.length := by
  induction l with
  | nil => exact absurd h (by simp)
  | cons a l ih =>
    unfold headI
    rw [List.takeWhile_cons]
    by_cases ha : a = d
    · rw [ha]
      simp
    · rw [if_pos (by simpa using ha)]
      rw [List.contains_cons] at h
      have := ih (by simpa [beq_eq_false_iff_ne.mpr (Ne.symm ha)] using h)
      simp only [headI] at this
      simp
      exact this
theorem head_take (l : List Int) (d : Int) : headI l d = l.take (headI l d).length := by
  induction l with
  | nil => rfl
  | cons a l ih =>
    unfold headI
    rw [List.takeWhile_cons]
    split
    · rw [List.length_cons, List.take_succ_cons]
      congr 1
    · rfl
theorem head_none {l : List Int} {d : Int} (h : l.contains d = false) : headI l d = l := by
  induction l with
  | nil => rfl
  | cons a l ih =>
    rw [List.contains_cons, Bool.or_eq_false_iff] at h
    unfold headI
    rw [List.takeWhile_cons, if_pos (by have := h.1; simp at this ⊢; exact Ne.symm this)]
    congr 1
    exact ih h.2
/-- What a cut at a sign gives. -/
def cutE (s : ByteArray) (d : Int) : Value := if (bytesOf s).contains d then .tuple #[.string (strOfNums (headI (bytesOf s) d)), .string (strOfNums (tailI (bytesOf s) d)), .bool true] else .tuple #[.string s, .string ⟨#[]⟩, .bool false]
set_option maxHeartbeats 4000000 in
set_option maxRecDepth 100000 in
theorem cutLite_calls (s : ByteArray) (c : UInt8) (w : World) (hs : s.size ≤ 1000000000000) :
    Calls Tryd.prog 46 #[.string s, .string ⟨#[c]⟩] w fun e w' => e = .returned (cutE s c.toNat) ∧ Below w.heap.size w w' := by
  have HB := Aside0.mk (Below.refl w.heap.size w)
  obtain ⟨V, hV⟩ : ∃ V, cutE s c.toNat = V := ⟨_, rfl⟩
  rw [hV]
  unfold cutE at hV
  obtain ⟨i, hi⟩ : ∃ i, Lib.indexByte s.data.toList c = i := ⟨_, rfl⟩
  have hx0 := index_at s.data.toList c
  rw [hi] at hx0
  have q3 : (s.size : Int) ≤ 1000000000000 := by omega
  cases hc : (bytesOf s).contains (c.toNat : Int) with
  | true =>
    rw [hc, if_pos rfl] at hV
    have hx : i = ((headI (bytesOf s) c.toNat).length : Int) := by rw [hx0]; unfold bytesOf at hc ⊢; rw [if_pos hc]
    clear hx0
    have hl := head_len _ _ hc
    rw [bytesOf_length] at hl
    obtain ⟨n, hn⟩ : ∃ n, (headI (bytesOf s) c.toNat).length = n := ⟨_, rfl⟩
    rw [hn] at hx hl
    subst hx
    have h1 : s.extract 0 n = strOfNums (headI (bytesOf s) c.toNat) := by rw [head_take, hn, ← tb_take, tb_str]
    have h2 : s.extract (n + 1) s.size = strOfNums (tailI (bytesOf s) c.toNat) := by unfold tailI; rw [hn, ← tb_drop, tb_str]
    obtain ⟨x, hx1⟩ : ∃ x, s.extract 0 n = x := ⟨_, rfl⟩
    obtain ⟨y, hy1⟩ : ∃ y, s.extract (n + 1) s.size = y := ⟨_, rfl⟩
    rw [← h1, ← h2, hx1, hy1] at hV
    have HV := Lib.hid hV
    have HI := Lib.hid hi
    have q1 : (n : Int) + 1 ≤ (s.size : Int) := by omega
    have q4 : n + 1 ≤ s.size := by omega
    have q5 : (n : Int) ≤ (s.size : Int) := by omega
    have q6 : n ≤ s.size := by omega
    have q7 : (0 : Int) ≤ (n : Int) := by omega
    have q8 : (0 : Int) ≤ (n : Int) + 1 := by omega
    have hw1 : IntKind.i64.wrap ((n : Int) + 1) = (n : Int) + 1 := by rw [IntKind.wrap_i64]; omega
    clear h1 h2 hV hi hc hn hs hl
    go_enter Tryd.func46, Tryd.ntmps46
    go_wp2_with fail
    refine (Tryd.stringslite_Index_one s c _).mono ?_
    rintro e w1 ⟨rfl, rfl⟩
    rw [HI.out]
    go_wp2_with fail
    refine dr_start (fun _ => True) [] (by kernel_rfl) trivial (fun hS => ?_)
    repeat (first | (refine dr_pure (by kernel_rfl) (by rfl) (fun _ _ _ h => h) (v := ?_) (a' := ?_) ?_ ?_ ?_; rotate_left 2; (focus (intro w'; go_simp; with_reducible rfl)); (focus (simp only [Act.put, List.setIfInBounds_toArray, List.set_cons_zero, List.set_cons_succ]; rfl))) | (refine dr_take (by kernel_rfl) (by rfl) (fun _ _ _ h => h) hS (v := ?_) (a' := ?_) ?_ ?_ ?_; rotate_left 2; (focus (intro w' hS'; go_simp; with_reducible rfl)); (focus (simp only [Act.put, List.setIfInBounds_toArray, List.set_cons_zero, List.set_cons_succ]; rfl))) | (refine dr_off (by kernel_rfl) (by rfl) (fun _ _ _ h => h) (a' := ?_) ?_ ?_; rotate_left; (focus (simp only [Act.put, List.setIfInBounds_toArray, List.set_cons_zero, List.set_cons_succ]; rfl))))
    refine dr_done (by kernel_rfl) ?_
    have hv := HV.out
    go_wp2_with fail
    go_ret3
    exact ⟨congrArg Ending.returned hv, HB.out.drew⟩
  | false =>
    rw [hc] at hV
    have hx : i = -1 := by rw [hx0]; unfold bytesOf at hc; rw [hc]; rfl
    clear hx0
    subst hx
    have HV := Lib.hid hV
    have HI := Lib.hid hi
    clear hV hi hc hs
    go_enter Tryd.func46, Tryd.ntmps46
    go_wp2_with fail
    refine (Tryd.stringslite_Index_one s c _).mono ?_
    rintro e w1 ⟨rfl, rfl⟩
    rw [HI.out]
    have hv := HV.out
    go_wp2_with fail
    go_ret3
    exact ⟨congrArg Ending.returned hv, HB.out⟩
set_option maxHeartbeats 4000000 in
set_option maxRecDepth 100000 in
theorem cut_calls (s : ByteArray) (c : UInt8) (w : World) (hs : s.size ≤ 1000000000000) :
    Calls Tryd.prog 35 #[.string s, .string ⟨#[c]⟩] w fun e w' => e = .returned (cutE s c.toNat) ∧ Below w.heap.size w w' := by
  obtain ⟨V, hV⟩ : ∃ V, cutE s c.toNat = V := ⟨_, rfl⟩
  rw [hV]
  have HV := Lib.hid hV
  obtain ⟨a, b, f, rfl⟩ : ∃ a b f, V = .tuple #[.string a, .string b, .bool f] := by
    rw [← hV]
    unfold cutE
    split
    · exact ⟨_, _, _, rfl⟩
    · exact ⟨_, _, _, rfl⟩
  clear hV
  go_enter Tryd.func35, Tryd.ntmps35
  go_wp2_with fail
  refine (cutLite_calls s c _ hs).mono ?_
  rintro e w1 ⟨rfl, hb⟩
  rw [HV.out]
  go_wp2_with fail
  go_ret3
  exact ⟨rfl, hb⟩
end Go.Proofs.YtdpoookgmckclaaDoor.M
