/- Walk of nuncioref05.Check. -/
import Derived.Test.YtbbeikdbioelgaaMRef05b
set_option linter.unusedVariables false
set_option linter.unusedSimpArgs false
namespace Go.Proofs.Ytbbeikdbioelgaa.M
open Go.RowKit Go.Proofs.YtbbeikdbioelgaaW.PrintWords Go.Proofs.YtbbeikdbioelgaaW.PrintLast Go.Proofs.YtbbeikdbioelgaaW.PrintMore
attribute [local go_sem] max2_int min2_int max_two min_two max_three min_three max_four min_four
theorem sizeGo_big (l : List ByteArray) : ∀ n : Nat, 131070 < sizeGo l n → 131070 < n + sumS l + l.length := by
  induction l with
  | nil => intro n h; rw [sumS_nil]; simp only [sizeGo, List.length_nil] at h ⊢; omega
  | cons s l ih =>
    intro n h
    rw [sumS_cons, List.length_cons]
    unfold sizeGo at h
    by_cases c : 131070 < n + s.size + 1
    · omega
    · rw [if_neg c] at h
      have := ih _ h
      omega
theorem texts_len (r : Rec) (l : List ByteArray) : (l.flatMap (textL r)).length = sumS l + (if r.f1 = 16 then l.length else 0) := by
  induction l with
  | nil => rw [sumS_nil]; simp
  | cons s l ih =>
    rw [List.flatMap_cons, List.length_append, ih, textL_len, sumS_cons, List.length_cons]
    split <;> omega
theorem numsL_len (l : List Int) (k : Nat) : (l.flatMap fun n => putL n k).length = k * l.length := by
  induction l with
  | nil => rfl
  | cons a l ih => rw [List.flatMap_cons, List.length_append, ih, putL_length, List.length_cons, Nat.mul_add]; omega
theorem namesL_len (l : List ByteArray) : (l.flatMap bytesOf).length = sumS l := by
  induction l with
  | nil => rfl
  | cons a l ih => rw [List.flatMap_cons, List.length_append, ih, bytesOf_length, sumS_cons]
theorem names_sum (l : List ByteArray) (h : (l.any notName) = false) : sumS l ≤ 255 * l.length := by
  induction l with
  | nil => exact Nat.le_refl _
  | cons s l ih =>
    rw [List.any_cons, Bool.or_eq_false_iff] at h
    have h1 : s.size ≤ 255 := by
      have := h.1
      unfold notName isName split at this
      by_cases hb : 255 < s.size
      · rw [if_pos hb] at this; exact absurd this (by decide)
      · omega
    have h2 := ih h.2
    rw [sumS_cons, List.length_cons]
    omega
theorem size_total {r : Rec} (hn : (r.f4.any notName) = false) (hs : shapedB r = true) : (131070 < sizeF r ∨ 65535 < (plainL r).length) ↔ 65535 < total r := by
  rw [shapedB_eq] at hs
  have hsh : r.f4.length = (shapeOf r.f1).1 ∧ r.f5.length = (shapeOf r.f1).2.1 ∧ (r.f6.length = (shapeOf r.f1).2.2 ∨ r.f1 = 16 ∧ r.f6.length ≠ 0) := by
    by_cases h : r.f4.length = (shapeOf r.f1).1 ∧ r.f5.length = (shapeOf r.f1).2.1 ∧ (r.f6.length = (shapeOf r.f1).2.2 ∨ r.f1 = 16 ∧ r.f6.length ≠ 0)
    · exact h
    · rw [if_pos h] at hs; exact absurd hs (by decide)
  have hsum := names_sum r.f4 hn
  obtain ⟨s1, s2, s3⟩ := shapeOf_le r.f1
  have ht : total r = sumS r.f6 + (if r.f1 = 16 then r.f6.length else 0) := texts_len r r.f6
  have hp : (plainL r).length = (if r.f1 = 6 then 4 else 2) * r.f5.length + sumS r.f4 + total r := by
    unfold plainL total
    simp only [List.length_append, namesL_len]
    by_cases h6 : r.f1 = 6
    · simp only [if_pos h6, numsL_len, List.length_nil]; omega
    · simp only [if_neg h6, numsL_len, List.length_nil]; omega
  have hz : r.f6 = [] ∨ (r.f4.length = 0 ∧ r.f5.length = 0) := by
    have : (shapeOf r.f1).2.2 = 0 ∨ ((shapeOf r.f1).1 = 0 ∧ (shapeOf r.f1).2.1 = 0) := by
      unfold shapeOf
      repeat' split
      all_goals simp
    rcases this with h | h
    · rcases hsh.2.2 with h2 | h2
      · exact .inl (List.length_eq_zero_iff.1 (by omega))
      · right
        rw [h2.1] at hsh
        exact ⟨hsh.1, hsh.2.1⟩
    · exact .inr ⟨by omega, by omega⟩
  have hsz : 131070 < sizeF r → 131070 < 4 * r.f5.length + sumS r.f4 + sumS r.f6 + r.f6.length := sizeGo_big _ _
  have hif : (if r.f1 = 6 then 4 else 2) * r.f5.length ≤ 4 * r.f5.length := by split <;> omega
  rcases hz with h | ⟨h4, h5⟩
  · rw [h, sumS_nil] at ht hsz
    simp only [List.length_nil] at ht hsz
    have ht0 : total r = 0 := by rw [ht]; split <;> rfl
    constructor
    · rintro (h1 | h1)
      · have := hsz h1; omega
      · omega
    · omega
  · have h40 : sumS r.f4 = 0 := by rw [List.length_eq_zero_iff.1 h4]; rfl
    rw [h5] at hp hsz
    rw [h40] at hp hsz
    constructor
    · rintro (h1 | h1)
      · have := hsz h1
        rw [ht]
        by_cases k16 : r.f1 = 16
        · rw [if_pos k16]; omega
        · rw [if_neg k16]
          have hl : r.f6.length ≤ 1 := by
            rcases hsh.2.2 with h2 | h2
            · omega
            · exact absurd h2.1 k16
          omega
      · omega
    · intro h1
      right
      omega
theorem checkF_eq (r : Rec) : checkF r = if isName r.f0 = false then 40 else if r.f4.any notName then 40 else if shapedB r = false then 50 else if 65535 < total r then 50 else if 2147483647 < r.f3 ∧ r.f1 ≠ 41 then 1 else 0 := by
  unfold checkF
  by_cases k1 : isName r.f0 = false
  · rw [if_pos k1, if_pos k1]
  rw [if_neg k1, if_neg k1]
  by_cases k2 : r.f4.any notName = true
  · rw [if_pos k2, if_pos k2]
  rw [if_neg k2, if_neg k2]
  by_cases k3 : shapedB r = false
  · rw [if_pos k3, if_pos k3]
  rw [if_neg k3, if_neg k3]
  have hx := size_total (r := r) (by simpa using k2) (by simpa using k3)
  by_cases k4 : 131070 < sizeF r
  · rw [if_pos k4, if_pos (hx.1 (.inl k4))]
  rw [if_neg k4]
  by_cases k5 : 65535 < (plainL r).length
  · rw [if_pos k5, if_pos (hx.1 (.inr k5))]
  rw [if_neg k5, if_neg (fun h => (hx.2 h).elim k4 k5)]
set_option maxHeartbeats 4000000 in
set_option maxRecDepth 100000 in
theorem check5_calls (r : Rec) (v : Value) (w : World) (hv : RecAt w v r) (hF : Fine r) (h0 : r.f0.size ≤ 140737488351232) :
    Calls Try.prog 27 #[v] w fun e w' => e = .returned (.int .i64 (checkF r)) ∧ Below w.heap.size w w' := by
  have HV := Aside0.mk hv
  obtain ⟨A4, c4, A5, c5, A6, c6, rfl, l4, g4, l5, g5, l6, g6⟩ := hv
  have G4 := Aside0.mk g4
  have HF := Aside0.mk hF
  obtain ⟨R, hR⟩ : ∃ R, checkF r = R := ⟨_, rfl⟩
  rw [hR]
  rw [checkF_eq] at hR
  have m4 : (r.f4.length : Int) ≤ 1000000000 := by have := hF.len4; omega
  clear g4 g5 g6 hF
  by_cases k1 : isName r.f0 = false
  · rw [if_pos k1] at hR
    subst hR
    have K1 := Lib.hid k1
    clear k1
    go_enter Try.func27, Try.ntmps27
    go_wp2_with (((with_reducible refine gate_dst (N := 1) rfl ?_); refine box_event rfl (N := 1) rfl (cs := #[.string r.f0, .int .u16 r.f1, .int .u16 r.f2, .int .u32 r.f3, .slice A4 r.f4.length c4, .slice A5 r.f5.length c5, .slice A6 r.f6.length c6]) (t := 44) (by first | (go_simp; done) | (go_simp; rfl)) ?_; intro g hg w1 hbox hb); have HX := Aside0.mk hbox; have HB := Aside0.mk hb; have HGe := Aside0.mk hg; clear hb hg; have z0 : w1.cell? ⟨g, 0, none⟩ = some (.string r.f0) := (blk_cell HX.out 0).trans rfl; clear hbox; have z1 : w1.cell? ⟨g, 1, none⟩ = some (.int .u16 r.f1) := (blk_cell HX.out 1).trans rfl; have z2 : w1.cell? ⟨g, 2, none⟩ = some (.int .u16 r.f2) := (blk_cell HX.out 2).trans rfl; have z3 : w1.cell? ⟨g, 3, none⟩ = some (.int .u32 r.f3) := (blk_cell HX.out 3).trans rfl; have z4 : w1.cell? ⟨g, 4, none⟩ = some (.slice A4 r.f4.length c4) := (blk_cell HX.out 4).trans rfl; have z5 : w1.cell? ⟨g, 5, none⟩ = some (.slice A5 r.f5.length c5) := (blk_cell HX.out 5).trans rfl; have z6 : w1.cell? ⟨g, 6, none⟩ = some (.slice A6 r.f6.length c6) := (blk_cell HX.out 6).trans rfl)
    refine (refIs_calls r.f0 _ h0).mono ?_
    rw [K1.out]
    rintro e w2 ⟨rfl, hb⟩
    have HX2 := Aside0.mk (blk_below HX.out hb)
    have HB2 := Aside0.mk (HB.out.trans (hb.mono (below_size HB.out)))
    clear hb z0 z1 z2 z3 z4 z5 z6
    have z0 : w2.cell? ⟨g, 0, none⟩ = some (.string r.f0) := (blk_cell HX2.out 0).trans rfl
    have z1 : w2.cell? ⟨g, 1, none⟩ = some (.int .u16 r.f1) := (blk_cell HX2.out 1).trans rfl
    have z2 : w2.cell? ⟨g, 2, none⟩ = some (.int .u16 r.f2) := (blk_cell HX2.out 2).trans rfl
    have z3 : w2.cell? ⟨g, 3, none⟩ = some (.int .u32 r.f3) := (blk_cell HX2.out 3).trans rfl
    have z4 : w2.cell? ⟨g, 4, none⟩ = some (.slice A4 r.f4.length c4) := (blk_cell HX2.out 4).trans rfl
    have z5 : w2.cell? ⟨g, 5, none⟩ = some (.slice A5 r.f5.length c5) := (blk_cell HX2.out 5).trans rfl
    have z6 : w2.cell? ⟨g, 6, none⟩ = some (.slice A6 r.f6.length c6) := (blk_cell HX2.out 6).trans rfl
    go_wp2_with fail
    go_ret
    exact ⟨rfl, HB2.out⟩
  rw [if_neg k1] at hR
  have K1 := Lib.hid (show isName r.f0 = true by simpa using k1)
  clear k1
  have HR := Aside0.mk (show (if (r.f4.drop 0).any notName then (40 : Int) else if shapedB r = false then 50 else if 65535 < total r then 50 else if 2147483647 < r.f3 ∧ r.f1 ≠ 41 then 1 else 0) = R from hR)
  clear hR
  go_enter Try.func27, Try.ntmps27
  go_wp2_with (((with_reducible refine gate_dst (N := 1) rfl ?_); refine box_event rfl (N := 1) rfl (cs := #[.string r.f0, .int .u16 r.f1, .int .u16 r.f2, .int .u32 r.f3, .slice A4 r.f4.length c4, .slice A5 r.f5.length c5, .slice A6 r.f6.length c6]) (t := 44) (by first | (go_simp; done) | (go_simp; rfl)) ?_; intro g hg w1 hbox hb); have HX := Aside0.mk hbox; have HB := Aside0.mk hb; have HGe := Aside0.mk hg; clear hb hg; have z0 : w1.cell? ⟨g, 0, none⟩ = some (.string r.f0) := (blk_cell HX.out 0).trans rfl; clear hbox; have z1 : w1.cell? ⟨g, 1, none⟩ = some (.int .u16 r.f1) := (blk_cell HX.out 1).trans rfl; have z2 : w1.cell? ⟨g, 2, none⟩ = some (.int .u16 r.f2) := (blk_cell HX.out 2).trans rfl; have z3 : w1.cell? ⟨g, 3, none⟩ = some (.int .u32 r.f3) := (blk_cell HX.out 3).trans rfl; have z4 : w1.cell? ⟨g, 4, none⟩ = some (.slice A4 r.f4.length c4) := (blk_cell HX.out 4).trans rfl; have z5 : w1.cell? ⟨g, 5, none⟩ = some (.slice A5 r.f5.length c5) := (blk_cell HX.out 5).trans rfl; have z6 : w1.cell? ⟨g, 6, none⟩ = some (.slice A6 r.f6.length c6) := (blk_cell HX.out 6).trans rfl)
  refine (refIs_calls r.f0 _ h0).mono ?_
  rw [K1.out]
  rintro e w2 ⟨rfl, hb⟩
  have HX2 := Aside0.mk (blk_below HX.out hb)
  have HB2 := Aside0.mk (HB.out.trans (hb.mono (below_size HB.out)))
  clear hb z0 z1 z2 z3 z4 z5 z6
  have z0 : w2.cell? ⟨g, 0, none⟩ = some (.string r.f0) := (blk_cell HX2.out 0).trans rfl
  have z1 : w2.cell? ⟨g, 1, none⟩ = some (.int .u16 r.f1) := (blk_cell HX2.out 1).trans rfl
  have z2 : w2.cell? ⟨g, 2, none⟩ = some (.int .u16 r.f2) := (blk_cell HX2.out 2).trans rfl
  have z3 : w2.cell? ⟨g, 3, none⟩ = some (.int .u32 r.f3) := (blk_cell HX2.out 3).trans rfl
  have z4 : w2.cell? ⟨g, 4, none⟩ = some (.slice A4 r.f4.length c4) := (blk_cell HX2.out 4).trans rfl
  have z5 : w2.cell? ⟨g, 5, none⟩ = some (.slice A5 r.f5.length c5) := (blk_cell HX2.out 5).trans rfl
  have z6 : w2.cell? ⟨g, 6, none⟩ = some (.slice A6 r.f6.length c6) := (blk_cell HX2.out 6).trans rfl
  go_wp2_with fail
  have HBr := Aside0.mk (Below.refl w2.heap.size w2)
  go_loopg [3] r.f4.length (fun kq v3 w' => ∃ k : Nat, v3 = .int .i64 k ∧ Aside0 (kq + k = r.f4.length) ∧ Aside0 ((if (r.f4.drop k).any notName then (40 : Int) else if shapedB r = false then 50 else if 65535 < total r then 50 else if 2147483647 < r.f3 ∧ r.f1 ≠ 41 then 1 else 0) = R) ∧ Aside0 (Below w2.heap.size w2 w'))
  case atStart => exact ⟨0, rfl, ⟨rfl⟩, HR, HBr⟩
  case round =>
    clear HBr HR z0 z1 z2 z3 z4 z5 z6
    obtain ⟨k, rfl, HK, HE, HBr⟩ := hrel
    have HXr := Aside0.mk (blk_below HX2.out HBr.out)
    have HBt := Aside0.mk (HB2.out.trans (HBr.out.mono (below_size HB2.out)))
    have z0 : wr.cell? ⟨g, 0, none⟩ = some (.string r.f0) := (blk_cell HXr.out 0).trans rfl
    have z1 : wr.cell? ⟨g, 1, none⟩ = some (.int .u16 r.f1) := (blk_cell HXr.out 1).trans rfl
    have z2 : wr.cell? ⟨g, 2, none⟩ = some (.int .u16 r.f2) := (blk_cell HXr.out 2).trans rfl
    have z3 : wr.cell? ⟨g, 3, none⟩ = some (.int .u32 r.f3) := (blk_cell HXr.out 3).trans rfl
    have z4 : wr.cell? ⟨g, 4, none⟩ = some (.slice A4 r.f4.length c4) := (blk_cell HXr.out 4).trans rfl
    have z5 : wr.cell? ⟨g, 5, none⟩ = some (.slice A5 r.f5.length c5) := (blk_cell HXr.out 5).trans rfl
    have z6 : wr.cell? ⟨g, 6, none⟩ = some (.slice A6 r.f6.length c6) := (blk_cell HXr.out 6).trans rfl
    have he := HE.out
    clear HE
    cases gk with
    | succ j =>
      have hk : k < r.f4.length := by have := HK.out; omega
      obtain ⟨ad, rfl, hcell⟩ := at_str (Kd.C_below G4.out HBt.out) k hk
      have q1 : (0 : Int) ≤ (k : Int) := by omega
      have q2 : (k : Int) < (r.f4.length : Int) := by omega
      have hsz : (r.f4.getD k ⟨#[]⟩).size ≤ 140737488351232 := by
        have h1 := names_le r.f4 (k + 1)
        rw [flat_snoc ⟨#[]⟩ bytesOf r.f4 k hk, List.length_append, bytesOf_length] at h1
        have h2 := HF.out.names
        omega
      rw [drop_get ⟨#[]⟩ r.f4 k hk, List.any_cons] at he
      obtain ⟨s, hs⟩ : ∃ s, r.f4.getD k ⟨#[]⟩ = s := ⟨_, rfl⟩
      rw [hs] at hcell hsz he
      have HSz := Lib.hid hsz
      clear hs hsz
      go_wp2_with fail
      refine (refIs_calls s _ HSz.out).mono ?_
      obtain ⟨b, hb⟩ : ∃ b, isName s = b := ⟨_, rfl⟩
      have hnb : notName s = !b := by unfold notName; rw [hb]
      rw [hnb] at he
      rw [hb]
      clear hb hnb
      rintro e w' ⟨rfl, hb⟩
      have HBn := Aside0.mk (HBr.out.trans (hb.mono HBr.out.size))
      have HBw := Aside0.mk (HBt.out.trans (hb.mono (below_size HBt.out)))
      clear hb
      cases b with
      | false =>
        rw [show (!false || (r.f4.drop (k + 1)).any notName) = true from rfl, if_pos rfl] at he
        subst he
        go_wp2_with fail
        go_ret
        exact ⟨rfl, HBw.out⟩
      | true =>
        rw [show (!true || (r.f4.drop (k + 1)).any notName) = (r.f4.drop (k + 1)).any notName from rfl] at he
        have HE := Aside0.mk he
        clear he
        go_wp2_with fail
        go_roundg j
        case measure => omega
        case rel => exact ⟨k + 1, by go_num, ⟨by have := HK.out; omega⟩, HE, HBn⟩
    | zero =>
      obtain rfl : k = r.f4.length := by have := HK.out; omega
      rw [List.drop_length, List.any_nil, if_neg (by decide)] at he
      have hl6 := HF.out.texts2
      have hl5 : r.f5.length ≤ 1000000000 := by have := HF.out.names; omega
      obtain ⟨b, hb⟩ : ∃ b, shapedB r = b := ⟨_, rfl⟩
      rw [hb] at he
      have HSb := Lib.hid hb
      clear hb
      go_wp2_with fail
      refine (shaped5_calls r _ _ (HV.out.below HBt.out) hl6 HF.out.len4 hl5).mono ?_
      rw [HSb.out]
      rintro e w3 ⟨rfl, hb⟩
      have HX3 := Aside0.mk (blk_below HXr.out hb)
      have HB3 := Aside0.mk (HBt.out.trans (hb.mono (below_size HBt.out)))
      clear hb z0 z1 z2 z3 z4 z5 z6
      have z0 : w3.cell? ⟨g, 0, none⟩ = some (.string r.f0) := (blk_cell HX3.out 0).trans rfl
      have z1 : w3.cell? ⟨g, 1, none⟩ = some (.int .u16 r.f1) := (blk_cell HX3.out 1).trans rfl
      have z2 : w3.cell? ⟨g, 2, none⟩ = some (.int .u16 r.f2) := (blk_cell HX3.out 2).trans rfl
      have z3 : w3.cell? ⟨g, 3, none⟩ = some (.int .u32 r.f3) := (blk_cell HX3.out 3).trans rfl
      have z4 : w3.cell? ⟨g, 4, none⟩ = some (.slice A4 r.f4.length c4) := (blk_cell HX3.out 4).trans rfl
      have z5 : w3.cell? ⟨g, 5, none⟩ = some (.slice A5 r.f5.length c5) := (blk_cell HX3.out 5).trans rfl
      have z6 : w3.cell? ⟨g, 6, none⟩ = some (.slice A6 r.f6.length c6) := (blk_cell HX3.out 6).trans rfl
      cases b with
      | false =>
        rw [if_pos rfl] at he
        subst he
        go_wp2_with fail
        go_ret
        exact ⟨rfl, HB3.out⟩
      | true =>
        rw [if_neg (by decide)] at he
        go_wp2_with fail
        refine (plain5_calls r _ _ (HV.out.below HB3.out) HF.out).mono ?_
        by_cases k4 : 65535 < total r
        · rw [if_pos k4] at he
          subst he
          have hp : plain5E r = .returned (.tuple #[.string ⟨#[]⟩, .bool false]) := if_pos k4
          rw [hp]
          rintro e w4 ⟨rfl, hb⟩
          have HX4 := Aside0.mk (blk_below HX3.out hb)
          have HB4 := Aside0.mk (HB3.out.trans (hb.mono (below_size HB3.out)))
          clear hb z0 z1 z2 z3 z4 z5 z6
          have z0 : w4.cell? ⟨g, 0, none⟩ = some (.string r.f0) := (blk_cell HX4.out 0).trans rfl
          have z1 : w4.cell? ⟨g, 1, none⟩ = some (.int .u16 r.f1) := (blk_cell HX4.out 1).trans rfl
          have z2 : w4.cell? ⟨g, 2, none⟩ = some (.int .u16 r.f2) := (blk_cell HX4.out 2).trans rfl
          have z3 : w4.cell? ⟨g, 3, none⟩ = some (.int .u32 r.f3) := (blk_cell HX4.out 3).trans rfl
          have z4 : w4.cell? ⟨g, 4, none⟩ = some (.slice A4 r.f4.length c4) := (blk_cell HX4.out 4).trans rfl
          have z5 : w4.cell? ⟨g, 5, none⟩ = some (.slice A5 r.f5.length c5) := (blk_cell HX4.out 5).trans rfl
          have z6 : w4.cell? ⟨g, 6, none⟩ = some (.slice A6 r.f6.length c6) := (blk_cell HX4.out 6).trans rfl
          clear hp k4
          go_wp2_with fail
          go_ret
          exact ⟨rfl, HB4.out⟩
        · rw [if_neg k4] at he
          have hp : plain5E r = .returned (.tuple #[.string (strOfNums (plainL r)), .bool true]) := if_neg k4
          rw [hp]
          rintro e w4 ⟨rfl, hb⟩
          have HX4 := Aside0.mk (blk_below HX3.out hb)
          have HB4 := Aside0.mk (HB3.out.trans (hb.mono (below_size HB3.out)))
          clear hb z0 z1 z2 z3 z4 z5 z6
          have z0 : w4.cell? ⟨g, 0, none⟩ = some (.string r.f0) := (blk_cell HX4.out 0).trans rfl
          have z1 : w4.cell? ⟨g, 1, none⟩ = some (.int .u16 r.f1) := (blk_cell HX4.out 1).trans rfl
          have z2 : w4.cell? ⟨g, 2, none⟩ = some (.int .u16 r.f2) := (blk_cell HX4.out 2).trans rfl
          have z3 : w4.cell? ⟨g, 3, none⟩ = some (.int .u32 r.f3) := (blk_cell HX4.out 3).trans rfl
          have z4 : w4.cell? ⟨g, 4, none⟩ = some (.slice A4 r.f4.length c4) := (blk_cell HX4.out 4).trans rfl
          have z5 : w4.cell? ⟨g, 5, none⟩ = some (.slice A5 r.f5.length c5) := (blk_cell HX4.out 5).trans rfl
          have z6 : w4.cell? ⟨g, 6, none⟩ = some (.slice A6 r.f6.length c6) := (blk_cell HX4.out 6).trans rfl
          clear hp k4
          by_cases k6 : 2147483647 < r.f3
          · have d6 : decide (2147483647 < r.f3) = true := decide_eq_true k6
            by_cases k7 : r.f1 = 41
            · rw [if_neg (fun h => h.2 k7)] at he
              subst he
              have d7 : (r.f1 != 41) = false := by rw [bne_eq_false_iff_eq]; exact k7
              clear k6 k7
              go_wp2_with fail
              go_ret
              exact ⟨rfl, HB4.out⟩
            · rw [if_pos ⟨k6, k7⟩] at he
              subst he
              have d7 : (r.f1 != 41) = true := by rw [bne_iff_ne]; exact k7
              clear k6 k7
              go_wp2_with fail
              go_ret
              exact ⟨rfl, HB4.out⟩
          · rw [if_neg (fun h => k6 h.1)] at he
            subst he
            have d6 : decide (2147483647 < r.f3) = false := decide_eq_false k6
            clear k6
            go_wp2_with fail
            go_ret
            exact ⟨rfl, HB4.out⟩
end Go.Proofs.Ytbbeikdbioelgaa.M
