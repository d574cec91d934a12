/- Every row of calls is answered, and leaves all windows, just as the document says. No condition. The walk. -/
import Derived.Test.YtkaijdhnnfldkabPlaysPlay
set_option linter.unusedVariables false
set_option linter.unusedSimpArgs false
namespace Go.Proofs.Ytkaijdhnnfldkab.WinPlays
open Go.RowKit Go.Maps Go.Proofs.YtkaijdhnnfldkabW.PrintWords Go.Proofs.YtkaijdhnnfldkabW.PrintMore Go.Proofs.Ytkaijdhnnfldkab.PWindowPlays Go.Proofs.Ytkaijdhnnfldkab.Book Go.Proofs.Ytkaijdhnnfldkab.Win Go.Proofs.Ytkaijdhnnfldkab.PlaysPure Go.Proofs.Ytkaijdhnnfldkab.PlaysSame Go.Proofs.Ytkaijdhnnfldkab.PlaysPlay

theorem rel_nil : Rel [] (fun _ => none) := ⟨fun r hr => absurd hr (by simp), fun id v => by simp⟩
theorem alloc_below (w : World) (o : Obj) : Below w.heap.size w (w.alloc o) := (Below.refl _ _).alloc (Nat.le_refl _) o

theorem adrew_below (w : World) (o : Obj) : Below w.heap.size w (w.alloc o).drew := ⟨rfl, rfl, rfl, (alloc_below w o).size, (alloc_below w o).block⟩
theorem alloc_cell {w : World} {o : Obj} {a : Addr} {v : Value} (h : w.cell? a = some v) : (w.alloc o).cell? a = some v :=
  ((alloc_below w o).cell (World.block_lt_of_cell? w a h)).trans h

set_option maxHeartbeats 12800000 in
set_option maxRecDepth 100000 in
theorem plays_law (w : World) (A : Option Addr) (cap : Nat) (l : List Act4) (hA : Acts w A l) (hc : l.length ≤ cap) :
    Calls Try.prog 7 #[.slice A l.length cap] w fun e w' => e = .returned (.bool true) ∧ Below w.heap.size w w' := by
  have HA := Lib.hid hA
  clear hA
  by_cases hlong : 200 < l.length
  · go_enter Try.func7, Try.ntmps7
    go_wp2_with fail
    refine (awake_calls _).mono ?_
    rintro e w1 ⟨rfl, hB1⟩
    go_wp2_with fail
    go_ret
    exact ⟨by first | rfl | (simp; done), hB1⟩
  · have hshort : l.length ≤ 200 := by omega
    have hld : decide (200 < l.length) = false := decide_eq_false hlong
    clear hlong
    go_enter Try.func7, Try.ntmps7
    go_wp2_with fail
    refine (awake_calls _).mono ?_
    rintro e w1 ⟨rfl, hB1⟩
    have HB1 := Lib.hid hB1
    clear hB1
    go_wp2_with fail
    refine (new_calls _).mono ?_
    rintro e w2 ⟨g, b, rfl, hb2, hg1, hbb1, hB2⟩
    have K2 := Lib.hid hb2
    have HL := Lib.hid (show w.heap.size ≤ g ∧ w.heap.size ≤ b from ⟨by have := HB1.out.size; omega, by have := HB1.out.size; omega⟩)
    have HB2 := Lib.hid (HB1.out.trans (hB2.mono HB1.out.size))
    clear hb2 hB2 hg1 hbb1 HB1
    go_wp2_with fail
    refine (nuncioref17_New.calls 65535 65535 [] _ rfl).mono ?_
    rintro e w3 ⟨v3, rfl, hR3, hB3⟩
    obtain ⟨A3, cap3, rfl⟩ := Kd.R_slice hR3
    have hlt := K2.out.lt
    have HR3 := Lib.hid (show RowsAt w.heap.size w3 _ _ _ from (RowsAt.made (S := fun k => k = g ∨ k = b) hR3 HB2.out.size (by rintro k (rfl | rfl) <;> omega)).fresh)
    have HK3 := Lib.hid (BookAt.below K2.out hB3)
    have HBE3 := Lib.hid (HB2.out.trans (hB3.mono HB2.out.size))
    have HLT3 := Lib.hid (show g < w3.heap.size ∧ b < w3.heap.size from HK3.out.lt)
    clear hR3 hB3 hlt K2 HB2
    go_wp2_with fail
    obtain ⟨n, hn⟩ : ∃ n, w3.heap.size = n := ⟨_, rfl⟩
    have HB4 := Lib.hid (BookAt.below HK3.out (alloc_below w3 (.cells #[.int .i64 65535, .int .i64 65535, .slice A3 0 cap3] 44)))
    have HR4 := Lib.hid (show RowsAt w.heap.size _ (fun k => k = g ∨ k = b ∨ k = w3.heap.size) _ _ from (RowsAt.below HR3.out (alloc_below w3 (.cells #[.int .i64 65535, .int .i64 65535, .slice A3 0 cap3] 44))).mono (by rintro k (rfl | rfl | rfl) <;> simp))
    have HBE4 := Lib.hid (HBE3.out.alloc HBE3.out.size (.cells #[.int .i64 65535, .int .i64 65535, .slice A3 0 cap3] 44))
    have H4 := Lib.hid (show (w3.alloc (.cells #[.int .i64 65535, .int .i64 65535, .slice A3 0 cap3] 44)).heap[w3.heap.size]? = some (.cells #[.int .i64 65535, .int .i64 65535, .slice A3 0 cap3] 44 (0, 0)) from Array.getElem?_push_size)
    have HN := Lib.hid (show g < w3.heap.size ∧ b < w3.heap.size ∧ w.heap.size ≤ w3.heap.size from ⟨HLT3.out.1, HLT3.out.2, HBE3.out.size⟩)
    clear HR3 HK3 HBE3 HLT3
    rw [hn] at HR4 H4 HN
    try rw [hn]
    go_loopg [5] (l.length) (fun kq v5 w' => ∃ (j b : Nat) (c f : Int) (m : Int → Option Int) (rows : List S66) (A4 : Option Addr) (cap4 : Nat), v5 = .int .i64 j ∧
      Aside0 (kq + j = l.length) ∧ Aside0 (BookAt w' g b c f m j) ∧ Aside0 (RowsAt w.heap.size w' (fun k => k = g ∨ k = b ∨ k = n) (.slice A4 rows.length cap4) rows) ∧ Aside0 (Rel rows m) ∧ Aside0 (rows.length ≤ j) ∧ Aside0 (w'.heap[n]? = some (.cells #[.int .i64 c, .int .i64 f, .slice A4 rows.length cap4] 44 (0, 0))) ∧ Aside0 (w.heap.size ≤ b ∧ b ≠ n) ∧ Aside0 (Below w.heap.size w w'))
    case atStart => exact ⟨0, b, 65535, 65535, _, [], A3, cap3, rfl, ⟨by omega⟩, ⟨HB4.out⟩, ⟨HR4.out⟩, ⟨rel_nil⟩, ⟨by simp⟩, ⟨H4.out⟩, ⟨HL.out.2, by have := HN.out; omega⟩, ⟨HBE4.out⟩⟩
    case round =>
      clear HB4 HR4 HBE4 H4
      obtain ⟨j, b, c, f, m, rows, A4, cap4, rfl, HK, HBk, HRw, HRl, HLe, HCe, HNb, HBe⟩ := hrel
      by_cases hj : j < l.length
      · obtain ⟨ad, rfl, hlt, x0, x1, x2, x3⟩ := HA.out.cell j l[j] (List.getElem?_eq_getElem hj)
        obtain ⟨q, hq⟩ : ∃ q, l[j] = q := ⟨_, rfl⟩
        rw [hq] at x0 x1 x2 x3
        have HOk := Lib.hid (HA.out.ok q (by rw [← hq]; exact List.getElem_mem hj))
        have hbl := HBe.out
        have y0 := (hbl.cell (p := ad.add (j * 4)) (by rw [add_block]; exact hlt)).trans x0
        have y1 := (hbl.cell (p := ⟨(ad.add (j * 4)).block, (ad.add (j * 4)).off + 1, none⟩) (by rw [add_block]; exact hlt)).trans x1
        have y2 := (hbl.cell (p := ⟨(ad.add (j * 4)).block, (ad.add (j * 4)).off + 2, none⟩) (by rw [add_block]; exact hlt)).trans x2
        have y3 := (hbl.cell (p := ⟨(ad.add (j * 4)).block, (ad.add (j * 4)).off + 3, none⟩) (by rw [add_block]; exact hlt)).trans x3
        have HLt := Lib.hid hlt
        have HX := Lib.hid (show w.cell? (ad.add (j * 4)) = _ ∧ w.cell? ⟨(ad.add (j * 4)).block, (ad.add (j * 4)).off + 1, none⟩ = _ ∧ w.cell? ⟨(ad.add (j * 4)).block, (ad.add (j * 4)).off + 2, none⟩ = _ ∧ w.cell? ⟨(ad.add (j * 4)).block, (ad.add (j * 4)).off + 3, none⟩ = _ from ⟨x0, x1, x2, x3⟩)
        clear hbl x0 x1 x2 x3 hq hlt
        have HJ := Lib.hid hj
        have HKJ := Lib.hid HK.out
        have e0 := (blk_cell HCe.out 0).trans rfl
        have e1 := (blk_cell HCe.out 1).trans rfl
        have e2 := (blk_cell HCe.out 2).trans rfl
        go_wp2_with fail
        have HN' := Lib.hid (show n < wr.heap.size ∧ g < wr.heap.size ∧ b < wr.heap.size ∧ w.heap.size ≤ wr.heap.size from ⟨blk_lt HCe.out, HBk.out.lt.1, HBk.out.lt.2, HBe.out.size⟩)
        have HRf := Lib.hid HRw.out.fresh
        have HJN := Lib.hid (show j < 100000 by omega)
        have HZ := Lib.hid (show n ≠ wr.heap.size ∧ (ad.add (j * 4)).block ≠ wr.heap.size ∧ g ≠ n from ⟨by have := HN'.out; omega, by rw [add_block]; have := HN'.out; have := HLt.out; omega, by have := HN.out; omega⟩)
        go_region_held3 (fun w' => w'.cell? ⟨n, 0, none⟩ = some (.int .i64 c) ∧ w'.cell? ⟨n, 1, none⟩ = some (.int .i64 f) ∧ w'.cell? ⟨n, 2, none⟩ = some (.slice A4 rows.length cap4) ∧ w'.cell? (ad.add (j * 4)) = some (.int .i64 q.k) ∧ w'.cell? ⟨(ad.add (j * 4)).block, (ad.add (j * 4)).off + 1, none⟩ = some (.int .u32 q.id) ∧ w'.cell? ⟨(ad.add (j * 4)).block, (ad.add (j * 4)).off + 2, none⟩ = some (.int .u32 q.n) ∧ w'.cell? ⟨(ad.add (j * 4)).block, (ad.add (j * 4)).off + 3, none⟩ = some (.int .i64 q.want)) (first | exact ⟨e0, e1, e2, y0, y1, y2, y3⟩ | exact ⟨(alloc_cell e0), (alloc_cell e1), (alloc_cell e2), (alloc_cell y0), (alloc_cell y1), (alloc_cell y2), (alloc_cell y3)⟩ | exact ⟨d0, d1, d2, d3, d4, d5, d6⟩ | exact ⟨(alloc_cell d0), (alloc_cell d1), (alloc_cell d2), (alloc_cell d3), (alloc_cell d4), (alloc_cell d5), (alloc_cell d6)⟩ | exact ⟨(far3 HZ.out.1 d0), (far3 HZ.out.1 d1), (far3 HZ.out.1 d2), (far3 HZ.out.2.1 d3), (far3 HZ.out.2.1 d4), (far3 HZ.out.2.1 d5), (far3 HZ.out.2.1 d6)⟩ | go_keep)
          (first | (go_at_call 22; go_must (refine (play_calls (w0 := w) (q := q) (N := j) (HBe.out.trans (Below.mono ?BB HBe.out.size)) (BookAt.below HBk.out ?BB2) (RowsAt.below HRf.out ?BB3) ⟨.inl (.inl rfl), .inl (.inr (.inl rfl))⟩ HRl.out HLe.out ⟨HL.out.1, HNb.out.1⟩ HOk.out HJN.out).mono ?_; (case BB => first | exact drew_below _ | exact adrew_below _ _); (case BB2 => first | exact drew_below _ | exact adrew_below _ _); (case BB3 => first | exact drew_below _ | exact adrew_below _ _); rintro e w5 ⟨b5, c5, f5, m5, u5, l5, rfl, hb5, hr5, hrel5, hlen5, hbp5, hbo5, hbe5, hsz5, hk5⟩; obtain ⟨A5, cap5, rfl, _, _⟩ := hr5.slice; have hn5 : w5.heap[n]? = some (.cells #[.int .i64 c, .int .i64 f, .slice A4 rows.length cap4] 44 (0, 0)) := (hk5 n (.inl (.inr (.inr rfl))) (Nat.lt_of_lt_of_le HN'.out.1 (by first | exact (drew_below _).size | exact (adrew_below _ _).size)) (Ne.symm HZ.out.2.2) (Ne.symm HNb.out.2)).trans (blk_below HCe.out (by first | exact drew_below _ | exact adrew_below _ _)); have d0 := (blk_cell hn5 0).trans rfl; have d1 := (blk_cell hn5 1).trans rfl; have d2 := (blk_cell hn5 2).trans rfl; have d3 := (hbe5.cell (p := ad.add (j * 4)) (by rw [add_block]; exact HLt.out)).trans HX.out.1; have d4 := (hbe5.cell (p := ⟨(ad.add (j * 4)).block, (ad.add (j * 4)).off + 1, none⟩) (by rw [add_block]; exact HLt.out)).trans HX.out.2.1; have d5 := (hbe5.cell (p := ⟨(ad.add (j * 4)).block, (ad.add (j * 4)).off + 2, none⟩) (by rw [add_block]; exact HLt.out)).trans HX.out.2.2.1; have d6 := (hbe5.cell (p := ⟨(ad.add (j * 4)).block, (ad.add (j * 4)).off + 3, none⟩) (by rw [add_block]; exact HLt.out)).trans HX.out.2.2.2; (try (have hz5 : w5.heap[wr.heap.size]? = some (.cells #[.int .i64 0, .int .i64 0, .slice none 0 0] 44 (0, 0)) := (hk5 wr.heap.size (.inr (Nat.le_refl _)) (by simp) (by have := HN'.out; omega) (by have := HN'.out; omega)).trans (show (wr.alloc (.cells #[.int .i64 0, .int .i64 0, .slice none 0 0] 44)).drew.heap[wr.heap.size]? = _ from Array.getElem?_push_size); have k0 := (blk_cell hz5 0).trans rfl; have k1 := (blk_cell hz5 1).trans rfl; have k2 := (blk_cell hz5 2).trans rfl; have f0 := blk_frozen hz5 0; have f1 := blk_frozen hz5 1; have f2 := blk_frozen hz5 2; have HZ5 := Lib.hid hz5; clear hz5)); have HB5 := Lib.hid hb5; have HR5 := Lib.hid hr5; have HREL5 := Lib.hid hrel5; have HLEN5 := Lib.hid hlen5; have HBP5 := Lib.hid (show _ ∧ _ from ⟨hbp5, hbo5⟩); have HBE5 := Lib.hid hbe5; have HSZ5 := Lib.hid hsz5; have HN5 := Lib.hid hn5; clear hb5 hr5 hrel5 hlen5 hbp5 hbo5 hbe5 hsz5 hn5 hk5)))
        all_goals (clear e0 e1 e2 y0 y1 y2 y3)
        · clear d0 d1 d2 d3 d4 d5 d6
          have hx : wr.heap.size = wr.drew.heap.size := rfl
          have G6 := Lib.hid (show (w5.alloc (.cells #[.int .i64 c5, .int .i64 f5, .slice A5 l5.length cap5] 44)).heap[w5.heap.size]? = some (.cells #[.int .i64 c5, .int .i64 f5, .slice A5 l5.length cap5] 44 (0, 0)) from Array.getElem?_push_size)
          have N6 := Lib.hid (blk_below HN5.out (alloc_below w5 (.cells #[.int .i64 c5, .int .i64 f5, .slice A5 l5.length cap5] 44)))
          have B6 := Lib.hid (BookAt.below HB5.out (alloc_below w5 (.cells #[.int .i64 c5, .int .i64 f5, .slice A5 l5.length cap5] 44)))
          have R6 := Lib.hid (show RowsAt w.heap.size _ (fun k => k = g ∨ k = b5 ∨ k = n) _ _ from (RowsAt.below HR5.out (alloc_below w5 (.cells #[.int .i64 c5, .int .i64 f5, .slice A5 l5.length cap5] 44))).mono (by rintro k (rfl | rfl | rfl); exact .inr ⟨.inl (.inl rfl), HN'.out.2.1⟩; exact .inl rfl; exact .inr ⟨.inl (.inr (.inr rfl)), HN'.out.1⟩))
          have E6 := Lib.hid (HBE5.out.alloc HBE5.out.size (.cells #[.int .i64 c5, .int .i64 f5, .slice A5 l5.length cap5] 44))
          rw [← hx] at HBP5
          have hb5n : b5 ≠ n := by rcases HBP5.out.2 with h | h <;> have := HNb.out.2 <;> have := HN'.out.1 <;> omega
          have HBN := Lib.hid hb5n
          have s0 := (blk_cell G6.out 0).trans rfl
          have s1 := (blk_cell G6.out 1).trans rfl
          have s2 := (blk_cell G6.out 2).trans rfl
          have r0 := (blk_cell N6.out 0).trans rfl
          have r1 := (blk_cell N6.out 1).trans rfl
          have r2 := (blk_cell N6.out 2).trans rfl
          have v0 := blk_frozen N6.out 0
          have v1 := blk_frozen N6.out 1
          have v2 := blk_frozen N6.out 2
          clear hx hb5n
          go_wp2_with fail
          obtain ⟨k', rfl⟩ : ∃ q, gk = q + 1 := ⟨gk - 1, by have := HKJ.out; have := HJ.out; omega⟩
          go_roundg k'
          case measure => omega
          case rel => exact ⟨j + 1, b5, c5, f5, m5, l5, A5, cap5, by first | rfl | (simp; done), ⟨by have := HKJ.out; omega⟩, ⟨book_far3 B6.out HZ.out.2.2 HBN.out⟩, ⟨R6.out.set3 (.inr (.inr rfl))⟩, ⟨HREL5.out⟩, ⟨HLEN5.out⟩, ⟨self3_heap N6.out⟩, ⟨HBP5.out.1, HBN.out⟩, ⟨below_set3 E6.out HN.out.2.2⟩⟩
        · clear d0 d1 d2 d3 d4 d5 d6 k0 k1 k2 f0 f1 f2
          have hx : (wr.alloc (.cells #[.int .i64 0, .int .i64 0, .slice none 0 0] 44)).drew.heap.size = wr.heap.size + 1 := by show (wr.heap.push _).size = _; simp
          rw [hx] at HBP5 HR5
          have hb6 : b5 ≠ wr.heap.size := by rcases HBP5.out.2 with h | h <;> have := HN'.out <;> omega
          have G6 := Lib.hid (self3_heap (x := .int .i64 c5) (y := .int .i64 f5) (z := .slice A5 l5.length cap5) HZ5.out)
          have N6 := Lib.hid ((far3_heap (x := .int .i64 c5) (y := .int .i64 f5) (z := .slice A5 l5.length cap5) HZ.out.1).trans HN5.out)
          have B6 := Lib.hid (book_far3 (x := .int .i64 c5) (y := .int .i64 f5) (z := .slice A5 l5.length cap5) HB5.out (show g ≠ wr.heap.size by have := HN'.out; omega) hb6)
          have R6 := Lib.hid (show RowsAt w.heap.size _ (fun k => k = g ∨ k = b5 ∨ k = n) _ _ from (HR5.out.set3 (n := wr.heap.size) (x := .int .i64 c5) (y := .int .i64 f5) (z := .slice A5 l5.length cap5) (.inr ⟨.inr (Nat.le_refl _), by omega⟩)).mono (by rintro k (rfl | rfl | rfl); exact .inr ⟨.inl (.inl rfl), by have := HN'.out; omega⟩; exact .inl rfl; exact .inr ⟨.inl (.inr (.inr rfl)), by have := HN'.out; omega⟩))
          have E6 := Lib.hid (below_set3 (n := wr.heap.size) (x := .int .i64 c5) (y := .int .i64 f5) (z := .slice A5 l5.length cap5) HBE5.out HBe.out.size)
          clear HZ5 hb6
          generalize hG : ((w5.setCell ⟨wr.heap.size, 0, none⟩ _).setCell ⟨wr.heap.size, 1, none⟩ _).setCell ⟨wr.heap.size, 2, none⟩ _ = w6 at *
          have hb5n : b5 ≠ n := by rcases HBP5.out.2 with h | h <;> have := HNb.out.2 <;> have := HN'.out.1 <;> omega
          have HBN := Lib.hid hb5n
          have s0 := (blk_cell G6.out 0).trans rfl
          have s1 := (blk_cell G6.out 1).trans rfl
          have s2 := (blk_cell G6.out 2).trans rfl
          have r0 := (blk_cell N6.out 0).trans rfl
          have r1 := (blk_cell N6.out 1).trans rfl
          have r2 := (blk_cell N6.out 2).trans rfl
          have v0 := blk_frozen N6.out 0
          have v1 := blk_frozen N6.out 1
          have v2 := blk_frozen N6.out 2
          clear hx hb5n
          go_wp2_with fail
          obtain ⟨k', rfl⟩ : ∃ q, gk = q + 1 := ⟨gk - 1, by have := HKJ.out; have := HJ.out; omega⟩
          go_roundg k'
          case measure => omega
          case rel => exact ⟨j + 1, b5, c5, f5, m5, l5, A5, cap5, by first | rfl | (simp; done), ⟨by have := HKJ.out; omega⟩, ⟨book_far3 B6.out HZ.out.2.2 HBN.out⟩, ⟨R6.out.set3 (.inr (.inr rfl))⟩, ⟨HREL5.out⟩, ⟨HLEN5.out⟩, ⟨self3_heap N6.out⟩, ⟨HBP5.out.1, HBN.out⟩, ⟨below_set3 E6.out HN.out.2.2⟩⟩
      · go_wp2
        go_ret
        exact ⟨rfl, HBe.out⟩
end Go.Proofs.Ytkaijdhnnfldkab.WinPlays
