/- Walks of nuncioref05.Plain and nuncioref07.Plain: how long a right message is without pointers. -/
import Derived.Test.YtbbeikdbioelgaaMRef05c
import Derived.Test.YtbbeikdbioelgaaMWrite
import Derived.Test.YtbbeikdbioelgaaMRaw
import Derived.Test.YtbbeikdbioelgaaMJDraw
set_option linter.unusedVariables false
set_option linter.unusedSimpArgs false
namespace Go.Proofs.Ytbbeikdbioelgaa.M
open Go.RowKit Go.Maps Go.Proofs.YtbbeikdbioelgaaW.PrintWords Go.Proofs.YtbbeikdbioelgaaW.PrintLast Go.Proofs.YtbbeikdbioelgaaW.PrintMore
attribute [local go_sem] max2_int min2_int max_two min_two max_three min_three max_four min_four
attribute [local go_sem ↓] Go.wp_at_zero Go.wp_at_succ

theorem total_ok {r : Rec} (h : checkF r = 0) : ¬ 65535 < total r := by
  rw [checkF_eq] at h
  intro c
  by_cases k1 : isName r.f0 = false
  · rw [if_pos k1] at h; exact absurd h (by decide)
  rw [if_neg k1] at h
  by_cases k2 : r.f4.any notName = true
  · rw [if_pos k2] at h; exact absurd h (by decide)
  rw [if_neg k2] at h
  by_cases k3 : shapedB r = false
  · rw [if_pos k3] at h; exact absurd h (by decide)
  rw [if_neg k3, if_pos c] at h
  exact absurd h (by decide)
set_option maxHeartbeats 2000000 in
set_option maxRecDepth 100000 in
theorem Plain5_calls (r : Rec) (v : Value) (w : World) (hv : RecAt w v r) (hF : Fine r) (h0 : r.f0.size ≤ 140737488351232) :
    Calls Try.prog 54 #[v] w fun e w' => e = .returned (.string (plainS r)) ∧ Below w.heap.size w w' := by
  have HV := Aside0.mk hv
  obtain ⟨A4, c4, A5, c5, A6, c6, rfl, l4, g4, l5, g5, l6, g6⟩ := hv
  have HF := Aside0.mk hF
  have HZ := Lib.hid h0
  obtain ⟨R, hR⟩ : ∃ R, plainS r = R := ⟨_, rfl⟩
  rw [hR]
  unfold plainS at hR
  obtain ⟨n, hn⟩ : ∃ n, checkF r = n := ⟨_, rfl⟩
  rw [hn] at hR
  have HN := Lib.hid hn
  clear g4 g5 g6 hF h0
  by_cases k : n = 0
  · subst k
    rw [if_pos rfl] at hR
    have HE := Lib.hid (show plain5E r = .returned (.tuple #[.string R, .bool true]) by unfold plain5E; rw [if_neg (total_ok hn), hR])
    clear hR hn
    go_enter Try.func54, Try.ntmps54
    go_wp2_with (((with_reducible refine gate_dst (N := 1) rfl ?_); refine box_event rfl (N := 1) rfl (cs := #[.string r.f0, .int .u16 r.f1, .int .u16 r.f2, .int .u32 r.f3, .slice A4 r.f4.length c4, .slice A5 r.f5.length c5, .slice A6 r.f6.length c6]) (t := 44) (by first | (go_simp; done) | (go_simp; rfl)) ?_; intro g hg w1 hbox hb); have HX := Aside0.mk hbox; have HB := Aside0.mk hb; have HGe := Aside0.mk hg; clear hb hg; have z0 : w1.cell? ⟨g, 0, none⟩ = some (.string r.f0) := (blk_cell HX.out 0).trans rfl; clear hbox; have z1 : w1.cell? ⟨g, 1, none⟩ = some (.int .u16 r.f1) := (blk_cell HX.out 1).trans rfl; have z2 : w1.cell? ⟨g, 2, none⟩ = some (.int .u16 r.f2) := (blk_cell HX.out 2).trans rfl; have z3 : w1.cell? ⟨g, 3, none⟩ = some (.int .u32 r.f3) := (blk_cell HX.out 3).trans rfl; have z4 : w1.cell? ⟨g, 4, none⟩ = some (.slice A4 r.f4.length c4) := (blk_cell HX.out 4).trans rfl; have z5 : w1.cell? ⟨g, 5, none⟩ = some (.slice A5 r.f5.length c5) := (blk_cell HX.out 5).trans rfl; have z6 : w1.cell? ⟨g, 6, none⟩ = some (.slice A6 r.f6.length c6) := (blk_cell HX.out 6).trans rfl)
    refine (check5_calls r _ _ (HV.out.below HB.out) HF.out HZ.out).mono ?_
    rw [HN.out]
    rintro e w2 ⟨rfl, hb⟩
    have HX2 := Aside0.mk (blk_below HX.out hb)
    have HB2 := Aside0.mk (HB.out.trans (hb.mono (below_size HB.out)))
    clear hb z0 z1 z2 z3 z4 z5 z6
    have z0 : w2.cell? ⟨g, 0, none⟩ = some (.string r.f0) := (blk_cell HX2.out 0).trans rfl
    have z1 : w2.cell? ⟨g, 1, none⟩ = some (.int .u16 r.f1) := (blk_cell HX2.out 1).trans rfl
    have z2 : w2.cell? ⟨g, 2, none⟩ = some (.int .u16 r.f2) := (blk_cell HX2.out 2).trans rfl
    have z3 : w2.cell? ⟨g, 3, none⟩ = some (.int .u32 r.f3) := (blk_cell HX2.out 3).trans rfl
    have z4 : w2.cell? ⟨g, 4, none⟩ = some (.slice A4 r.f4.length c4) := (blk_cell HX2.out 4).trans rfl
    have z5 : w2.cell? ⟨g, 5, none⟩ = some (.slice A5 r.f5.length c5) := (blk_cell HX2.out 5).trans rfl
    have z6 : w2.cell? ⟨g, 6, none⟩ = some (.slice A6 r.f6.length c6) := (blk_cell HX2.out 6).trans rfl
    go_wp2_with fail
    refine (plain5_calls r _ _ (HV.out.below HB2.out) HF.out).mono ?_
    rw [HE.out]
    rintro e w3 ⟨rfl, hb⟩
    have HB3 := Aside0.mk (below_step HB2.out hb)
    clear hb
    go_wp2_with fail
    go_ret
    exact ⟨rfl, HB3.out⟩
  · rw [if_neg k] at hR
    subst hR
    have hne : (n != 0) = true := by rw [bne_iff_ne]; exact k
    clear hn k
    go_enter Try.func54, Try.ntmps54
    go_wp2_with (((with_reducible refine gate_dst (N := 1) rfl ?_); refine box_event rfl (N := 1) rfl (cs := #[.string r.f0, .int .u16 r.f1, .int .u16 r.f2, .int .u32 r.f3, .slice A4 r.f4.length c4, .slice A5 r.f5.length c5, .slice A6 r.f6.length c6]) (t := 44) (by first | (go_simp; done) | (go_simp; rfl)) ?_; intro g hg w1 hbox hb); have HX := Aside0.mk hbox; have HB := Aside0.mk hb; have HGe := Aside0.mk hg; clear hb hg; have z0 : w1.cell? ⟨g, 0, none⟩ = some (.string r.f0) := (blk_cell HX.out 0).trans rfl; clear hbox; have z1 : w1.cell? ⟨g, 1, none⟩ = some (.int .u16 r.f1) := (blk_cell HX.out 1).trans rfl; have z2 : w1.cell? ⟨g, 2, none⟩ = some (.int .u16 r.f2) := (blk_cell HX.out 2).trans rfl; have z3 : w1.cell? ⟨g, 3, none⟩ = some (.int .u32 r.f3) := (blk_cell HX.out 3).trans rfl; have z4 : w1.cell? ⟨g, 4, none⟩ = some (.slice A4 r.f4.length c4) := (blk_cell HX.out 4).trans rfl; have z5 : w1.cell? ⟨g, 5, none⟩ = some (.slice A5 r.f5.length c5) := (blk_cell HX.out 5).trans rfl; have z6 : w1.cell? ⟨g, 6, none⟩ = some (.slice A6 r.f6.length c6) := (blk_cell HX.out 6).trans rfl)
    refine (check5_calls r _ _ (HV.out.below HB.out) HF.out HZ.out).mono ?_
    rw [HN.out]
    rintro e w2 ⟨rfl, hb⟩
    have HX2 := Aside0.mk (blk_below HX.out hb)
    have HB2 := Aside0.mk (HB.out.trans (hb.mono (below_size HB.out)))
    clear hb z0 z1 z2 z3 z4 z5 z6
    have z0 : w2.cell? ⟨g, 0, none⟩ = some (.string r.f0) := (blk_cell HX2.out 0).trans rfl
    have z1 : w2.cell? ⟨g, 1, none⟩ = some (.int .u16 r.f1) := (blk_cell HX2.out 1).trans rfl
    have z2 : w2.cell? ⟨g, 2, none⟩ = some (.int .u16 r.f2) := (blk_cell HX2.out 2).trans rfl
    have z3 : w2.cell? ⟨g, 3, none⟩ = some (.int .u32 r.f3) := (blk_cell HX2.out 3).trans rfl
    have z4 : w2.cell? ⟨g, 4, none⟩ = some (.slice A4 r.f4.length c4) := (blk_cell HX2.out 4).trans rfl
    have z5 : w2.cell? ⟨g, 5, none⟩ = some (.slice A5 r.f5.length c5) := (blk_cell HX2.out 5).trans rfl
    have z6 : w2.cell? ⟨g, 6, none⟩ = some (.slice A6 r.f6.length c6) := (blk_cell HX2.out 6).trans rfl
    go_wp2_with fail
    go_ret
    exact ⟨rfl, HB2.out⟩
/-- A sum over the first ones. -/
def sumN {α : Type} (f : α → Nat) (l : List α) (k : Nat) : Nat := ((l.take k).map f).sum
theorem sumN_zero {α : Type} (f : α → Nat) (l : List α) : sumN f l 0 = 0 := rfl
theorem sumN_end {α : Type} (f : α → Nat) (l : List α) : sumN f l l.length = (l.map f).sum := by unfold sumN; rw [List.take_length]
theorem sumN_next {α : Type} (f : α → Nat) (z : α) (l : List α) (k : Nat) (h : k < l.length) : sumN f l (k + 1) = sumN f l k + f (l.getD k z) := by
  unfold sumN
  rw [List.take_succ_eq_append_getElem h, List.map_append, List.sum_append, List.getD_eq_getElem?_getD, List.getElem?_eq_getElem h]
  simp
theorem sumN_le {α : Type} (f : α → Nat) (B : Nat) (l : List α) (h : ∀ x ∈ l, f x ≤ B) (k : Nat) : sumN f l k ≤ B * k := by
  unfold sumN
  induction k generalizing l with
  | zero => simp
  | succ k ih =>
    cases l with
    | nil => simp
    | cons a l =>
      rw [List.take_succ_cons, List.map_cons, List.sum_cons]
      have h1 := ih l (fun x hx => h x (by simp [hx]))
      have h2 := h a (by simp)
      rw [Nat.mul_add, Nat.mul_one]
      omega
def lenQ (q : Ques) : Nat := q.f0.size + 4
def lenR (r : Rec) : Nat := r.f0.size + 10 + (plainS r).size
/-- How long a message is without pointers. -/
def plainM (m : Msg) : Nat := 12 + (m.qs.map lenQ).sum + ((m.ans ++ m.auth ++ m.add).map lenR).sum
set_option maxHeartbeats 4000000 in
set_option maxRecDepth 100000 in
theorem plain7_calls (m : Msg) (v : Value) (w : World) (hv : MsgAt w v m) (hm : MsgOk m) (hc : checkM m = 0) :
    Calls Try.prog 28 #[v] w fun e w' => e = .returned (.int .i64 (plainM m : Nat)) ∧ Below w.heap.size w w' := by
  have HV := Aside0.mk hv
  obtain ⟨A2, c2, A3, c3, A4, c4, A5, c5, rfl, l2, g2, l3, g3, l4, g4, l5, g5⟩ := hv
  have G2 := Aside0.mk g2
  obtain ⟨p1, p2, p3⟩ := check_parts hc
  obtain ⟨R, hR⟩ : ∃ R, plainM m = R := ⟨_, rfl⟩
  rw [hR]
  have HR := Lib.hid hR
  have HP2 := Lib.hid p2
  have HP3 := Lib.hid p3
  have HM := Aside0.mk hm
  have HPl := Lib.hid p1
  have m2 : (m.qs.length : Int) ≤ 256 := by omega
  clear g2 g3 g4 g5 hm hc hR p2 p3 p1
  go_enter Try.func28, Try.ntmps28
  go_wp2_with (((with_reducible refine gate_dst (N := 1) rfl ?_); refine box_event rfl (N := 1) rfl (cs := #[.int .u16 m.id, .int .u16 m.flags, .slice A2 m.qs.length c2, .slice A3 m.ans.length c3, .slice A4 m.auth.length c4, .slice A5 m.add.length c5]) (t := 26) (by first | (go_simp; done) | (go_simp; rfl)) ?_; intro g hg w1 hbox hb); have HX := Aside0.mk hbox; have HB := Aside0.mk hb; have HGe := Aside0.mk hg; clear hb hg; have z0 : w1.cell? ⟨g, 0, none⟩ = some (.int .u16 m.id) := (blk_cell HX.out 0).trans rfl; have z1 : w1.cell? ⟨g, 1, none⟩ = some (.int .u16 m.flags) := (blk_cell HX.out 1).trans rfl; have z2 : w1.cell? ⟨g, 2, none⟩ = some (.slice A2 m.qs.length c2) := (blk_cell HX.out 2).trans rfl; have z3 : w1.cell? ⟨g, 3, none⟩ = some (.slice A3 m.ans.length c3) := (blk_cell HX.out 3).trans rfl; have z4 : w1.cell? ⟨g, 4, none⟩ = some (.slice A4 m.auth.length c4) := (blk_cell HX.out 4).trans rfl; have z5 : w1.cell? ⟨g, 5, none⟩ = some (.slice A5 m.add.length c5) := (blk_cell HX.out 5).trans rfl; have hlt : g < w1.heap.size := blk_lt hbox; have hlne : ¬ g = w1.heap.size := Nat.ne_of_lt hlt; clear hbox)
  go_loopg [3, 4] m.qs.length (fun kq v3 v4 w' => ∃ k : Nat, v4 = .int .i64 k ∧ v3 = .int .i64 ((12 + sumN lenQ m.qs k : Nat) : Int) ∧ Aside0 (kq + k = m.qs.length) ∧ w1 = w')
  case atStart => exact ⟨0, rfl, by rw [sumN_zero]; rfl, ⟨rfl⟩, rfl⟩
  case round =>
    obtain ⟨k, rfl, rfl, HK, rfl⟩ := hrel
    have hsm : sumN lenQ m.qs k ≤ 259 * k := sumN_le lenQ 259 m.qs (fun q hq => by
      obtain ⟨j, hj, rfl⟩ := List.getElem_of_mem hq
      have h1 := HP2.out j hj
      rw [List.getD_eq_getElem?_getD, List.getElem?_eq_getElem hj] at h1
      have := isName_size h1
      show _ + 4 ≤ 259
      exact Nat.add_le_add_right this 4) k
    cases gk with
    | zero =>
      obtain rfl : k = m.qs.length := by have := HK.out; omega
      rw [sumN_end] at hsm ⊢
      obtain ⟨n, hn⟩ : ∃ n, 12 + (m.qs.map lenQ).sum = n := ⟨_, rfl⟩
      rw [hn]
      have HN := Lib.hid hn
      have HNl := Lib.hid (show n ≤ 100000 by omega)
      clear hn hsm HK
      go_wp2_with fail
      refine (Records_calls m _ _ (HV.out.below HB.out) (by have := HPl.out; omega) (by have := HPl.out; omega) (by have := HPl.out; omega)).mono ?_
      rintro e w2 ⟨A, c, rfl, hlc, hlr, hb⟩
      have HB2 := Aside0.mk (below_step HB.out hb)
      obtain ⟨l, hl⟩ : ∃ l, m.ans ++ m.auth ++ m.add = l := ⟨_, rfl⟩
      rw [hl] at hlc hlr ⊢
      have HL := Lib.hid hl
      have HLR := Aside0.mk hlr
      have q0 : (l.length : Int) ≤ 256 := by have := HPl.out; rw [← hl, List.length_append, List.length_append]; omega
      clear z0 z1 z2 z3 z4 z5 hb hlr hl
      go_wp2_with fail
      go_loopg [3, 6] l.length (fun kq v3 v6 w' => ∃ k : Nat, v6 = .int .i64 k ∧ v3 = .int .i64 ((n + sumN lenR l k : Nat) : Int) ∧ Aside0 (kq + k = l.length) ∧ Aside0 (Below w2.heap.size w2 w'))
      case atStart => exact ⟨0, rfl, by rw [sumN_zero]; rfl, ⟨rfl⟩, ⟨Below.refl _ _⟩⟩
      case round =>
        obtain ⟨k, rfl, rfl, HK, HBr⟩ := hrel
        have hsm : sumN lenR l k ≤ 70000 * k := sumN_le lenR 70000 l (fun r hr => by
          rw [← HL.out] at hr
          have h2 := check_small (HM.out.fine r hr) (HP3.out r hr)
          have := isName_size h2.2.2.1
          have h3 : (plainS r).size ≤ 65535 := by unfold plainS; rw [if_pos (HP3.out r hr), strOfNums_size]; exact h2.2.1
          show _ + 10 + _ ≤ 70000
          omega) k
        cases gk with
        | zero =>
          obtain rfl : k = l.length := by have := HK.out; omega
          have HF := Lib.hid (show n + sumN lenR l l.length = R by rw [sumN_end, ← HR.out, ← HN.out, ← HL.out]; rfl)
          rw [HF.out]
          clear hsm
          go_wp2_with fail
          go_ret
          exact ⟨rfl, HB2.out.trans (HBr.out.mono HB2.out.size)⟩
        | succ j =>
          have hk : k < l.length := by have := HK.out; omega
          obtain ⟨ad, A4', c4', A5', c5', A6, c6, r, hA, hr, e0, e1, e2, e3, e4, e5, e6, hrec⟩ := at_rec (Kd.C_below HLR.out HBr.out) k hk
          subst hA
          have hin : r ∈ m.ans ++ m.auth ++ m.add := by rw [HL.out, ← hr]; exact getD_mem zRec hk
          have hck := HP3.out r hin
          have HFn := Aside0.mk (HM.out.fine r hin)
          have h2 := check_small HFn.out hck
          have hz := isName_size h2.2.2.1
          have h3 : (plainS r).size ≤ 65535 := by unfold plainS; rw [if_pos hck, strOfNums_size]; exact h2.2.1
          have hnx := sumN_next lenR zRec l k hk
          rw [hr] at hnx
          have HNx := Lib.hid (show n + sumN lenR l (k + 1) = n + sumN lenR l k + r.f0.size + 10 + (plainS r).size by rw [hnx]; unfold lenR; omega)
          obtain ⟨a, ha⟩ : ∃ a, n + sumN lenR l k = a := ⟨_, rfl⟩
          rw [ha] at HNx ⊢
          have q1 : (a : Int) ≤ 20000000 := by have := HNl.out; omega
          have q2 : (r.f0.size : Int) ≤ 255 := by omega
          obtain ⟨t, ht⟩ : ∃ t, plainS r = t := ⟨_, rfl⟩
          rw [ht] at h3 HNx
          have HT := Lib.hid ht
          have q3 : (t.size : Int) ≤ 65535 := by omega
          have q4 : (0 : Int) ≤ (k : Int) := by omega
          have q5 : (k : Int) < (l.length : Int) := by omega
          have HRec := Aside0.mk hrec
          have hw1 : IntKind.i64.wrap ((a : Int) + (r.f0.size : Int)) = (a : Int) + (r.f0.size : Int) := by rw [IntKind.wrap_i64]; omega
          have hw2 : IntKind.i64.wrap ((a : Int) + (r.f0.size : Int) + 10) = (a : Int) + (r.f0.size : Int) + 10 := by rw [IntKind.wrap_i64]; omega
          have hw3 : IntKind.i64.wrap ((a : Int) + (r.f0.size : Int) + 10 + (t.size : Int)) = (a : Int) + (r.f0.size : Int) + 10 + (t.size : Int) := by rw [IntKind.wrap_i64]; omega
          clear hsm hr hck h2 hz h3 hnx ha ht hin hrec
          go_wp2_with fail
          refine dr_start (fun w' => w'.cell? (ad.add (k * 7)) = some (.string r.f0) ∧ w'.cell? ⟨(ad.add (k * 7)).block, (ad.add (k * 7)).off + 1, none⟩ = some (.int .u16 r.f1) ∧ w'.cell? ⟨(ad.add (k * 7)).block, (ad.add (k * 7)).off + 2, none⟩ = some (.int .u16 r.f2) ∧ w'.cell? ⟨(ad.add (k * 7)).block, (ad.add (k * 7)).off + 3, none⟩ = some (.int .u32 r.f3) ∧
            w'.cell? ⟨(ad.add (k * 7)).block, (ad.add (k * 7)).off + 4, none⟩ = some (.slice A4' r.f4.length c4') ∧ w'.cell? ⟨(ad.add (k * 7)).block, (ad.add (k * 7)).off + 5, none⟩ = some (.slice A5' r.f5.length c5') ∧ w'.cell? ⟨(ad.add (k * 7)).block, (ad.add (k * 7)).off + 6, none⟩ = some (.slice A6 r.f6.length c6)) [] (by kernel_rfl) ⟨e0, e1, e2, e3, e4, e5, e6⟩ (fun hS => ?_)
          repeat (first | (refine dr_pure (by kernel_rfl) (by rfl) (fun _ _ _ h => h) (v := ?_) (a' := ?_) ?_ ?_ ?_; rotate_left 2; (focus (intro w'; go_simp; with_reducible rfl)); (focus (simp only [Act.put, List.setIfInBounds_toArray, List.set_cons_zero, List.set_cons_succ]; rfl))) | (refine dr_take (by kernel_rfl) (by rfl) (fun _ _ _ h => h) hS (v := ?_) (a' := ?_) ?_ ?_ ?_; rotate_left 2; (focus (intro w' hS'; go_simp; with_reducible rfl)); (focus (simp only [Act.put, List.setIfInBounds_toArray, List.set_cons_zero, List.set_cons_succ]; rfl))) | (refine dr_off (by kernel_rfl) (by rfl) (fun _ _ _ h => h) (a' := ?_) ?_ ?_; rotate_left; (focus (simp only [Act.put, List.setIfInBounds_toArray, List.set_cons_zero, List.set_cons_succ]; rfl))))
          refine dr_call Try.func54 (by kernel_rfl) rfl rfl (by kernel_rfl) (by kernel_rfl) (by rfl) (args := #[.agg #[.string r.f0, .int .u16 r.f1, .int .u16 r.f2, .int .u32 r.f3, .slice A4' r.f4.length c4', .slice A5' r.f5.length c5', .slice A6 r.f6.length c6]]) (by first | rfl | kernel_rfl | (simp [Act.eval]; done)) ?_
          refine (Plain5_calls r _ _ (HRec.out.below (Below.refl wr.heap.size wr).drew) HFn.out (by omega)).mono ?_
          rw [HT.out]
          rintro e w3 ⟨rfl, hb⟩
          have hb3 := undrew hb
          have HB3 := Aside0.mk (HBr.out.trans (hb3.mono HBr.out.size))
          refine .inl ⟨_, rfl, ⟨pw_cell_below hb3 e0, pw_cell_below hb3 e1, pw_cell_below hb3 e2, pw_cell_below hb3 e3, pw_cell_below hb3 e4, pw_cell_below hb3 e5, pw_cell_below hb3 e6⟩, fun hS => ?_⟩
          clear hb hb3 e0 e1 e2 e3 e4 e5 e6
          refine dr_norm (a' := ?_) ?_ ?_
          rotate_left
          · simp only [Act.put, List.setIfInBounds_toArray, List.set_cons_zero, List.set_cons_succ]; rfl
          repeat (first | (refine dr_pure (by kernel_rfl) (by rfl) (fun _ _ _ h => h) (v := ?_) (a' := ?_) ?_ ?_ ?_; rotate_left 2; (focus (intro w'; go_simp; with_reducible rfl)); (focus (simp only [Act.put, List.setIfInBounds_toArray, List.set_cons_zero, List.set_cons_succ]; rfl))) | (refine dr_take (by kernel_rfl) (by rfl) (fun _ _ _ h => h) hS (v := ?_) (a' := ?_) ?_ ?_ ?_; rotate_left 2; (focus (intro w' hS'; go_simp; with_reducible rfl)); (focus (simp only [Act.put, List.setIfInBounds_toArray, List.set_cons_zero, List.set_cons_succ]; rfl))) | (refine dr_off (by kernel_rfl) (by rfl) (fun _ _ _ h => h) (a' := ?_) ?_ ?_; rotate_left; (focus (simp only [Act.put, List.setIfInBounds_toArray, List.set_cons_zero, List.set_cons_succ]; rfl))))
          refine dr_done (by kernel_rfl) ?_
          clear hS
          go_wp2_with fail
          go_roundg j
          case measure => omega
          case rel => exact ⟨k + 1, by go_num, by rw [HNx.out]; refine congrArg (Value.int IntKind.i64) ?_; omega, ⟨by have := HK.out; omega⟩, HB3⟩
    | succ j =>
      have hk : k < m.qs.length := by have := HK.out; omega
      obtain ⟨ad, q, rfl, hq, e0, e1, e2⟩ := at_ques (Kd.C_below G2.out HB.out) k hk
      have hnx := sumN_next lenQ zQues m.qs k hk
      rw [hq] at hnx
      have hz := isName_size (by have := HP2.out k hk; rw [hq] at this; exact this)
      have HNx := Lib.hid (show 12 + sumN lenQ m.qs (k + 1) = 12 + sumN lenQ m.qs k + q.f0.size + 4 by rw [hnx]; unfold lenQ; omega)
      obtain ⟨n, hn⟩ : ∃ n, 12 + sumN lenQ m.qs k = n := ⟨_, rfl⟩
      rw [hn] at HNx ⊢
      have q1 : (n : Int) ≤ 100000 := by omega
      have q2 : (q.f0.size : Int) ≤ 255 := by omega
      have q3 : (0 : Int) ≤ (k : Int) := by omega
      have q4 : (k : Int) < (m.qs.length : Int) := by omega
      clear hsm hnx hz hn hq
      go_wp2_with fail
      go_roundg j
      case measure => omega
      case rel => exact ⟨k + 1, by go_num, by rw [HNx.out]; go_num, ⟨by have := HK.out; omega⟩, rfl⟩
end Go.Proofs.Ytbbeikdbioelgaa.M
