/- Walks of package nuncioref05: Shape, shaped. -/
import Derived.Test.YtbbeikdbioelgaaMRefIs
import Derived.Test.YtbbeikdbioelgaaMPlain
set_option linter.unusedVariables false
set_option linter.unusedSimpArgs false
namespace Go.Proofs.Ytbbeikdbioelgaa.M
open Go.RowKit Go.Proofs.YtbbeikdbioelgaaW.PrintWords Go.Proofs.YtbbeikdbioelgaaW.PrintLast Go.Proofs.YtbbeikdbioelgaaW.PrintMore
attribute [local go_sem] max2_int min2_int max_two min_two max_three min_three max_four min_four
set_option maxHeartbeats 2000000 in
set_option maxRecDepth 100000 in
theorem Shape5_calls (k : Int) (w : World) : Calls Try.prog 71 #[.int .u16 k] w fun e w' => e = .returned (.tuple #[.int .i64 (shapeOf k).1, .int .i64 (shapeOf k).2.1, .int .i64 (shapeOf k).2.2]) ∧ w = w' := by
  obtain ⟨x, hx⟩ : ∃ x, shapeOf k = x := ⟨_, rfl⟩
  rw [hx]
  unfold shapeOf at hx
  by_cases h2 : k = 2
  · subst h2
    subst hx
    go_enter Try.func71, Try.ntmps71
    go_wp2
    first | go_ret3 | (refine bodyPost_ret (results_tmp3 rfl _ _ _) rfl ?_) | (refine bodyPost_ret (by simp [results, Try.results71, go_sem]; rfl) rfl ?_)
    exact ⟨rfl, rfl⟩
  have e2 : (k == 2) = false := beq_eq_false_iff_ne.mpr h2
  by_cases h5 : k = 5
  · subst h5
    subst hx
    go_enter Try.func71, Try.ntmps71
    go_wp2
    first | go_ret3 | (refine bodyPost_ret (results_tmp3 rfl _ _ _) rfl ?_) | (refine bodyPost_ret (by simp [results, Try.results71, go_sem]; rfl) rfl ?_)
    exact ⟨rfl, rfl⟩
  have e5 : (k == 5) = false := beq_eq_false_iff_ne.mpr h5
  by_cases h12 : k = 12
  · subst h12
    subst hx
    go_enter Try.func71, Try.ntmps71
    go_wp2
    first | go_ret3 | (refine bodyPost_ret (results_tmp3 rfl _ _ _) rfl ?_) | (refine bodyPost_ret (by simp [results, Try.results71, go_sem]; rfl) rfl ?_)
    exact ⟨rfl, rfl⟩
  have e12 : (k == 12) = false := beq_eq_false_iff_ne.mpr h12
  by_cases h6 : k = 6
  · subst h6
    subst hx
    go_enter Try.func71, Try.ntmps71
    go_wp2
    first | go_ret3 | (refine bodyPost_ret (results_tmp3 rfl _ _ _) rfl ?_) | (refine bodyPost_ret (by simp [results, Try.results71, go_sem]; rfl) rfl ?_)
    exact ⟨rfl, rfl⟩
  have e6 : (k == 6) = false := beq_eq_false_iff_ne.mpr h6
  by_cases h15 : k = 15
  · subst h15
    subst hx
    go_enter Try.func71, Try.ntmps71
    go_wp2
    first | go_ret3 | (refine bodyPost_ret (results_tmp3 rfl _ _ _) rfl ?_) | (refine bodyPost_ret (by simp [results, Try.results71, go_sem]; rfl) rfl ?_)
    exact ⟨rfl, rfl⟩
  have e15 : (k == 15) = false := beq_eq_false_iff_ne.mpr h15
  by_cases h33 : k = 33
  · subst h33
    subst hx
    go_enter Try.func71, Try.ntmps71
    go_wp2
    first | go_ret3 | (refine bodyPost_ret (results_tmp3 rfl _ _ _) rfl ?_) | (refine bodyPost_ret (by simp [results, Try.results71, go_sem]; rfl) rfl ?_)
    exact ⟨rfl, rfl⟩
  have e33 : (k == 33) = false := beq_eq_false_iff_ne.mpr h33
  rw [if_neg h2, if_neg h5, if_neg h12, if_neg h6, if_neg h15, if_neg h33] at hx
  subst hx
  clear h2 h5 h12 h6 h15 h33
  go_enter Try.func71, Try.ntmps71
  go_wp2
  first | go_ret3 | (refine bodyPost_ret (results_tmp3 rfl _ _ _) rfl ?_) | (refine bodyPost_ret (by simp [results, Try.results71, go_sem]; rfl) rfl ?_)
  exact ⟨rfl, rfl⟩
def badNum (r : Rec) (n : Int) : Bool := decide (¬ r.f1 = 6 ∧ 65535 < n)
def badText (r : Rec) (s : ByteArray) : Bool := decide (r.f1 = 16 ∧ 255 < s.size ∨ r.f1 = 1 ∧ s.size ≠ 4 ∨ r.f1 = 28 ∧ s.size ≠ 16)
theorem shapedB_eq (r : Rec) : shapedB r = if ¬ (r.f4.length = (shapeOf r.f1).1 ∧ r.f5.length = (shapeOf r.f1).2.1 ∧ (r.f6.length = (shapeOf r.f1).2.2 ∨ r.f1 = 16 ∧ r.f6.length ≠ 0)) then false else if r.f5.any (badNum r) then false else !(r.f6.any (badText r)) := by
  unfold shapedB
  by_cases h1 : r.f4.length = (shapeOf r.f1).1 ∧ r.f5.length = (shapeOf r.f1).2.1 ∧ (r.f6.length = (shapeOf r.f1).2.2 ∨ r.f1 = 16 ∧ r.f6.length ≠ 0)
  · rw [if_neg (fun h => h h1)]
    have hn : decide (r.f4.length = (shapeOf r.f1).1 ∧ r.f5.length = (shapeOf r.f1).2.1 ∧ (r.f6.length = (shapeOf r.f1).2.2 ∨ r.f1 = 16 ∧ r.f6.length ≠ 0) ∧ (r.f1 = 6 ∨ (r.f5.all fun n => decide (n ≤ 65535)) = true)) = !(r.f5.any (badNum r)) := by
      rw [Bool.eq_iff_iff, decide_eq_true_iff, Bool.not_eq_true', List.any_eq_false]
      constructor
      · rintro ⟨_, _, _, h⟩ n hn hb
        unfold badNum at hb
        have hb := of_decide_eq_true hb
        rcases h with h | h
        · exact hb.1 h
        · rw [List.all_eq_true] at h
          have := of_decide_eq_true (h n hn)
          omega
      · intro h
        refine ⟨h1.1, h1.2.1, h1.2.2, ?_⟩
        by_cases h6 : r.f1 = 6
        · exact .inl h6
        · right
          rw [List.all_eq_true]
          intro n hn
          have := h n hn
          unfold badNum at this
          rw [decide_eq_true_iff] at this
          exact decide_eq_true (by omega)
    have ht : shapedE r = !(r.f6.any (badText r)) := by
      unfold shapedE
      have hlen : ∀ k, r.f1 = k → k ≠ 16 → (shapeOf k).2.2 = 1 → ∃ t, r.f6 = [t] := by
        intro k hk h16 hs
        have := h1.2.2
        rw [hk, hs] at this
        rcases this with h | h
        · match hl : r.f6, h with
          | [t], _ => exact ⟨t, rfl⟩
        · exact absurd h.1 h16
      by_cases k1 : r.f1 = 1
      · obtain ⟨t, ht⟩ := hlen 1 k1 (by decide) rfl
        rw [if_pos k1, ht]
        simp only [List.getD_cons_zero, List.any_cons, List.any_nil, Bool.or_false]
        unfold badText
        rw [Bool.eq_iff_iff, Bool.not_eq_true', decide_eq_true_iff, decide_eq_false_iff_not]
        omega
      · rw [if_neg k1]
        by_cases k28 : r.f1 = 28
        · obtain ⟨t, ht⟩ := hlen 28 k28 (by decide) rfl
          rw [if_pos k28, ht]
          simp only [List.getD_cons_zero, List.any_cons, List.any_nil, Bool.or_false]
          unfold badText
          rw [Bool.eq_iff_iff, Bool.not_eq_true', decide_eq_true_iff, decide_eq_false_iff_not]
          omega
        · rw [if_neg k28]
          by_cases k16 : r.f1 = 16
          · rw [if_pos k16]
            congr 2
            funext s
            unfold tooLong badText
            congr 1
            apply propext
            omega
          · rw [if_neg k16]
            have : r.f6.any (badText r) = false := by
              rw [List.any_eq_false]
              intro s _ hb
              unfold badText at hb
              have := of_decide_eq_true hb
              omega
            rw [this]
            rfl
    rw [hn, ht]
    cases r.f5.any (badNum r) <;> rfl
  · rw [if_pos h1, decide_eq_false (fun h => h1 ⟨h.1, h.2.1, h.2.2.1⟩)]
    rfl
set_option maxHeartbeats 8000000 in
set_option maxRecDepth 100000 in
theorem shaped5_calls (r : Rec) (v : Value) (w : World) (hv : RecAt w v r) (hm : r.f6.length ≤ 1000000000) (h4 : r.f4.length ≤ 1000000000) (h5 : r.f5.length ≤ 1000000000) :
    Calls Try.prog 52 #[v] w fun e w' => e = .returned (.bool (shapedB r)) ∧ Below w.heap.size w w' := by
  obtain ⟨A4, c4, A5, c5, A6, c6, rfl, l4, g4, l5, g5, l6, g6⟩ := hv
  have G5 := Aside0.mk g5
  have G6 := Aside0.mk g6
  clear g4 g5 g6
  obtain ⟨s1, s2, s3⟩ := shapeOf_le r.f1
  obtain ⟨R, hR⟩ : ∃ R, shapedB r = R := ⟨_, rfl⟩
  rw [hR]
  rw [shapedB_eq] at hR
  obtain ⟨⟨a, b, c⟩, hs⟩ : ∃ x, shapeOf r.f1 = x := ⟨_, rfl⟩
  rw [hs] at s1 s2 s3 hR
  simp only [] at hR s1 s2 s3
  have HS := Lib.hid hs
  clear hs
  by_cases k1 : r.f4.length = a
  case neg =>
    rw [if_pos (fun h => k1 h.1)] at hR
    subst hR
    have e1 : ((r.f4.length : Int) != (a : Int)) = true := by rw [bne_iff_ne]; omega
    clear k1
    go_enter Try.func52, Try.ntmps52
    go_wp2_with (((with_reducible refine gate_dst (N := 1) rfl ?_); refine box_event rfl (N := 1) rfl (cs := #[.string r.f0, .int .u16 r.f1, .int .u16 r.f2, .int .u32 r.f3, .slice A4 r.f4.length c4, .slice A5 r.f5.length c5, .slice A6 r.f6.length c6]) (t := 44) (by first | (go_simp; done) | (go_simp; rfl)) ?_; intro g hg w1 hbox hb); have HX := Aside0.mk hbox; have HB := Aside0.mk hb; have HGe := Aside0.mk hg; clear hb hg; have z0 : w1.cell? ⟨g, 0, none⟩ = some (.string r.f0) := (blk_cell HX.out 0).trans rfl; clear hbox; have z1 : w1.cell? ⟨g, 1, none⟩ = some (.int .u16 r.f1) := (blk_cell HX.out 1).trans rfl; have z2 : w1.cell? ⟨g, 2, none⟩ = some (.int .u16 r.f2) := (blk_cell HX.out 2).trans rfl; have z3 : w1.cell? ⟨g, 3, none⟩ = some (.int .u32 r.f3) := (blk_cell HX.out 3).trans rfl; have z4 : w1.cell? ⟨g, 4, none⟩ = some (.slice A4 r.f4.length c4) := (blk_cell HX.out 4).trans rfl; have z5 : w1.cell? ⟨g, 5, none⟩ = some (.slice A5 r.f5.length c5) := (blk_cell HX.out 5).trans rfl; have z6 : w1.cell? ⟨g, 6, none⟩ = some (.slice A6 r.f6.length c6) := (blk_cell HX.out 6).trans rfl)
    refine (Shape5_calls r.f1 _).mono ?_
    rw [HS.out]
    rintro e w' ⟨rfl, rfl⟩
    go_wp2_with fail
    go_ret
    exact ⟨rfl, HB.out⟩
  have e1 : ((r.f4.length : Int) != (a : Int)) = false := by rw [bne_eq_false_iff_eq]; omega
  by_cases k2 : r.f5.length = b
  case neg =>
    rw [if_pos (fun h => k2 h.2.1)] at hR
    subst hR
    have e2 : ((r.f5.length : Int) != (b : Int)) = true := by rw [bne_iff_ne]; omega
    clear k1 k2
    go_enter Try.func52, Try.ntmps52
    go_wp2_with (((with_reducible refine gate_dst (N := 1) rfl ?_); refine box_event rfl (N := 1) rfl (cs := #[.string r.f0, .int .u16 r.f1, .int .u16 r.f2, .int .u32 r.f3, .slice A4 r.f4.length c4, .slice A5 r.f5.length c5, .slice A6 r.f6.length c6]) (t := 44) (by first | (go_simp; done) | (go_simp; rfl)) ?_; intro g hg w1 hbox hb); have HX := Aside0.mk hbox; have HB := Aside0.mk hb; have HGe := Aside0.mk hg; clear hb hg; have z0 : w1.cell? ⟨g, 0, none⟩ = some (.string r.f0) := (blk_cell HX.out 0).trans rfl; clear hbox; have z1 : w1.cell? ⟨g, 1, none⟩ = some (.int .u16 r.f1) := (blk_cell HX.out 1).trans rfl; have z2 : w1.cell? ⟨g, 2, none⟩ = some (.int .u16 r.f2) := (blk_cell HX.out 2).trans rfl; have z3 : w1.cell? ⟨g, 3, none⟩ = some (.int .u32 r.f3) := (blk_cell HX.out 3).trans rfl; have z4 : w1.cell? ⟨g, 4, none⟩ = some (.slice A4 r.f4.length c4) := (blk_cell HX.out 4).trans rfl; have z5 : w1.cell? ⟨g, 5, none⟩ = some (.slice A5 r.f5.length c5) := (blk_cell HX.out 5).trans rfl; have z6 : w1.cell? ⟨g, 6, none⟩ = some (.slice A6 r.f6.length c6) := (blk_cell HX.out 6).trans rfl)
    refine (Shape5_calls r.f1 _).mono ?_
    rw [HS.out]
    rintro e w' ⟨rfl, rfl⟩
    go_wp2_with fail
    go_ret
    exact ⟨rfl, HB.out⟩
  have e2 : ((r.f5.length : Int) != (b : Int)) = false := by rw [bne_eq_false_iff_eq]; omega
  by_cases k3 : r.f6.length = c ∨ r.f1 = 16 ∧ r.f6.length ≠ 0
  case neg =>
    rw [if_pos (fun h => k3 h.2.2)] at hR
    subst hR
    by_cases k4 : r.f1 = 16
    · have e5 : ((r.f6.length : Int) == 0) = true := beq_iff_eq.mpr (by omega)
      have e4 : (r.f1 == 16) = true := beq_iff_eq.mpr k4
      clear k1 k2 k3 k4
      go_enter Try.func52, Try.ntmps52
      go_wp2_with (((with_reducible refine gate_dst (N := 1) rfl ?_); refine box_event rfl (N := 1) rfl (cs := #[.string r.f0, .int .u16 r.f1, .int .u16 r.f2, .int .u32 r.f3, .slice A4 r.f4.length c4, .slice A5 r.f5.length c5, .slice A6 r.f6.length c6]) (t := 44) (by first | (go_simp; done) | (go_simp; rfl)) ?_; intro g hg w1 hbox hb); have HX := Aside0.mk hbox; have HB := Aside0.mk hb; have HGe := Aside0.mk hg; clear hb hg; have z0 : w1.cell? ⟨g, 0, none⟩ = some (.string r.f0) := (blk_cell HX.out 0).trans rfl; clear hbox; have z1 : w1.cell? ⟨g, 1, none⟩ = some (.int .u16 r.f1) := (blk_cell HX.out 1).trans rfl; have z2 : w1.cell? ⟨g, 2, none⟩ = some (.int .u16 r.f2) := (blk_cell HX.out 2).trans rfl; have z3 : w1.cell? ⟨g, 3, none⟩ = some (.int .u32 r.f3) := (blk_cell HX.out 3).trans rfl; have z4 : w1.cell? ⟨g, 4, none⟩ = some (.slice A4 r.f4.length c4) := (blk_cell HX.out 4).trans rfl; have z5 : w1.cell? ⟨g, 5, none⟩ = some (.slice A5 r.f5.length c5) := (blk_cell HX.out 5).trans rfl; have z6 : w1.cell? ⟨g, 6, none⟩ = some (.slice A6 r.f6.length c6) := (blk_cell HX.out 6).trans rfl)
      refine (Shape5_calls r.f1 _).mono ?_
      rw [HS.out]
      rintro e w' ⟨rfl, rfl⟩
      go_wp2_with fail
      go_ret
      exact ⟨rfl, HB.out⟩
    · have e3 : ((r.f6.length : Int) != (c : Int)) = true := by rw [bne_iff_ne]; omega
      have e4 : (r.f1 == 16) = false := beq_eq_false_iff_ne.mpr k4
      have e5 : (r.f1 != 16) = true := by rw [bne_iff_ne]; exact k4
      clear k1 k2 k3 k4
      go_enter Try.func52, Try.ntmps52
      go_wp2_with (((with_reducible refine gate_dst (N := 1) rfl ?_); refine box_event rfl (N := 1) rfl (cs := #[.string r.f0, .int .u16 r.f1, .int .u16 r.f2, .int .u32 r.f3, .slice A4 r.f4.length c4, .slice A5 r.f5.length c5, .slice A6 r.f6.length c6]) (t := 44) (by first | (go_simp; done) | (go_simp; rfl)) ?_; intro g hg w1 hbox hb); have HX := Aside0.mk hbox; have HB := Aside0.mk hb; have HGe := Aside0.mk hg; clear hb hg; have z0 : w1.cell? ⟨g, 0, none⟩ = some (.string r.f0) := (blk_cell HX.out 0).trans rfl; clear hbox; have z1 : w1.cell? ⟨g, 1, none⟩ = some (.int .u16 r.f1) := (blk_cell HX.out 1).trans rfl; have z2 : w1.cell? ⟨g, 2, none⟩ = some (.int .u16 r.f2) := (blk_cell HX.out 2).trans rfl; have z3 : w1.cell? ⟨g, 3, none⟩ = some (.int .u32 r.f3) := (blk_cell HX.out 3).trans rfl; have z4 : w1.cell? ⟨g, 4, none⟩ = some (.slice A4 r.f4.length c4) := (blk_cell HX.out 4).trans rfl; have z5 : w1.cell? ⟨g, 5, none⟩ = some (.slice A5 r.f5.length c5) := (blk_cell HX.out 5).trans rfl; have z6 : w1.cell? ⟨g, 6, none⟩ = some (.slice A6 r.f6.length c6) := (blk_cell HX.out 6).trans rfl)
      refine (Shape5_calls r.f1 _).mono ?_
      rw [HS.out]
      rintro e w' ⟨rfl, rfl⟩
      go_wp2_with fail
      go_ret
      exact ⟨rfl, HB.out⟩
  rw [if_neg (fun h => h ⟨k1, k2, k3⟩)] at hR
  have hways : ((r.f1 == 16) = true ∧ (r.f1 != 16) = false ∧ ((r.f6.length : Int) == 0) = false) ∨ ((r.f1 == 16) = false ∧ (r.f1 != 16) = true ∧ ((r.f6.length : Int) != (c : Int)) = false) := by
    by_cases k4 : r.f1 = 16
    · refine .inl ⟨beq_iff_eq.mpr k4, by rw [bne_eq_false_iff_eq]; exact k4, beq_eq_false_iff_ne.mpr ?_⟩
      rcases k3 with k3 | k3
      · have hc : c = 1 := by have := HS.out; rw [k4] at this; exact (congrArg (fun x => x.2.2) this).symm
        omega
      · omega
    · refine .inr ⟨beq_eq_false_iff_ne.mpr k4, by rw [bne_iff_ne]; exact k4, ?_⟩
      rw [bne_eq_false_iff_eq]
      rcases k3 with k3 | k3
      · omega
      · exact absurd k3.1 k4
  have HR := Aside0.mk hR
  have k5 : r.f5.length ≤ 5 := by omega
  clear k1 k2 k3 hR
  rcases hways with ⟨e3, e4, e5⟩ | ⟨e3, e4, e5⟩
  · go_enter Try.func52, Try.ntmps52
    go_wp2_with (((with_reducible refine gate_dst (N := 1) rfl ?_); refine box_event rfl (N := 1) rfl (cs := #[.string r.f0, .int .u16 r.f1, .int .u16 r.f2, .int .u32 r.f3, .slice A4 r.f4.length c4, .slice A5 r.f5.length c5, .slice A6 r.f6.length c6]) (t := 44) (by first | (go_simp; done) | (go_simp; rfl)) ?_; intro g hg w1 hbox hb); have HX := Aside0.mk hbox; have HB := Aside0.mk hb; have HGe := Aside0.mk hg; clear hb hg; have z0 : w1.cell? ⟨g, 0, none⟩ = some (.string r.f0) := (blk_cell HX.out 0).trans rfl; clear hbox; have z1 : w1.cell? ⟨g, 1, none⟩ = some (.int .u16 r.f1) := (blk_cell HX.out 1).trans rfl; have z2 : w1.cell? ⟨g, 2, none⟩ = some (.int .u16 r.f2) := (blk_cell HX.out 2).trans rfl; have z3 : w1.cell? ⟨g, 3, none⟩ = some (.int .u32 r.f3) := (blk_cell HX.out 3).trans rfl; have z4 : w1.cell? ⟨g, 4, none⟩ = some (.slice A4 r.f4.length c4) := (blk_cell HX.out 4).trans rfl; have z5 : w1.cell? ⟨g, 5, none⟩ = some (.slice A5 r.f5.length c5) := (blk_cell HX.out 5).trans rfl; have z6 : w1.cell? ⟨g, 6, none⟩ = some (.slice A6 r.f6.length c6) := (blk_cell HX.out 6).trans rfl)
    refine (Shape5_calls r.f1 _).mono ?_
    rw [HS.out]
    rintro e w' ⟨rfl, rfl⟩
    go_wp2_with fail
    go_loop [6] (fun t => ∃ k : Nat, t = .int .i64 k ∧ Aside0 (k ≤ r.f5.length) ∧ Aside0 ((if (r.f5.drop k).any (badNum r) then false else !(r.f6.any (badText r))) = R)) (fun t => r.f5.length - (intOf t).toNat)
    case atStart => exact ⟨0, rfl, ⟨Nat.zero_le _⟩, HR⟩
    case round =>
      clear HR
      obtain ⟨k, rfl, HK, HE⟩ := hrel
      have he := HE.out
      clear HE
      by_cases hk : k < r.f5.length
      · obtain ⟨ad, rfl, hcell⟩ := at_int (Kd.C_below G5.out HB.out) k hk
        have q1 : (0 : Int) ≤ (k : Int) := by omega
        have q2 : (k : Int) < (r.f5.length : Int) := by omega
        rw [drop_get 0 r.f5 k hk, List.any_cons] at he
        obtain ⟨n, hn⟩ : ∃ n, r.f5.getD k 0 = n := ⟨_, rfl⟩
        rw [hn] at hcell he
        clear hn
        by_cases hb : ¬ r.f1 = 6 ∧ 65535 < n
        · rw [show badNum r n = true from decide_eq_true hb, Bool.true_or, if_pos rfl] at he
          subst he
          have e6 : (r.f1 != 6) = true := by rw [bne_iff_ne]; exact hb.1
          have d6 : decide (65535 < n) = true := decide_eq_true hb.2
          clear hb
          go_wp2
          go_ret
          exact ⟨rfl, HB.out⟩
        · rw [show badNum r n = false from decide_eq_false hb, Bool.false_or] at he
          have HE := Aside0.mk he
          clear he
          by_cases t6 : r.f1 = 6
          · have e6 : (r.f1 != 6) = false := by rw [bne_eq_false_iff_eq]; exact t6
            clear hb t6
            go_wp2
            go_round
            case rel => exact ⟨k + 1, by go_num, ⟨hk⟩, HE⟩
            case measure => simp [intOf]; omega
          · have e6 : (r.f1 != 6) = true := by rw [bne_iff_ne]; exact t6
            have d6 : decide (65535 < n) = false := decide_eq_false (by omega)
            clear hb t6
            go_wp2
            go_round
            case rel => exact ⟨k + 1, by go_num, ⟨hk⟩, HE⟩
            case measure => simp [intOf]; omega
      · obtain rfl : k = r.f5.length := by have := HK.out; omega
        rw [List.drop_length, List.any_nil, if_neg (by decide)] at he
        obtain ⟨Q, hQ⟩ : ∃ Q, r.f6.any (badText r) = Q := ⟨_, rfl⟩
        rw [hQ] at he
        subst he
        have HR := Aside0.mk (show (r.f6.drop 0).any (badText r) = Q from hQ)
        clear hQ HK
        go_wp2
        go_loop [7] (fun t => ∃ k : Nat, t = .int .i64 k ∧ Aside0 (k ≤ r.f6.length) ∧ Aside0 ((r.f6.drop k).any (badText r) = Q)) (fun t => r.f6.length - (intOf t).toNat)
        case atStart => exact ⟨0, rfl, ⟨Nat.zero_le _⟩, HR⟩
        case round =>
          clear HR
          obtain ⟨k, rfl, HK, HE⟩ := hrel
          have he := HE.out
          clear HE
          by_cases hk : k < r.f6.length
          · obtain ⟨ad, rfl, hcell⟩ := at_str (Kd.C_below G6.out HB.out) k hk
            have q1 : (0 : Int) ≤ (k : Int) := by omega
            have q2 : (k : Int) < (r.f6.length : Int) := by omega
            rw [drop_get ⟨#[]⟩ r.f6 k hk, List.any_cons] at he
            obtain ⟨s, hs⟩ : ∃ s, r.f6.getD k ⟨#[]⟩ = s := ⟨_, rfl⟩
            rw [hs] at hcell he
            clear hs
            have g1 : decide ((255 : Int) < (s.size : Int)) = decide (255 < s.size) := decide_eq_decide.mpr (by omega)
            have g2 : ((s.size : Int) != 4) = decide (s.size ≠ 4) := by rw [Bool.eq_iff_iff, bne_iff_ne, decide_eq_true_iff]; omega
            have g3 : ((s.size : Int) != 16) = decide (s.size ≠ 16) := by rw [Bool.eq_iff_iff, bne_iff_ne, decide_eq_true_iff]; omega
            have hw : badText r s = decide (255 < s.size) := decide_eq_decide.mpr (by have := eq_of_beq e3; omega)
            rw [← hw] at g1
            obtain ⟨b, hb⟩ : ∃ b, badText r s = b := ⟨_, rfl⟩
            rw [hb] at he g1
            have w3 : (r.f1 == 1) = false := beq_eq_false_iff_ne.mpr (by have := eq_of_beq e3; omega)
            have w4 : (r.f1 == 28) = false := beq_eq_false_iff_ne.mpr (by have := eq_of_beq e3; omega)
            clear hb hw g2 g3
            cases b with
            | true =>
              rw [Bool.true_or] at he
              subst he
              go_wp2
              go_ret
              exact ⟨rfl, HB.out⟩
            | false =>
              rw [Bool.false_or] at he
              have HE := Aside0.mk he
              clear he
              go_wp2
              go_round
              case rel => exact ⟨k + 1, by go_num, ⟨hk⟩, HE⟩
              case measure => simp [intOf]; omega
          · obtain rfl : k = r.f6.length := by have := HK.out; omega
            rw [List.drop_length, List.any_nil] at he
            subst he
            go_wp2
            go_ret
            exact ⟨rfl, HB.out⟩
  · go_enter Try.func52, Try.ntmps52
    go_wp2_with (((with_reducible refine gate_dst (N := 1) rfl ?_); refine box_event rfl (N := 1) rfl (cs := #[.string r.f0, .int .u16 r.f1, .int .u16 r.f2, .int .u32 r.f3, .slice A4 r.f4.length c4, .slice A5 r.f5.length c5, .slice A6 r.f6.length c6]) (t := 44) (by first | (go_simp; done) | (go_simp; rfl)) ?_; intro g hg w1 hbox hb); have HX := Aside0.mk hbox; have HB := Aside0.mk hb; have HGe := Aside0.mk hg; clear hb hg; have z0 : w1.cell? ⟨g, 0, none⟩ = some (.string r.f0) := (blk_cell HX.out 0).trans rfl; clear hbox; have z1 : w1.cell? ⟨g, 1, none⟩ = some (.int .u16 r.f1) := (blk_cell HX.out 1).trans rfl; have z2 : w1.cell? ⟨g, 2, none⟩ = some (.int .u16 r.f2) := (blk_cell HX.out 2).trans rfl; have z3 : w1.cell? ⟨g, 3, none⟩ = some (.int .u32 r.f3) := (blk_cell HX.out 3).trans rfl; have z4 : w1.cell? ⟨g, 4, none⟩ = some (.slice A4 r.f4.length c4) := (blk_cell HX.out 4).trans rfl; have z5 : w1.cell? ⟨g, 5, none⟩ = some (.slice A5 r.f5.length c5) := (blk_cell HX.out 5).trans rfl; have z6 : w1.cell? ⟨g, 6, none⟩ = some (.slice A6 r.f6.length c6) := (blk_cell HX.out 6).trans rfl)
    refine (Shape5_calls r.f1 _).mono ?_
    rw [HS.out]
    rintro e w' ⟨rfl, rfl⟩
    go_wp2_with fail
    go_loop [6] (fun t => ∃ k : Nat, t = .int .i64 k ∧ Aside0 (k ≤ r.f5.length) ∧ Aside0 ((if (r.f5.drop k).any (badNum r) then false else !(r.f6.any (badText r))) = R)) (fun t => r.f5.length - (intOf t).toNat)
    case atStart => exact ⟨0, rfl, ⟨Nat.zero_le _⟩, HR⟩
    case round =>
      clear HR
      obtain ⟨k, rfl, HK, HE⟩ := hrel
      have he := HE.out
      clear HE
      by_cases hk : k < r.f5.length
      · obtain ⟨ad, rfl, hcell⟩ := at_int (Kd.C_below G5.out HB.out) k hk
        have q1 : (0 : Int) ≤ (k : Int) := by omega
        have q2 : (k : Int) < (r.f5.length : Int) := by omega
        rw [drop_get 0 r.f5 k hk, List.any_cons] at he
        obtain ⟨n, hn⟩ : ∃ n, r.f5.getD k 0 = n := ⟨_, rfl⟩
        rw [hn] at hcell he
        clear hn
        by_cases hb : ¬ r.f1 = 6 ∧ 65535 < n
        · rw [show badNum r n = true from decide_eq_true hb, Bool.true_or, if_pos rfl] at he
          subst he
          have e6 : (r.f1 != 6) = true := by rw [bne_iff_ne]; exact hb.1
          have d6 : decide (65535 < n) = true := decide_eq_true hb.2
          clear hb
          go_wp2
          go_ret
          exact ⟨rfl, HB.out⟩
        · rw [show badNum r n = false from decide_eq_false hb, Bool.false_or] at he
          have HE := Aside0.mk he
          clear he
          by_cases t6 : r.f1 = 6
          · have e6 : (r.f1 != 6) = false := by rw [bne_eq_false_iff_eq]; exact t6
            clear hb t6
            go_wp2
            go_round
            case rel => exact ⟨k + 1, by go_num, ⟨hk⟩, HE⟩
            case measure => simp [intOf]; omega
          · have e6 : (r.f1 != 6) = true := by rw [bne_iff_ne]; exact t6
            have d6 : decide (65535 < n) = false := decide_eq_false (by omega)
            clear hb t6
            go_wp2
            go_round
            case rel => exact ⟨k + 1, by go_num, ⟨hk⟩, HE⟩
            case measure => simp [intOf]; omega
      · obtain rfl : k = r.f5.length := by have := HK.out; omega
        rw [List.drop_length, List.any_nil, if_neg (by decide)] at he
        obtain ⟨Q, hQ⟩ : ∃ Q, r.f6.any (badText r) = Q := ⟨_, rfl⟩
        rw [hQ] at he
        subst he
        have HR := Aside0.mk (show (r.f6.drop 0).any (badText r) = Q from hQ)
        clear hQ HK
        go_wp2
        go_loop [7] (fun t => ∃ k : Nat, t = .int .i64 k ∧ Aside0 (k ≤ r.f6.length) ∧ Aside0 ((r.f6.drop k).any (badText r) = Q)) (fun t => r.f6.length - (intOf t).toNat)
        case atStart => exact ⟨0, rfl, ⟨Nat.zero_le _⟩, HR⟩
        case round =>
          clear HR
          obtain ⟨k, rfl, HK, HE⟩ := hrel
          have he := HE.out
          clear HE
          by_cases hk : k < r.f6.length
          · obtain ⟨ad, rfl, hcell⟩ := at_str (Kd.C_below G6.out HB.out) k hk
            have q1 : (0 : Int) ≤ (k : Int) := by omega
            have q2 : (k : Int) < (r.f6.length : Int) := by omega
            rw [drop_get ⟨#[]⟩ r.f6 k hk, List.any_cons] at he
            obtain ⟨s, hs⟩ : ∃ s, r.f6.getD k ⟨#[]⟩ = s := ⟨_, rfl⟩
            rw [hs] at hcell he
            clear hs
            have g1 : decide ((255 : Int) < (s.size : Int)) = decide (255 < s.size) := decide_eq_decide.mpr (by omega)
            have g2 : ((s.size : Int) != 4) = decide (s.size ≠ 4) := by rw [Bool.eq_iff_iff, bne_iff_ne, decide_eq_true_iff]; omega
            have g3 : ((s.size : Int) != 16) = decide (s.size ≠ 16) := by rw [Bool.eq_iff_iff, bne_iff_ne, decide_eq_true_iff]; omega
            obtain ⟨b, hb⟩ : ∃ b, badText r s = b := ⟨_, rfl⟩
            rw [hb] at he
            have HBt := Lib.hid hb
            have k16 : ¬ r.f1 = 16 := by intro h; rw [h] at e3; exact absurd e3 (by decide)
            clear hb
            by_cases k1 : r.f1 = 1
            · have w1 : (r.f1 == 1) = true := beq_iff_eq.mpr k1
              have hw : b = decide (s.size ≠ 4) := by rw [← HBt.out]; exact decide_eq_decide.mpr (by omega)
              rw [← hw] at g2
              have w4 : (r.f1 == 28) = false := beq_eq_false_iff_ne.mpr (by omega)
              clear hw g1 g3 k1 k16
              cases b with
              | true =>
                rw [Bool.true_or] at he
                subst he
                go_wp2
                go_ret
                exact ⟨rfl, HB.out⟩
              | false =>
                rw [Bool.false_or] at he
                have HE := Aside0.mk he
                clear he
                go_wp2
                go_round
                case rel => exact ⟨k + 1, by go_num, ⟨hk⟩, HE⟩
                case measure => simp [intOf]; omega
            have w1 : (r.f1 == 1) = false := beq_eq_false_iff_ne.mpr k1
            by_cases k28 : r.f1 = 28
            · have w3 : (r.f1 == 28) = true := beq_iff_eq.mpr k28
              have hw : b = decide (s.size ≠ 16) := by rw [← HBt.out]; exact decide_eq_decide.mpr (by omega)
              rw [← hw] at g3
              clear hw g1 g2 k1 k28 k16
              cases b with
              | true =>
                rw [Bool.true_or] at he
                subst he
                go_wp2
                go_ret
                exact ⟨rfl, HB.out⟩
              | false =>
                rw [Bool.false_or] at he
                have HE := Aside0.mk he
                clear he
                go_wp2
                go_round
                case rel => exact ⟨k + 1, by go_num, ⟨hk⟩, HE⟩
                case measure => simp [intOf]; omega
            have w3 : (r.f1 == 28) = false := beq_eq_false_iff_ne.mpr k28
            have hw : b = false := by rw [← HBt.out]; exact decide_eq_false (by omega)
            subst hw
            rw [Bool.false_or] at he
            have HE := Aside0.mk he
            clear he g1 g2 g3 k1 k28 k16
            go_wp2
            go_round
            case rel => exact ⟨k + 1, by go_num, ⟨hk⟩, HE⟩
            case measure => simp [intOf]; omega
          · obtain rfl : k = r.f6.length := by have := HK.out; omega
            rw [List.drop_length, List.any_nil] at he
            subst he
            go_wp2
            go_ret
            exact ⟨rfl, HB.out⟩
end Go.Proofs.Ytbbeikdbioelgaa.M
