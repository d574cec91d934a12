/- Walks of package rdata: Shape, shaped. -/
import Derived.Test.YtbbeikdbioelgaaMRdata
set_option linter.unusedVariables false
set_option linter.unusedSimpArgs false
namespace Go.Proofs.Ytbbeikdbioelgaa.M
open Go.RowKit Go.Proofs.YtbbeikdbioelgaaW.PrintWords Go.Proofs.YtbbeikdbioelgaaW.PrintLast Go.Proofs.YtbbeikdbioelgaaW.PrintMore
attribute [local go_sem] max2_int min2_int max_two min_two max_three min_three max_four min_four

def shapeOf (k : Int) : Nat × Nat × Nat :=
  if k = 2 then (1, 0, 0) else if k = 5 then (1, 0, 0) else if k = 12 then (1, 0, 0) else if k = 6 then (2, 5, 0) else if k = 15 then (1, 1, 0) else if k = 33 then (1, 3, 0) else (0, 0, 1)
theorem shapeOf_le (k : Int) : (shapeOf k).1 ≤ 2 ∧ (shapeOf k).2.1 ≤ 5 ∧ (shapeOf k).2.2 ≤ 1 := by
  unfold shapeOf
  repeat' split
  all_goals decide
theorem Shape_calls (k : Int) (w : World) : Calls Try.prog 75 #[.int .u16 k] w fun e w' => e = .returned (.tuple #[.int .i64 (shapeOf k).1, .int .i64 (shapeOf k).2.1, .int .i64 (shapeOf k).2.2]) ∧ w = w' := by
  obtain ⟨x, hx⟩ : ∃ x, shapeOf k = x := ⟨_, rfl⟩
  rw [hx]
  unfold shapeOf at hx
  by_cases h1 : k = 2
  · subst h1; subst hx
    go_enter Try.func75, Try.ntmps75
    go_wp2
    go_ret3
    exact ⟨rfl, rfl⟩
  by_cases h2 : k = 5
  · subst h2; subst hx
    go_enter Try.func75, Try.ntmps75
    go_wp2
    go_ret3
    exact ⟨rfl, rfl⟩
  by_cases h3 : k = 12
  · subst h3; subst hx
    go_enter Try.func75, Try.ntmps75
    go_wp2
    go_ret3
    exact ⟨rfl, rfl⟩
  by_cases h4 : k = 6
  · subst h4; subst hx
    go_enter Try.func75, Try.ntmps75
    go_wp2
    go_ret3
    exact ⟨rfl, rfl⟩
  by_cases h5 : k = 15
  · subst h5; subst hx
    go_enter Try.func75, Try.ntmps75
    go_wp2
    go_ret3
    exact ⟨rfl, rfl⟩
  by_cases h6 : k = 33
  · subst h6; subst hx
    go_enter Try.func75, Try.ntmps75
    go_wp2
    go_ret3
    exact ⟨rfl, rfl⟩
  rw [if_neg h1, if_neg h2, if_neg h3, if_neg h4, if_neg h5, if_neg h6] at hx
  subst hx
  replace h1 : (k == 2) = false := beq_eq_false_iff_ne.mpr h1
  replace h2 : (k == 5) = false := beq_eq_false_iff_ne.mpr h2
  replace h3 : (k == 12) = false := beq_eq_false_iff_ne.mpr h3
  replace h4 : (k == 6) = false := beq_eq_false_iff_ne.mpr h4
  replace h5 : (k == 15) = false := beq_eq_false_iff_ne.mpr h5
  replace h6 : (k == 33) = false := beq_eq_false_iff_ne.mpr h6
  go_enter Try.func75, Try.ntmps75
  go_wp2
  go_ret3
  exact ⟨rfl, rfl⟩

theorem four_beq (a : Nat) : ((a : Int) == 4) = decide (a = 4) := by
  rw [Bool.eq_iff_iff]
  simp only [beq_iff_eq, decide_eq_true_eq]
  omega
theorem sixteen_beq (a : Nat) : ((a : Int) == 16) = decide (a = 16) := by
  rw [Bool.eq_iff_iff]
  simp only [beq_iff_eq, decide_eq_true_eq]
  omega
/-- What stands at the end of 'has a record its type's shape?'. -/
def shapedE (r : Rec) : Bool := if r.f1 = 1 then decide ((r.f6.getD 0 ⟨#[]⟩).size = 4) else if r.f1 = 28 then decide ((r.f6.getD 0 ⟨#[]⟩).size = 16) else if r.f1 = 16 then !(r.f6.any tooLong) else true
def numsOk (r : Rec) : Prop := r.f1 = 6 ∨ ∀ j, j < r.f5.length → r.f5.getD j 0 ≤ 65535
def shapedB (r : Rec) : Bool := decide (r.f4.length = (shapeOf r.f1).1 ∧ r.f5.length = (shapeOf r.f1).2.1 ∧ (r.f6.length = (shapeOf r.f1).2.2 ∨ r.f1 = 16 ∧ r.f6.length ≠ 0) ∧ (r.f1 = 6 ∨ r.f5.all fun n => decide (n ≤ 65535))) && shapedE r

set_option maxHeartbeats 2000000 in
set_option maxRecDepth 100000 in
theorem shaped_calls (r : Rec) (v : Value) (w : World) (hv : RecAt w v r) (hm : r.f6.length ≤ 1000000000) :
    Calls Try.prog 62 #[v] w fun e w' => e = .returned (.bool (shapedB r)) ∧ Below w.heap.size w w' := by
  obtain ⟨A4, c4, A5, c5, A6, c6, rfl, l4, g4, l5, g5, l6, g6⟩ := hv
  have G5 := Aside0.mk g5
  have G6 := Aside0.mk g6
  clear g4 g5 g6
  obtain ⟨s1, s2, s3⟩ := shapeOf_le r.f1
  obtain ⟨⟨a, b, c⟩, hs⟩ : ∃ x, shapeOf r.f1 = x := ⟨_, rfl⟩
  obtain ⟨R, hR⟩ : ∃ R, shapedB r = R := ⟨_, rfl⟩
  rw [hR]
  rw [hs] at s1 s2 s3
  have HR := Lib.hid hR
  have HS := Lib.hid hs
  clear hR hs
  by_cases k1 : r.f4.length = a
  case neg =>
    have HF := Lib.hid (show R = false by rw [← HR.out]; unfold shapedB; rw [HS.out]; simp [k1])
    have e1 : ((r.f4.length : Int) != (a : Int)) = true := by rw [bne_iff_ne]; omega
    clear k1
    go_enter Try.func62, Try.ntmps62
    go_wp2_with (first | (((with_reducible refine gate_dst (N := 1) rfl ?_); refine box_event rfl (N := 1) rfl (cs := #[.string r.f0, .int .u16 r.f1, .int .u16 r.f2, .int .u32 r.f3, .slice A4 r.f4.length c4, .slice A5 r.f5.length c5, .slice A6 r.f6.length c6]) (t := 44) (by first | (go_simp; done) | (go_simp; rfl)) ?_; intro g hg w1 hbox hb); obtain ⟨z0, z1⟩ : w1.cell? ⟨g, 1, none⟩ = some (.int .u16 r.f1) ∧ w1.cell? ⟨g, 4, none⟩ = some (.slice A4 r.f4.length c4) := ⟨(blk_cell hbox 1).trans rfl, (blk_cell hbox 4).trans rfl⟩; obtain ⟨z2, z3⟩ : w1.cell? ⟨g, 5, none⟩ = some (.slice A5 r.f5.length c5) ∧ w1.cell? ⟨g, 6, none⟩ = some (.slice A6 r.f6.length c6) := ⟨(blk_cell hbox 5).trans rfl, (blk_cell hbox 6).trans rfl⟩; have HB := Aside0.mk hb; have HX := Aside0.mk hbox; clear hb hbox hg) | (go_at_call 75; refine (Shape_calls r.f1 _).mono ?_; rw [HS.out]; rintro e w' ⟨rfl, rfl⟩))
    go_ret
    exact ⟨by rw [HF.out]; rfl, HB.out⟩
  by_cases k2 : r.f5.length = b
  case neg =>
    have HF := Lib.hid (show R = false by rw [← HR.out]; unfold shapedB; rw [HS.out]; simp [k2])
    have e1 : ((r.f4.length : Int) != (a : Int)) = false := by rw [bne_eq_false_iff_eq]; omega
    have e2 : ((r.f5.length : Int) != (b : Int)) = true := by rw [bne_iff_ne]; omega
    clear k1 k2
    go_enter Try.func62, Try.ntmps62
    go_wp2_with (first | (((with_reducible refine gate_dst (N := 1) rfl ?_); refine box_event rfl (N := 1) rfl (cs := #[.string r.f0, .int .u16 r.f1, .int .u16 r.f2, .int .u32 r.f3, .slice A4 r.f4.length c4, .slice A5 r.f5.length c5, .slice A6 r.f6.length c6]) (t := 44) (by first | (go_simp; done) | (go_simp; rfl)) ?_; intro g hg w1 hbox hb); obtain ⟨z0, z1⟩ : w1.cell? ⟨g, 1, none⟩ = some (.int .u16 r.f1) ∧ w1.cell? ⟨g, 4, none⟩ = some (.slice A4 r.f4.length c4) := ⟨(blk_cell hbox 1).trans rfl, (blk_cell hbox 4).trans rfl⟩; obtain ⟨z2, z3⟩ : w1.cell? ⟨g, 5, none⟩ = some (.slice A5 r.f5.length c5) ∧ w1.cell? ⟨g, 6, none⟩ = some (.slice A6 r.f6.length c6) := ⟨(blk_cell hbox 5).trans rfl, (blk_cell hbox 6).trans rfl⟩; have HB := Aside0.mk hb; have HX := Aside0.mk hbox; clear hb hbox hg) | (go_at_call 75; refine (Shape_calls r.f1 _).mono ?_; rw [HS.out]; rintro e w' ⟨rfl, rfl⟩))
    go_ret
    exact ⟨by rw [HF.out]; rfl, HB.out⟩
  have e1 : ((r.f4.length : Int) != (a : Int)) = false := by rw [bne_eq_false_iff_eq]; omega
  have e2 : ((r.f5.length : Int) != (b : Int)) = false := by rw [bne_eq_false_iff_eq]; omega
  by_cases k3 : r.f6.length = c ∨ r.f1 = 16 ∧ r.f6.length ≠ 0
  case neg =>
    have HF := Lib.hid (show R = false by rw [← HR.out]; unfold shapedB; rw [HS.out, decide_eq_false (fun h => k3 h.2.2.1)]; rfl)
    have e3 : ((r.f6.length : Int) != (c : Int)) = true := by rw [bne_iff_ne]; omega
    by_cases k4 : r.f1 = 16
    · have e5 : ((r.f6.length : Int) == 0) = true := beq_iff_eq.mpr (by omega)
      have e4 : (r.f1 != 16) = false := by rw [bne_eq_false_iff_eq]; exact k4
      clear k1 k2 k3 k4
      go_enter Try.func62, Try.ntmps62
      go_wp2_with (first | (((with_reducible refine gate_dst (N := 1) rfl ?_); refine box_event rfl (N := 1) rfl (cs := #[.string r.f0, .int .u16 r.f1, .int .u16 r.f2, .int .u32 r.f3, .slice A4 r.f4.length c4, .slice A5 r.f5.length c5, .slice A6 r.f6.length c6]) (t := 44) (by first | (go_simp; done) | (go_simp; rfl)) ?_; intro g hg w1 hbox hb); obtain ⟨z0, z1⟩ : w1.cell? ⟨g, 1, none⟩ = some (.int .u16 r.f1) ∧ w1.cell? ⟨g, 4, none⟩ = some (.slice A4 r.f4.length c4) := ⟨(blk_cell hbox 1).trans rfl, (blk_cell hbox 4).trans rfl⟩; obtain ⟨z2, z3⟩ : w1.cell? ⟨g, 5, none⟩ = some (.slice A5 r.f5.length c5) ∧ w1.cell? ⟨g, 6, none⟩ = some (.slice A6 r.f6.length c6) := ⟨(blk_cell hbox 5).trans rfl, (blk_cell hbox 6).trans rfl⟩; have HB := Aside0.mk hb; have HX := Aside0.mk hbox; clear hb hbox hg) | (go_at_call 75; refine (Shape_calls r.f1 _).mono ?_; rw [HS.out]; rintro e w' ⟨rfl, rfl⟩))
      go_ret
      exact ⟨by rw [HF.out]; rfl, HB.out⟩
    · have e4 : (r.f1 != 16) = true := by rw [bne_iff_ne]; exact k4
      clear k1 k2 k3 k4
      go_enter Try.func62, Try.ntmps62
      go_wp2_with (first | (((with_reducible refine gate_dst (N := 1) rfl ?_); refine box_event rfl (N := 1) rfl (cs := #[.string r.f0, .int .u16 r.f1, .int .u16 r.f2, .int .u32 r.f3, .slice A4 r.f4.length c4, .slice A5 r.f5.length c5, .slice A6 r.f6.length c6]) (t := 44) (by first | (go_simp; done) | (go_simp; rfl)) ?_; intro g hg w1 hbox hb); obtain ⟨z0, z1⟩ : w1.cell? ⟨g, 1, none⟩ = some (.int .u16 r.f1) ∧ w1.cell? ⟨g, 4, none⟩ = some (.slice A4 r.f4.length c4) := ⟨(blk_cell hbox 1).trans rfl, (blk_cell hbox 4).trans rfl⟩; obtain ⟨z2, z3⟩ : w1.cell? ⟨g, 5, none⟩ = some (.slice A5 r.f5.length c5) ∧ w1.cell? ⟨g, 6, none⟩ = some (.slice A6 r.f6.length c6) := ⟨(blk_cell hbox 5).trans rfl, (blk_cell hbox 6).trans rfl⟩; have HB := Aside0.mk hb; have HX := Aside0.mk hbox; clear hb hbox hg) | (go_at_call 75; refine (Shape_calls r.f1 _).mono ?_; rw [HS.out]; rintro e w' ⟨rfl, rfl⟩))
      go_ret
      exact ⟨by rw [HF.out]; rfl, HB.out⟩
  have HG := Lib.hid (show R = (decide (r.f1 = 6 ∨ r.f5.all fun n => decide (n ≤ 65535)) && shapedE r) by rw [← HR.out]; unfold shapedB; rw [HS.out]; congr 1; exact decide_eq_decide.mpr ⟨fun h => h.2.2.2, fun h => ⟨k1, k2, k3, h⟩⟩)
  have hways : (((r.f6.length : Int) != (c : Int)) = false) ∨ (((r.f6.length : Int) != (c : Int)) = true ∧ (r.f1 != 16) = false ∧ ((r.f6.length : Int) == 0) = false) := by
    by_cases k4 : r.f6.length = c
    · exact .inl (by rw [bne_eq_false_iff_eq]; omega)
    · rcases k3 with k3 | k3
      · exact absurd k3 k4
      · exact .inr ⟨by rw [bne_iff_ne]; omega, by rw [bne_eq_false_iff_eq]; exact k3.1, beq_eq_false_iff_ne.mpr (by omega)⟩
  have ht1 : r.f1 = 1 ∨ r.f1 = 28 → 0 < r.f6.length := by
    intro h
    have : c = 1 := by
      have e := HS.out
      rcases h with h | h <;> (rw [h] at e; simpa [shapeOf] using (congrArg (fun x => x.2.2) e).symm)
    omega
  have HT := Lib.hid ht1
  have k5 : r.f5.length ≤ 5 := by simp only at s2; omega
  clear k1 k2 k3 ht1
  rcases hways with e3 | ⟨e3, e4, e5⟩
  all_goals
    go_enter Try.func62, Try.ntmps62
    go_wp2_with (first | (((with_reducible refine gate_dst (N := 1) rfl ?_); refine box_event rfl (N := 1) rfl (cs := #[.string r.f0, .int .u16 r.f1, .int .u16 r.f2, .int .u32 r.f3, .slice A4 r.f4.length c4, .slice A5 r.f5.length c5, .slice A6 r.f6.length c6]) (t := 44) (by first | (go_simp; done) | (go_simp; rfl)) ?_; intro g hg w1 hbox hb); obtain ⟨z0, z1⟩ : w1.cell? ⟨g, 1, none⟩ = some (.int .u16 r.f1) ∧ w1.cell? ⟨g, 4, none⟩ = some (.slice A4 r.f4.length c4) := ⟨(blk_cell hbox 1).trans rfl, (blk_cell hbox 4).trans rfl⟩; obtain ⟨z2, z3⟩ : w1.cell? ⟨g, 5, none⟩ = some (.slice A5 r.f5.length c5) ∧ w1.cell? ⟨g, 6, none⟩ = some (.slice A6 r.f6.length c6) := ⟨(blk_cell hbox 5).trans rfl, (blk_cell hbox 6).trans rfl⟩; have HB := Aside0.mk hb; have HX := Aside0.mk hbox; clear hb hbox hg) | (go_at_call 75; refine (Shape_calls r.f1 _).mono ?_; rw [HS.out]; rintro e w' ⟨rfl, rfl⟩))
    go_loop [48] (fun t => ∃ k : Nat, t = .int .i64 k ∧ Aside0 (k ≤ r.f5.length) ∧ Aside0 (∀ j, j < k → r.f1 = 6 ∨ r.f5.getD j 0 ≤ 65535)) (fun t => r.f5.length - (intOf t).toNat)
    case atStart => exact ⟨0, rfl, ⟨Nat.zero_le _⟩, ⟨fun j hj => absurd hj (by omega)⟩⟩
    case round =>
      obtain ⟨k, rfl, HK, HN⟩ := hrel
      by_cases hk : k < r.f5.length
      · obtain ⟨ad, rfl, hcell⟩ := at_int (Kd.C_below G5.out HB.out) k hk
        have q1 : (0 : Int) ≤ (k : Int) := by omega
        have q2 : (k : Int) < (r.f5.length : Int) := by omega
        obtain ⟨n, hn⟩ : ∃ n, r.f5.getD k 0 = n := ⟨_, rfl⟩
        rw [hn] at hcell
        have HNn := Lib.hid hn
        clear hn
        by_cases t6 : r.f1 = 6
        · have e6 : (r.f1 != 6) = false := by rw [bne_eq_false_iff_eq]; exact t6
          have HN1 := Aside0.mk (upto_succ HN.out (.inl t6))
          clear t6
          go_wp2
          go_round
          case rel => exact ⟨k + 1, by go_num, ⟨hk⟩, HN1⟩
          case measure => simp [intOf]; omega
        · have e6 : (r.f1 != 6) = true := by rw [bne_iff_ne]; exact t6
          by_cases hb : 65535 < n
          · have HF := Lib.hid (show R = false by
              rw [HG.out, Bool.and_eq_false_iff]
              refine .inl (decide_eq_false ?_)
              rintro (h | h)
              · exact t6 h
              · rw [List.all_eq_true] at h
                have := h n (by rw [← HNn.out, List.getD_eq_getElem?_getD, List.getElem?_eq_getElem hk]; exact List.getElem_mem hk)
                simp at this
                omega)
            clear t6
            go_wp2
            go_ret
            exact ⟨by rw [HF.out]; rfl, HB.out⟩
          · have HN1 := Aside0.mk (upto_succ HN.out (.inr (by rw [HNn.out]; omega)))
            clear t6
            go_wp2
            go_round
            case rel => exact ⟨k + 1, by go_num, ⟨hk⟩, HN1⟩
            case measure => simp [intOf]; omega
      · have hk' : k = r.f5.length := by have := HK.out; omega
        have HE := Lib.hid (show R = shapedE r by
          rw [HG.out, decide_eq_true, Bool.true_and]
          by_cases t6 : r.f1 = 6
          · exact .inl t6
          · refine .inr ?_
            rw [List.all_eq_true]
            intro n hn
            obtain ⟨j, hj, rfl⟩ := List.getElem_of_mem hn
            rcases HN.out j (by omega) with h | h
            · exact absurd h t6
            · rw [List.getD_eq_getElem?_getD, List.getElem?_eq_getElem hj] at h
              exact decide_eq_true h)
        clear hk'
        have h0 : (0 : Int) ≤ 0 := by decide
        by_cases t1 : r.f1 = 1
        · have l0 := HT.out (.inl t1)
          obtain ⟨ad, rfl, hcell⟩ := at_str (Kd.C_below G6.out HB.out) 0 l0
          rw [show ad.add 0 = ad from rfl] at hcell
          have l1 : (0 : Int) < (r.f6.length : Int) := by omega
          have e7 : (r.f1 == 1) = true := beq_iff_eq.mpr t1
          have HF := Lib.hid (show R = decide ((r.f6.getD 0 ⟨#[]⟩).size = 4) by rw [HE.out]; unfold shapedE; rw [if_pos t1])
          obtain ⟨s, hs⟩ : ∃ s, r.f6.getD 0 ⟨#[]⟩ = s := ⟨_, rfl⟩
          rw [hs] at hcell HF
          clear t1 hs
          go_wp2
          go_ret
          exact ⟨by rw [HF.out]; exact congrArg (fun b => Ending.returned (.bool b)) (four_beq s.size), HB.out⟩
        have e7 : (r.f1 == 1) = false := beq_eq_false_iff_ne.mpr t1
        by_cases t2 : r.f1 = 28
        · have l0 := HT.out (.inr t2)
          obtain ⟨ad, rfl, hcell⟩ := at_str (Kd.C_below G6.out HB.out) 0 l0
          rw [show ad.add 0 = ad from rfl] at hcell
          have l1 : (0 : Int) < (r.f6.length : Int) := by omega
          have e8 : (r.f1 == 28) = true := beq_iff_eq.mpr t2
          have HF := Lib.hid (show R = decide ((r.f6.getD 0 ⟨#[]⟩).size = 16) by rw [HE.out]; unfold shapedE; rw [if_neg t1, if_pos t2])
          obtain ⟨s, hs⟩ : ∃ s, r.f6.getD 0 ⟨#[]⟩ = s := ⟨_, rfl⟩
          rw [hs] at hcell HF
          clear t1 t2 hs
          go_wp2
          go_ret
          exact ⟨by rw [HF.out]; exact congrArg (fun b => Ending.returned (.bool b)) (sixteen_beq s.size), HB.out⟩
        have e8 : (r.f1 == 28) = false := beq_eq_false_iff_ne.mpr t2
        by_cases t3 : r.f1 = 16
        · have e9 : (r.f1 == 16) = true := beq_iff_eq.mpr t3
          have HF := Lib.hid (show R = !(r.f6.any tooLong) by rw [HE.out]; unfold shapedE; rw [if_neg t1, if_neg t2, if_pos t3])
          obtain ⟨b, hb⟩ : ∃ b, r.f6.any tooLong = b := ⟨_, rfl⟩
          have HFb := Lib.hid hb
          rw [hb] at HF
          clear t1 t2 t3 hb
          go_wp2_with (go_at_call 60; refine (Contains_tooLong A6 c6 r.f6 _ (Kd.C_below G6.out HB.out) (by omega) b HFb.out).mono ?_; rintro e w' ⟨rfl, hb⟩; have HB1 := Aside0.mk (HB.out.trans (hb.mono (below_size HB.out))); clear hb)
          go_ret
          exact ⟨by rw [HF.out]; rfl, HB1.out⟩
        · have e9 : (r.f1 == 16) = false := beq_eq_false_iff_ne.mpr t3
          have HF := Lib.hid (show R = true by rw [HE.out]; unfold shapedE; rw [if_neg t1, if_neg t2, if_neg t3])
          clear t1 t2 t3
          go_wp2
          go_ret
          exact ⟨by rw [HF.out]; rfl, HB.out⟩
end Go.Proofs.Ytbbeikdbioelgaa.M
