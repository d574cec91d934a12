/- Walk of nunciolaw06.ReadMessages, over the contract of the reference's Read. -/
import Derived.Test.YtbbeikdbioelgaaKMAwake6
import Derived.Test.YtbbeikdbioelgaaKMSame
set_option linter.unusedVariables false
set_option linter.unusedSimpArgs false
namespace Go.Proofs.Ytbbeikdbioelgaa.M
open Go.RowKit Go.Maps Go.Proofs.YtbbeikdbioelgaaW.PrintWords Go.Proofs.YtbbeikdbioelgaaW.PrintLast Go.Proofs.YtbbeikdbioelgaaW.PrintMore
attribute [local go_sem] max2_int min2_int max_two min_two max_three min_three max_four min_four
attribute [local go_sem ↓] Go.wp_at_zero Go.wp_at_succ
/-- The contract of the reference's Read: it reads what dnsread reads. -/
def RefRead : Prop := ∀ (s : ByteArray) (w : World), s.size ≤ 1000000 → Calls Try.prog 25 #[.string s] w fun e w' => ReadPost (readF s) w e w'
set_option maxHeartbeats 4000000 in
set_option maxRecDepth 100000 in
theorem messages_calls (H : RefRead) (s : ByteArray) (w : World) :
    Calls Try.prog 7 #[.string s] w fun e w' => e = .returned (.bool true) ∧ Below w.heap.size w w' := by
  have HL := Lib.hid H
  clear H
  by_cases h1 : 70000 < s.size
  · have d1 : decide ((70000 : Int) < (s.size : Int)) = true := decide_eq_true (by omega)
    have d2 : decide (70000 < s.size) = true := decide_eq_true h1
    clear h1
    go_enter Try.func7, Try.ntmps7
    go_wp2_with fail
    refine (awake6_calls _).mono ?_
    rintro e w1 ⟨rfl, hb⟩
    have HB := Aside0.mk hb
    clear hb
    go_wp2_with fail
    go_ret
    exact ⟨rfl, HB.out⟩
  have d1 : decide ((70000 : Int) < (s.size : Int)) = false := decide_eq_false (by omega)
  have d2 : decide (70000 < s.size) = false := decide_eq_false h1
  have HS := Lib.hid (show s.size ≤ 1000000 by omega)
  clear h1
  go_enter Try.func7, Try.ntmps7
  go_wp2_with fail
  refine (awake6_calls _).mono ?_
  rintro e w1 ⟨rfl, hb⟩
  have HB := Aside0.mk hb
  clear hb
  go_wp2_with fail
  refine (Read_calls s _ HS.out).mono ?_
  obtain ⟨⟨m, co⟩, hr⟩ : ∃ x, readF s = x := ⟨_, rfl⟩
  have HR := Lib.hid hr
  rw [hr]
  clear hr
  rintro e w2 ⟨⟨v, rfl, hm⟩, hb⟩
  have HM := Aside0.mk hm
  have HB2 := Aside0.mk (below_step HB.out hb)
  obtain ⟨A2, c2, A3, c3, A4, c4, A5, c5, rfl, -⟩ := hm
  clear hb HB
  go_wp2_with fail
  have hx := SAt.new w2 #[.int .u16 m.id, .int .u16 m.flags, .slice A2 m.qs.length c2, .slice A3 m.ans.length c3, .slice A4 m.auth.length c4, .slice A5 m.add.length c5] 26
  have hbw : Below w2.heap.size w2 (w2.alloc (.cells #[.int .u16 m.id, .int .u16 m.flags, .slice A2 m.qs.length c2, .slice A3 m.ans.length c3, .slice A4 m.auth.length c4, .slice A5 m.add.length c5] 26 (0, 0))) := below_alloc (Below.refl _ _) _
  generalize w2.alloc (.cells #[.int .u16 m.id, .int .u16 m.flags, .slice A2 m.qs.length c2, .slice A3 m.ans.length c3, .slice A4 m.auth.length c4, .slice A5 m.add.length c5] 26 (0, 0)) = w3 at *
  obtain ⟨g, hg⟩ : ∃ g, w2.heap.size = g := ⟨_, rfl⟩
  have HM3 := Aside0.mk (HM.out.below hbw)
  have HB3 := Aside0.mk (below_step HB2.out hbw)
  rw [hg] at hx ⊢
  have HX := Aside0.mk (show w3.heap[g]? = some (.cells #[.int .u16 m.id, .int .u16 m.flags, .slice A2 m.qs.length c2, .slice A3 m.ans.length c3, .slice A4 m.auth.length c4, .slice A5 m.add.length c5] 26 (0, 0)) from hx)
  clear hx hbw hg HB2 HM
  refine (HL.out s _ HS.out).mono ?_
  rw [HR.out]
  rintro e w4 ⟨⟨v, rfl, hm⟩, hb⟩
  have HX4 := Aside0.mk (blk_below HX.out hb)
  have HM4 := Aside0.mk (HM3.out.below hb)
  have HN4 := Aside0.mk hm
  have HB4 := Aside0.mk (below_step HB3.out hb)
  obtain ⟨B2, d2', B3, d3', B4, d4', B5, d5', rfl, -⟩ := hm
  clear hb HB3 HX HM3
  have y := fun o => blk_alloc HX4.out o
  have z0 : ∀ o, (w4.alloc o).cell? ⟨g, 0, none⟩ = some (.int .u16 m.id) := fun o => (blk_cell (y o) 0).trans rfl
  have z1 : ∀ o, (w4.alloc o).cell? ⟨g, 1, none⟩ = some (.int .u16 m.flags) := fun o => (blk_cell (y o) 1).trans rfl
  have z2 : ∀ o, (w4.alloc o).cell? ⟨g, 2, none⟩ = some (.slice A2 m.qs.length c2) := fun o => (blk_cell (y o) 2).trans rfl
  have z3 : ∀ o, (w4.alloc o).cell? ⟨g, 3, none⟩ = some (.slice A3 m.ans.length c3) := fun o => (blk_cell (y o) 3).trans rfl
  have z4 : ∀ o, (w4.alloc o).cell? ⟨g, 4, none⟩ = some (.slice A4 m.auth.length c4) := fun o => (blk_cell (y o) 4).trans rfl
  have z5 : ∀ o, (w4.alloc o).cell? ⟨g, 5, none⟩ = some (.slice A5 m.add.length c5) := fun o => (blk_cell (y o) 5).trans rfl
  have e1 : (co == co) = true := by simp
  clear y
  go_wp2_with fail
  refine (same6_calls (r := m) (s := m) (HM4.out.below (below_alloc (Below.refl _ _) _)) (HN4.out.below (below_alloc (Below.refl _ _) _))).mono ?_
  rintro e w5 ⟨b, rfl, hb, hbb⟩
  obtain rfl : b = true := hb.2 rfl
  have HB5 := Aside0.mk (below_step (below_alloc HB4.out _) hbb)
  clear hb hbb HB4 z0 z1 z2 z3 z4 z5
  go_wp2_with fail
  go_ret
  exact ⟨rfl, HB5.out⟩
/-- The same, as the row asks for it. -/
theorem messages_row (H : RefRead) (W : World) (s : ByteArray) (hs : s.size ≤ 140737488351232) :
    Calls Try.prog 7 #[.string s] W fun e w' => e = .returned (.bool true) ∧ Below W.heap.size W w' := messages_calls H s W
end Go.Proofs.Ytbbeikdbioelgaa.M
