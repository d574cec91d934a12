/- Walk of nunciolaw06.awake: the answers that the document fixes. -/
import Derived.Test.YtbbeikdbioelgaaKMRDns
set_option linter.unusedVariables false
set_option linter.unusedSimpArgs false
namespace Go.Proofs.Ytbbeikdbioelgaa.M
open Go.RowKit Go.Maps Go.Proofs.YtbbeikdbioelgaaW.PrintWords Go.Proofs.YtbbeikdbioelgaaW.PrintLast Go.Proofs.YtbbeikdbioelgaaW.PrintMore
attribute [local go_sem] max2_int min2_int max_two min_two max_three min_three max_four min_four
attribute [local go_sem ↓] Go.wp_at_zero Go.wp_at_succ
theorem aw6_name : nameT (nameAt ⟨#[1, 97, 0, 1, 98, 192, 0]⟩ 3) = .returned (.tuple #[.string ⟨#[1, 98, 1, 97, 0]⟩, .int .i64 7, .int .i64 0]) := by kernel_rfl
theorem aw6_read : readF ⟨#[0, 7, 1, 0, 0, 1, 0, 0, 0, 0, 0, 0, 1, 97, 0, 0, 1, 0, 1]⟩ = (⟨7, 256, [⟨⟨#[1, 97, 0]⟩, 1, 1⟩], [], [], []⟩, 0) := by kernel_rfl
theorem aw6_short : readF ⟨#[0]⟩ = (zM, 2) := by kernel_rfl
set_option maxHeartbeats 4000000 in
set_option maxRecDepth 100000 in
theorem awake6_calls (w : World) :
    Calls Try.prog 21 #[] w fun e w' => e = .returned (.bool true) ∧ Below w.heap.size w w' := by
  go_enter Try.func21, Try.ntmps21
  go_wp2_with fail
  refine (Name_calls _ 3 _ (by decide) (by decide) (by decide)).mono ?_
  rw [aw6_name]
  rintro e w1 ⟨rfl, hb⟩
  have HB := Aside0.mk hb
  clear hb
  go_wp2_with fail
  refine (Read_calls _ _ (by decide)).mono ?_
  rw [aw6_read]
  rintro e w2 ⟨⟨v, rfl, hm⟩, hb⟩
  obtain ⟨A2, c2, A3, c3, A4, c4, A5, c5, rfl, l2, g2, l3, g3, l4, g4, l5, g5⟩ := hm
  obtain ⟨ad, hA, y0, -, -⟩ := at_TQues g2 0 (by decide) (by decide)
  have HB2 := Aside0.mk (below_step HB.out hb)
  clear hb g2 g3 g4 g5 l3 l4 l5 l2
  have Y0 : Aside0 (w2.cell? (ad.add 0) = some (.string ⟨#[1, 97, 0]⟩)) := ⟨y0⟩
  obtain rfl : A2 = some ad := hA
  clear y0
  go_wp2_with fail
  have hx := SAt.new w2 #[.int .u16 7, .int .u16 256, .slice (some ad) 1 c2, .slice A3 0 c3, .slice A4 0 c4, .slice A5 0 c5] 26
  have hb3 := below_alloc (Below.refl w2.heap.size w2) (.cells #[.int .u16 7, .int .u16 256, .slice (some ad) 1 c2, .slice A3 0 c3, .slice A4 0 c4, .slice A5 0 c5] 26 (0, 0))
  have HB3 := Aside0.mk (below_step HB2.out hb3)
  have Y3 := Aside0.mk (pw_cell_below hb3 Y0.out)
  generalize hW : w2.alloc (.cells #[.int .u16 7, .int .u16 256, .slice (some ad) 1 c2, .slice A3 0 c3, .slice A4 0 c4, .slice A5 0 c5] 26 (0, 0)) = w3 at *
  obtain ⟨h, hh⟩ : ∃ h, w2.heap.size = h := ⟨_, rfl⟩
  rw [hh] at hx ⊢
  clear hW hh hb3 HB Y0
  refine (Read_calls _ _ (by decide)).mono ?_
  rw [aw6_short]
  rintro e w4 ⟨⟨v, rfl, hm⟩, hb⟩
  obtain ⟨B2, d2, B3, d3, B4, d4, B5, d5, rfl, -⟩ := hm
  have hx4 := hx.below hb
  have HB4 := Aside0.mk (below_step HB3.out hb)
  have y0 := pw_cell_below hb Y3.out
  have z0 := hx4.is 0 rfl
  have z2 := hx4.is 2 rfl
  have hlt : h < w4.heap.size := hx4.lt
  have hlne : ¬ h = w4.heap.size := Nat.ne_of_lt hlt
  clear hb hx hx4
  have y1 : ∀ o, (w4.alloc o).cell? ad = some (.string ⟨#[1, 97, 0]⟩) := fun o => pw_cell_below (below_alloc (Below.refl _ _) o) y0
  clear y0
  go_wp2_with fail
  go_ret
  exact ⟨rfl, below_alloc HB4.out _⟩
end Go.Proofs.Ytbbeikdbioelgaa.M
