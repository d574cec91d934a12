/- Walks of package dnswrite: sections, Check. -/
import Derived.Test.YtbbeikdbioelgaaKMRecord
set_option linter.unusedVariables false
set_option linter.unusedSimpArgs false
namespace Go.Proofs.Ytbbeikdbioelgaa.M
open Go.RowKit Go.Maps Go.Proofs.YtbbeikdbioelgaaW.PrintWords Go.Proofs.YtbbeikdbioelgaaW.PrintLast Go.Proofs.YtbbeikdbioelgaaW.PrintMore
attribute [local go_sem] max2_int min2_int max_two min_two max_three min_three max_four min_four
theorem at_rec {w : World} {A : Option Addr} {n : Nat} {xs : List Rec} (h : kRec.C w A n xs) (k : Nat) (h1 : k < n) : ∃ ad A4 c4 A5 c5 A6 c6 r, A = some ad ∧ xs.getD k zRec = r ∧ w.cell? (ad.add (k * 7)) = some (.string r.f0) ∧ w.cell? ⟨(ad.add (k * 7)).block, (ad.add (k * 7)).off + 1, none⟩ = some (.int .u16 r.f1) ∧ w.cell? ⟨(ad.add (k * 7)).block, (ad.add (k * 7)).off + 2, none⟩ = some (.int .u16 r.f2) ∧ w.cell? ⟨(ad.add (k * 7)).block, (ad.add (k * 7)).off + 3, none⟩ = some (.int .u32 r.f3) ∧
    w.cell? ⟨(ad.add (k * 7)).block, (ad.add (k * 7)).off + 4, none⟩ = some (.slice A4 r.f4.length c4) ∧ w.cell? ⟨(ad.add (k * 7)).block, (ad.add (k * 7)).off + 5, none⟩ = some (.slice A5 r.f5.length c5) ∧ w.cell? ⟨(ad.add (k * 7)).block, (ad.add (k * 7)).off + 6, none⟩ = some (.slice A6 r.f6.length c6) ∧ RecAt w (.agg #[.string r.f0, .int .u16 r.f1, .int .u16 r.f2, .int .u32 r.f3, .slice A4 r.f4.length c4, .slice A5 r.f5.length c5, .slice A6 r.f6.length c6]) r := by
  obtain ⟨ad, A4, c4, A5, c5, A6, c6, e, h0, h1, h2, h3, h4, h5, h6, l4, g4, l5, g5, l6, g6⟩ := at_TRec h k (by omega) (by omega)
  rw [Int.toNat_natCast] at h0 h1 h2 h3 h4 h5 h6
  exact ⟨ad, A4, c4, A5, c5, A6, c6, _, e, rfl, h0, h1, h2, h3, h4, h5, h6, A4, c4, A5, c5, A6, c6, rfl, l4, g4, l5, g5, l6, g6⟩
theorem at_ques {w : World} {A : Option Addr} {n : Nat} {xs : List Ques} (h : kQues.C w A n xs) (k : Nat) (h1 : k < n) : ∃ ad q, A = some ad ∧ xs.getD k zQues = q ∧ w.cell? (ad.add (k * 3)) = some (.string q.f0) ∧ w.cell? ⟨(ad.add (k * 3)).block, (ad.add (k * 3)).off + 1, none⟩ = some (.int .u16 q.f1) ∧ w.cell? ⟨(ad.add (k * 3)).block, (ad.add (k * 3)).off + 2, none⟩ = some (.int .u16 q.f2) := by
  obtain ⟨ad, e, h0, h1, h2⟩ := at_TQues h k (by omega) (by omega)
  rw [Int.toNat_natCast] at h0 h1 h2
  exact ⟨ad, _, e, rfl, h0, h1, h2⟩
end Go.Proofs.Ytbbeikdbioelgaa.M
