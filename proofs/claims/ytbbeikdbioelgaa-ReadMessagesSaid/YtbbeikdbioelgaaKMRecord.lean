/- Walks of rdata.Plain and of package dnswrite: data, record. -/
import Derived.Test.YtbbeikdbioelgaaKMWriter
set_option linter.unusedVariables false
set_option linter.unusedSimpArgs false
namespace Go.Proofs.Ytbbeikdbioelgaa.M
open Go.RowKit Go.Maps Go.Proofs.YtbbeikdbioelgaaW.PrintWords Go.Proofs.YtbbeikdbioelgaaW.PrintLast Go.Proofs.YtbbeikdbioelgaaW.PrintMore
attribute [local go_sem] max2_int min2_int max_two min_two max_three min_three max_four min_four
attribute [local go_sem ↓] Go.wp_at_zero Go.wp_at_succ
theorem WAt.alloc {w0 w w1 : World} {q mb N : Nat} {out : List Int} {m : List UInt8 → Option Int} (h : WAt w0 w q mb out m N) (hb : Below w.heap.size w w1) : WAt w0 w1 q mb out m N := by
  obtain ⟨⟨v, hx, ho⟩, ⟨D, hM, hR⟩, h3, h4, h5, h6⟩ := h
  exact ⟨⟨v, blk_below hx hb, Kd.R_below ho hb⟩, ⟨D, mapOf_far hM (hb.block mb hM.lt), hR⟩, h3, h4, h5, h6.trans (hb.mono h6.size)⟩
theorem WAt.lt {w0 w : World} {q mb N : Nat} {out : List Int} {m : List UInt8 → Option Int} (h : WAt w0 w q mb out m N) : q < w.heap.size ∧ mb < w.heap.size := by
  obtain ⟨⟨v, hx, ho⟩, ⟨D, hM, hR⟩, h3, h4, h5, h6⟩ := h
  exact ⟨blk_lt hx, hM.lt⟩
end Go.Proofs.Ytbbeikdbioelgaa.M
