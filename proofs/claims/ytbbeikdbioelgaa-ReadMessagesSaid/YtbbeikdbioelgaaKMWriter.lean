/- Walks of package dnswrite: the writer. -/
import Derived.Test.YtbbeikdbioelgaaKMPlain
import Derived.Test.YtbbeikdbioelgaaKMJDraw
import Derived.Maps.OwnSet
import Derived.Maps.Ext
import Derived.StringKeys
import Derived.StillTailTactics
import Derived.Deep.RegionHeld3
import Derived.Deep.RegionLaw
import Derived.Deep.DrawnRows
import Derived.Deep.DeepMust
set_option linter.unusedVariables false
set_option linter.unusedSimpArgs false
namespace Go.Proofs.Ytbbeikdbioelgaa.M
open Go.RowKit Go.Maps Go.Proofs.YtbbeikdbioelgaaW.PrintWords Go.Proofs.YtbbeikdbioelgaaW.PrintLast Go.Proofs.YtbbeikdbioelgaaW.PrintMore
attribute [local go_sem] max2_int min2_int max_two min_two max_three min_three max_four min_four
attribute [local go_sem ↓] Go.wp_at_zero Go.wp_at_succ
section
variable {ops : Array Oper} {o : Oper} {a : Act} {Q : Exit → Act → World → Prop} {Kc : Act → World → Prop}
end
def RepS (D : DataW Unit) (m : List UInt8 → Option Int) : Prop := ∀ l : List UInt8, Maps.has D (.string l) = (m l).isSome ∧ ∀ v, m l = some v → D.atKey (.string l) (.lit (.int .i64 0)) = .lit (.int .i64 v)
/-- A writer at block g: what it has written, and what it knows (in the map at block mb, of at most N entries). -/
structure WAt (w0 w : World) (g mb : Nat) (out : List Int) (m : List UInt8 → Option Int) (N : Nat) : Prop where
  own : ∃ v, w.heap[g]? = some (.cells #[v, .map (some mb)] 67 (0, 0)) ∧ B8 w w0.heap.size (fun _ => True) v out
  map : ∃ D : DataW Unit, w.ownsMap Try.prog 9 (plainElem Try.prog 3) mb N D ∧ RepS D m
  hg : w0.heap.size ≤ g
  hm : w0.heap.size ≤ mb
  ne : mb ≠ g
  below : Below w0.heap.size w0 w
theorem mapOf_far {w w1 : World} {mb N : Nat} {D : DataW Unit} (h : w.ownsMap Try.prog 9 (plainElem Try.prog 3) mb N D) (hb : w1.heap[mb]? = w.heap[mb]?) : w1.ownsMap Try.prog 9 (plainElem Try.prog 3) mb N D := by
  obtain ⟨es, clock, he, hr⟩ := h
  exact ⟨es, clock, hb.trans he, hr⟩
/-- What is no row of bytes, nor of the writer's own, stays. -/
def KeepT (w w' : World) (g mb : Nat) : Prop := w.heap.size ≤ w'.heap.size ∧ ∀ k cs t, w.heap[k]? = some (.cells cs t (0, 0)) → t ≠ 5 → k ≠ g → k ≠ mb → w'.heap[k]? = some (.cells cs t (0, 0))
section
variable {w w1 w2 : World} {g mb : Nat}
theorem KeepT.refl (w : World) (g mb : Nat) : KeepT w w g mb := ⟨Nat.le_refl _, fun _ _ _ h _ _ _ => h⟩
theorem KeepT.trans (h : KeepT w w1 g mb) (h2 : KeepT w1 w2 g mb) : KeepT w w2 g mb := ⟨Nat.le_trans h.1 h2.1, fun k cs t hk ht h1 h3 => h2.2 k cs t (h.2 k cs t hk ht h1 h3) ht h1 h3⟩
theorem KeepT.below (hb : Below w.heap.size w w1) (g mb : Nat) : KeepT w w1 g mb := ⟨hb.size, fun k cs t hk _ _ _ => blk_below hk hb⟩
theorem KeepT.grown {base : Nat} {v : Value} {xs : List Int} (ho : B8 w base (fun _ => True) v xs) (hg : w.grownBy w1 v.ownBlock) (g mb : Nat) : KeepT w w1 g mb :=
  ⟨hg.size, fun k cs t hk ht _ _ => blk_grown hk hg (fun e => by
    obtain ⟨cells, hc⟩ := own_typed (Kd.own_of_R ho) k e.symm
    rw [hc] at hk
    injection hk with hk
    injection hk with _ h2
    exact ht h2.symm)⟩
theorem KeepT.set (w : World) (g mb : Nat) (j : Nat) (u : Value) : KeepT w (w.setCell ⟨g, j, none⟩ u) g mb := ⟨by simp, fun k cs t hk _ h1 _ => (Below.heap_setCell w _ u k h1).trans hk⟩
theorem KeepT.map (hg : w.grownBy w1 (some mb)) (g : Nat) : KeepT w w1 g mb := ⟨hg.size, fun k cs t hk _ _ h2 => blk_grown hk hg (fun e => h2 (Option.some.inj e))⟩
theorem KeepT.drew (w : World) (g mb : Nat) : KeepT w w.drew g mb := ⟨Nat.le_refl _, fun _ _ _ h _ _ _ => h⟩
end
theorem WAt.stored {w0 w : World} {g mb N : Nat} {out : List Int} {m : List UInt8 → Option Int} {v v1 : Value} {D : DataW Unit} (hx : w.heap[g]? = some (.cells #[v, .map (some mb)] 67 (0, 0))) (ho : B8 w w0.heap.size (fun _ => True) v1 out)
    (hM : w.ownsMap Try.prog 9 (plainElem Try.prog 3) mb N D) (hR : RepS D m) (hg : w0.heap.size ≤ g) (hm : w0.heap.size ≤ mb) (hne : mb ≠ g) (hb : Below w0.heap.size w0 w) : WAt w0 (w.setCell ⟨g, 0, none⟩ v1) g mb out m N :=
  ⟨⟨v1, by rw [blk_set hx 0 v1]; rfl, Kd.R_set ho hx (by intro q hq; rw [show q = 5 by simpa [Kd.int, Kd.scalar] using hq]; decide) 0 v1⟩,
   ⟨D, mapOf_far hM (Below.heap_setCell w _ _ mb hne), hR⟩, hg, hm, hne, hb.setCell hg v1⟩
theorem WAt.more {w0 w : World} {g mb N N' : Nat} {out : List Int} {m : List UInt8 → Option Int} (h : WAt w0 w g mb out m N) (hn : N ≤ N') : WAt w0 w g mb out m N' := by
  obtain ⟨h1, ⟨D, hM, hR⟩, h3, h4, h5, h6⟩ := h
  exact ⟨h1, ⟨D, hM.mono hn, hR⟩, h3, h4, h5, h6⟩
end Go.Proofs.Ytbbeikdbioelgaa.M
