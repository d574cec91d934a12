/- Rows of fields beside each other, for regions that draw their order. -/
import Derived.Test.YtdpoookgmckclaaDoorMRowFl
import Derived.Test.YtdpoookgmckclaaDoorMHMem
set_option linter.unusedVariables false
set_option linter.unusedSimpArgs false
namespace Go.Proofs.YtdpoookgmckclaaDoor.M
open Go.RowKit Go.Maps Go.Proofs.YtdpoookgmckclaaDoorW.PrintWords Go.Proofs.YtdpoookgmckclaaDoorW.PrintLast Go.Proofs.YtdpoookgmckclaaDoorW.PrintMore
theorem lcast {P : Program} {ops : Array Oper} {Q : Exit → Act → World → Prop} {S : World → Prop} {ds : List Nat} {n : Nat} {l l' : Array Bool} {a : Act} {w : World} (hl : l = l') (h : wpAnyLast P .any ops Q S ds n l' a w) : wpAnyLast P .any ops Q S ds n l a w := hl ▸ h
/-- The size a world has (shut, so that it is not written anew). -/
def Bas (w : World) (B : Nat) : Prop := w.heap.size = B
theorem below_bas {B : Nat} {w0 w : World} (hB : Bas w0 B) (h : Below B w0 w) : Below w0.heap.size w0 w := by unfold Bas at hB; rw [hB]; exact h
theorem below_sz {B : Nat} {w0 w : World} (hB : Bas w0 B) (h : Below B w0 w) : B ≤ w.heap.size := by unfold Bas at hB; rw [← hB]; exact h.size
theorem below_stepB {B : Nat} {w0 w w1 : World} (hB : Bas w0 B) (h1 : Below B w0 w) (h2 : Below w.heap.size w w1) : Below B w0 w1 := h1.trans (h2.mono (below_sz hB h1))
/-- Two rows apart. -/
def Apart (v u : Value) : Prop := ∀ k, v.ownBlock = some k → some k ≠ u.ownBlock
section
variable {w w1 : World} {base : Nat} {v v1 u : Value} {xs ys : List Fl} {q T : Nat} {cs : Array Value} {row : Option Nat}
theorem Apart.grow (h : Apart v u) (hu : FR w base u ys) (ho : v1.ownBlock = v.ownBlock ∨ ∃ b, v1.ownBlock = some b ∧ w.heap.size ≤ b) : Apart v1 u := by
  intro k hk e
  rcases ho with ho | ⟨b, hb, hle⟩
  · exact h k (ho ▸ hk) e
  · obtain rfl : b = k := Option.some.inj (hb.symm.trans hk)
    have := Kd.R_lt hu b e.symm
    omega
theorem apart_lit (hv : FR w base v xs) (n c : Nat) : Apart v (.slice (some ⟨w.heap.size, 0, none⟩) n c) := by
  intro k hk e
  have := Kd.R_lt hv k hk
  have e2 : k = w.heap.size := Option.some.inj e
  omega
theorem apart_nil (hu : FR w base u ys) (n c : Nat) : Apart (.slice (some ⟨w.heap.size, 0, none⟩) n c) u := by
  intro k hk e
  have e2 : w.heap.size = k := Option.some.inj hk
  have := Kd.R_lt hu k e.symm
  omega
theorem fr_side (hu : FR w base u ys) (ha : Apart v u) (hg : w.grownBy w1 v.ownBlock) : FR w1 base u ys := Kd.R_grown2 hu rfl hg ha
theorem SAt.beside (h : SAt w q cs T) (hv : FR w base v xs) (hT : 41 ≠ T) (hg : w.grownBy w1 v.ownBlock) : SAt w1 q cs T :=
  (hg.block q h.lt (Kd.R_ne hv h hT)).trans h
theorem fr_nil (w : World) (hb : base ≤ w.heap.size) : FR (w.alloc (.cells #[] 41)) base (.slice (some ⟨w.heap.size, 0, none⟩) 0 0) [] := fl_lit w base [] hb (by simp)
theorem fr_one (w : World) (hb : base ≤ w.heap.size) (x : Fl) : FR (w.alloc (.cells #[.string x.n, .string x.v, .bool x.nv] 41)) base (.slice (some ⟨w.heap.size, 0, none⟩) 1 1) [x] := fl_lit w base [x] hb (by simp)
end
end Go.Proofs.YtdpoookgmckclaaDoor.M
