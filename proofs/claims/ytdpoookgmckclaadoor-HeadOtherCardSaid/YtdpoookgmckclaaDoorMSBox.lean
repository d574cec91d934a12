/- A block that is one struct. -/
import Derived.Test.YtdpoookgmckclaaDoorMTBase
set_option linter.unusedVariables false
set_option linter.unusedSimpArgs false
namespace Go.Proofs.YtdpoookgmckclaaDoor.M
open Go.RowKit Go.Proofs.YtdpoookgmckclaaDoorW.PrintWords Go.Proofs.YtdpoookgmckclaaDoorW.PrintLast Go.Proofs.YtdpoookgmckclaaDoorW.PrintMore
/-- A block that is one struct. -/
def SAt (w : World) (h : Nat) (cs : Array Value) (T : Nat) : Prop := w.heap[h]? = some (.cells cs T (0, 0))
section
variable {w w1 : World} {g h : Nat} {cs : Array Value} {T : Nat}
theorem SAt.cell (hx : SAt w h cs T) (j : Nat) : w.cell? ⟨h, j, none⟩ = cs[j]? := blk_cell hx j
theorem SAt.is (hx : SAt w h cs T) (j : Nat) {v : Value} (hv : cs[j]? = some v) : w.cell? ⟨h, j, none⟩ = some v := (hx.cell j).trans hv
theorem SAt.new (w : World) (cs : Array Value) (T : Nat) : SAt (w.alloc (.cells cs T (0, 0))) w.heap.size cs T := blk_new w _
theorem SAt.below (hx : SAt w h cs T) (hb : Below w.heap.size w w1) : SAt w1 h cs T := blk_below hx hb
theorem SAt.set (hx : SAt w h cs T) (j : Nat) (u : Value) : SAt (w.setCell ⟨h, j, none⟩ u) h (cs.setIfInBounds j u) T := by
  unfold SAt
  rw [blk_set hx j u]
theorem SAt.far (hx : SAt w h cs T) {h2 : Nat} (hne : h ≠ h2) (j : Nat) (u : Value) : SAt (w.setCell ⟨h2, j, none⟩ u) h cs T := (Below.heap_setCell w _ u h hne).trans hx
theorem SAt.frozen (hx : SAt w h cs T) (j : Nat) : w.frozen? ⟨h, j, none⟩ = false := blk_frozen hx j
theorem SAt.lt (hx : SAt w h cs T) : h < w.heap.size := blk_lt hx
theorem SAt.drew (hx : SAt w h cs T) : SAt w.drew h cs T := hx
end
end Go.Proofs.YtdpoookgmckclaaDoor.M
