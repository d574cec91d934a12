/- Steps of a region that draws its order: first what may be taken first, then what is left, one by one. -/
import Derived.Test.YtbbeikdbioelgaaMBase
import Derived.Deep.DrawnRows
set_option linter.unusedVariables false
set_option linter.unusedSimpArgs false
namespace Go.Proofs.Ytbbeikdbioelgaa.M
open Go.RowKit Go.Proofs.YtbbeikdbioelgaaW.PrintWords Go.Proofs.YtbbeikdbioelgaaW.PrintLast Go.Proofs.YtbbeikdbioelgaaW.PrintMore
section
variable {P : Program} {ops : Array Oper} {Q : Exit → Act → World → Prop} {S : World → Prop} {ds : List Nat} {oi : Oper} {v : Value} {fuel : Nat} {l : Array Bool} {a a' : Act} {w : World}
theorem dpure (i : Nat) (N : Option Tmp) (hi : ops[i]? = some oi) (hN : oi.dst = N) (hc : anyB .any ops l (l.setIfInBounds i true) i = true) (hQ : ∀ c a w, Q (.panic c) (a.put oi.dst v) w → Q (.panic c) a w) (hw : Region.wanted oi (yielded ops a.tmps) = true)
    (hv : ∀ w, (execOp a.eval oi).run P w = .ok (.value v) w) (ha : a.put N v = a') (h : wpAnyLast P .any ops Q S ds fuel (l.setIfInBounds i true) a' w) : wpAnyLast P .any ops Q S ds (fuel + 1) l a w :=
  pure_ _ hi hN hc hQ (.inl ⟨hw, hv⟩) ha h
theorem dtake (i : Nat) (N : Option Tmp) (hi : ops[i]? = some oi) (hN : oi.dst = N) (hc : takeB .any ops ds l (l.setIfInBounds i true) i = true) (hQ : ∀ c a w, Q (.panic c) (a.put oi.dst v) w → Q (.panic c) a w) (hw : Region.wanted oi (yielded ops a.tmps) = true) (hS : S w)
    (hv : ∀ w, S w → (execOp a.eval oi).run P w = .ok (.value v) w) (ha : a.put N v = a') (h : wpAnyLast P .any ops Q S ds fuel (l.setIfInBounds i true) a' w) : wpAnyLast P .any ops Q S ds (fuel + 1) l a w :=
  take_ _ hi hN hc hQ (.inl ⟨hw, hv⟩) hS ha h
theorem doff (i : Nat) (N : Option Tmp) (hi : ops[i]? = some oi) (hN : oi.dst = N) (hc : anyB .any ops l (l.setIfInBounds i true) i = true) (hQ : ∀ c a w, Q (.panic c) (a.put oi.dst undef) w → Q (.panic c) a w) (hw : Region.wanted oi (yielded ops a.tmps) = false)
    (ha : a.put N undef = a') (h : wpAnyLast P .any ops Q S ds fuel (l.setIfInBounds i true) a' w) : wpAnyLast P .any ops Q S ds (fuel + 1) l a w :=
  pure_ _ hi hN hc hQ (.inr ⟨hw, rfl⟩) ha h
/-- One operation alone may come up. -/
theorem done1 (i : Nat) (N : Option Tmp) (hi : ops[i]? = some oi) (hN : oi.dst = N) (hc : readyB .any ops l (l.setIfInBounds i true) i = true) (hd : i ∉ ds)
    (h : ∀ K : Act → World → Prop, Aside0 (∀ a' w', S w' → (S w' → wpAnyLast P .any ops Q S ds fuel (l.setIfInBounds i true) a' w') → K a' w') → if Region.wanted oi (yielded ops a.tmps) = true then Oper.wp P oi a w K Q else K (a.put N undef) w) :
    wpAnyLast P .any ops Q S ds (fuel + 1) l a w := one_ _ hi hN hc hd (fun K hK => h K ⟨hK⟩)
theorem dlast (i : Nat) (hi : ops[i]? = some oi) (hc : readyB .any ops l (l.setIfInBounds i true) i = true) (hd : i ∈ ds)
    (h : ∀ K : Act → World → Prop, Aside0 (∀ a' w', wpAnyLast P .any ops Q S ds fuel (l.setIfInBounds i true) a' w' → K a' w') → Aside0 (if Region.wanted oi (yielded ops a.tmps) = true then Oper.wp P oi a w K Q else K (a.put oi.dst undef) w)) :
    wpAnyLast P .any ops Q S ds (fuel + 1) l a w := last_ _ hi rfl hc hd (fun K hK => (h K ⟨hK⟩).out)
theorem dskip {K : Act → World → Prop} {w1 : World} (hw : Region.wanted oi (yielded ops a.tmps) = true) (hN : oi.dst = none) (hrun : (execOp a.eval oi).run P w = .ok .skip w1) (h : K a w1) :
    Aside0 (if Region.wanted oi (yielded ops a.tmps) = true then Oper.wp P oi a w K Q else K (a.put oi.dst undef) w) := by
  rw [hN]
  exact ⟨skip_ hw hN hrun h⟩
end
end Go.Proofs.Ytbbeikdbioelgaa.M
