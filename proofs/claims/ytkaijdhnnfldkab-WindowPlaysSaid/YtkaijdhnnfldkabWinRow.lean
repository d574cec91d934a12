/- A parameter that is a row of acts, opened to its cells; the row of acts as these laws read it. -/
import Derived.Test.YtkaijdhnnfldkabWin
import Derived.Deep.Slices
import Derived.Deep.Fields
import Derived.ChangeSame
import Derived.KernelRfl
set_option linter.unusedVariables false
set_option linter.unusedSimpArgs false
namespace Go.Proofs.Ytkaijdhnnfldkab.WinRow
open Go.ChangeShapes Go.WideShapes Go.Deep Go.RowKit
open Go.Proofs.Ytkaijdhnnfldkab.Win
section
variable {H : Type} {enc : TypeId × Value → H} {P : Program} {w : World} {base : Nat} {spare : Nat → Bool} {held : Bool}
theorem open_slice_fields {t e : TypeId} {fs : Array Field} {fuel : Nat} {cs : List Value} {x : DataW H × List MemPlace} (ht : P.underlying t = some (.slice e)) (he : P.underlying e = some (.struct fs))
    (hone : oneCellFields P fs = true) (hC : P.cellsOf e = fs.size) (h : DataW.trod enc P w base spare held fuel t cs = some x) :
    (cs = [.slice none 0 0] ∧ x = (.nil, [])) ∨
    ∃ (a : Addr) (len cap m : Nat) (D : Nat → DataW H) (Pl : Nat → List MemPlace), cs = [.slice (some a) len cap] ∧ base ≤ a.block ∧ len ≤ cap ∧ cap ≤ maxLen ∧ m = (if spare a.block then cap else len) ∧
      x = (.slice ((List.range len).map D) ((List.range (m - len)).map fun j => D (len + j)), MemPlace.row a (m * fs.size) ++ (List.range m).flatMap Pl) ∧
      ∀ i, i < m → ∃ (ys : List (DataW H × List MemPlace)) (n : Nat), D i = .agg (ys.map (·.1)) ∧ Pl i = ys.flatMap (·.2) ∧ ys.length = fs.size ∧
        ∀ (j : Nat) (f : Field), fs[j]? = some f → ∃ (v : Value) (y : DataW H × List MemPlace), w.cell? (a.add (i * fs.size + j)) = some v ∧ ys[j]? = some y ∧ DataW.trod enc P w base spare held n f.type [v] = some y := by
  rcases open_slice ht h with h0 | ⟨a, len, cap, m, n, D, Pl, hcs, hb, hl, hm, hmm, hx, hi⟩
  · exact .inl h0
  · refine .inr ⟨a, len, cap, m, D, Pl, hcs, hb, hl, hm, hmm, by rw [hC] at hx; exact hx, fun i him => ?_⟩
    obtain ⟨cs', hc, ht'⟩ := hi i him
    rw [hC] at hc
    obtain ⟨ys, n', hn', hy, hlen, hyl, hf⟩ := DataW.trod_struct he ht'
    obtain ⟨_, hcl, hat⟩ := World.cells?_some hc
    simp only [Prod.mk.injEq] at hy
    refine ⟨ys, n', hy.1, hy.2, hyl, fun j f hj => ?_⟩
    obtain ⟨ho, hk⟩ := hone_of hone j f hj
    have hjl : j < fs.size := (Array.getElem?_eq_some_iff.1 hj).1
    have hcell := hat j hjl
    have hv : cs'[j]? = some (cs'[j]'(by omega)) := List.getElem?_eq_getElem (by omega)
    have h1 := hf j f hj
    rw [ho, hk] at h1
    have hone' : (cs'.drop j).take 1 = [cs'[j]'(by omega)] := by
      rw [List.drop_eq_getElem_cons (by omega)]
      rfl
    rw [hone'] at h1
    have hys : ys[j]? = some (ys[j]'(by omega)) := List.getElem?_eq_getElem (by omega)
    refine ⟨_, _, ?_, hys, h1.trans hys⟩
    rw [← Go.Deep.add_add, hcell, hv]
end
instance : Inhabited Act4 := ⟨⟨0, 0, 0, 0⟩⟩
theorem u32_wf {x : Int} (h : (Lit.int .u32 x).wf = true) : 0 ≤ x ∧ x < 4294967296 := by
  simp [Lit.wf, IntKind.min, IntKind.max, IntKind.bits, IntKind.signed] at h
  omega
theorem add_plus (ad : Addr) (a b : Nat) (hb : b ≠ 0) : ad.add (a + b) = ⟨(ad.add a).block, (ad.add a).off + b, none⟩ := (Go.Proofs.YtkaijdhnnfldkabW.PrintWords.add_field ad a b (by omega))
theorem open_acts {H : Type} {enc : TypeId × Value → H} {W : World} {base : Nat} {spare : Nat → Bool} {held : Bool} {a : Option Addr} {len cap : Nat} {d : DataW H} {p : List MemPlace}
    (h : DataW.Trod enc Try.prog W base spare held 28 (.slice a len cap) d p) : ∃ l : List Act4, len = l.length ∧ Acts W a l ∧ l.length ≤ cap := by
  obtain ⟨fuel, hf⟩ := h
  rcases open_slice_fields Try.underlying28 Try.underlying33 (by kernel_rfl) (by kernel_rfl) hf with ⟨hcs, _⟩ | ⟨x, l, c, m, D, Pl, hcs, _, hl, hm, hmm, _, hi⟩
  · simp [Value.cells] at hcs
    obtain ⟨rfl, rfl, rfl⟩ := hcs
    exact ⟨[], rfl, ⟨by simp, by simp, fun i x hx => by simp at hx⟩, by simp⟩
  · simp [Value.cells] at hcs
    obtain ⟨rfl, rfl, rfl⟩ := hcs
    have hlm : len ≤ m := by rw [hmm]; split <;> omega
    have key : ∀ i, i < len → ∃ q : Act4, ActOk q ∧ W.cell? (x.add (i * 4)) = some (.int .i64 q.k) ∧ W.cell? ⟨(x.add (i * 4)).block, (x.add (i * 4)).off + 1, none⟩ = some (.int .u32 q.id) ∧ W.cell? ⟨(x.add (i * 4)).block, (x.add (i * 4)).off + 2, none⟩ = some (.int .u32 q.n) ∧ W.cell? ⟨(x.add (i * 4)).block, (x.add (i * 4)).off + 3, none⟩ = some (.int .i64 q.want) := by
      intro i hlt
      obtain ⟨ys, n, _, _, _, hfs⟩ := hi i (by omega)
      obtain ⟨v0, y0, c0, _, t0⟩ := hfs 0 _ rfl
      obtain ⟨v1, y1, c1, _, t1⟩ := hfs 1 _ rfl
      obtain ⟨v2, y2, c2, _, t2⟩ := hfs 2 _ rfl
      obtain ⟨v3, y3, c3, _, t3⟩ := hfs 3 _ rfl
      obtain ⟨n0, e0, _, w0⟩ := DataW.trod_int Try.underlying3 t0
      obtain ⟨n1, e1, _, w1⟩ := DataW.trod_int Try.underlying29 t1
      obtain ⟨n2, e2, _, w2⟩ := DataW.trod_int Try.underlying29 t2
      obtain ⟨n3, e3, _, w3⟩ := DataW.trod_int Try.underlying3 t3
      obtain rfl : v0 = _ := List.head_eq_of_cons_eq e0
      obtain rfl : v1 = _ := List.head_eq_of_cons_eq e1
      obtain rfl : v2 = _ := List.head_eq_of_cons_eq e2
      obtain rfl : v3 = _ := List.head_eq_of_cons_eq e3
      refine ⟨⟨n0, n1, n2, n3⟩, ⟨(u32_wf w1).1, (u32_wf w1).2, (u32_wf w2).1, (u32_wf w2).2, w3⟩, c0, ?_, ?_, ?_⟩
      · rw [← add_plus x (i * 4) 1 (by omega)]; exact c1
      · rw [← add_plus x (i * 4) 2 (by omega)]; exact c2
      · rw [← add_plus x (i * 4) 3 (by omega)]; exact c3
    obtain ⟨f, hfq⟩ := choose_lt key
    refine ⟨(List.range len).map f, by simp, ⟨by simp; unfold maxLen at hm; omega, ?_, ?_⟩, by simpa using hl⟩
    · intro q hq
      obtain ⟨i, hir, rfl⟩ := List.mem_map.1 hq
      exact (hfq i (List.mem_range.1 hir)).1
    · intro i q hq
      rw [List.getElem?_map] at hq
      obtain ⟨i', hi', rfl⟩ := Option.map_eq_some_iff.1 hq
      obtain ⟨hlt, e⟩ := List.getElem?_eq_some_iff.1 hi'
      simp at hlt e
      subst e
      obtain ⟨_, h0, h1, h2, h3⟩ := hfq i hlt
      have := World.block_lt_of_cell? W _ h0
      rw [Go.Proofs.YtkaijdhnnfldkabW.PrintWords.add_block] at this
      exact ⟨x, rfl, this, h0, h1, h2, h3⟩
end Go.Proofs.Ytkaijdhnnfldkab.WinRow
