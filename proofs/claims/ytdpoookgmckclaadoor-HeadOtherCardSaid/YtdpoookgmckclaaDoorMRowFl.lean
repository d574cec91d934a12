/- A parameter that is a row of fields, opened to what it says. -/
import Derived.Test.YtdpoookgmckclaaDoorMHFew
import Derived.Test.YtdpoookgmckclaaDoorMRowBase
set_option linter.unusedVariables false
set_option linter.unusedSimpArgs false
namespace Go.Proofs.YtdpoookgmckclaaDoor.M
open Go.ChangeShapes Go.WideShapes Go.Deep Go.RowKit Go.Proofs.YtdpoookgmckclaaDoorW.PrintWords
set_option maxRecDepth 100000 in
theorem opens_fl : Opens kF 41 (fun x => x.n.size ≤ 140737488351232 ∧ x.v.size ≤ 140737488351232) := by
  intro H enc W base spare held fuel cs x hf' hw
  obtain ⟨hl, n, hf⟩ := struct_fields Tryd.underlying41 (by kernel_rfl) (by kernel_rfl) hf' hw
  obtain ⟨v0, y0, c0, t0, w0⟩ := hf 0 _ rfl
  obtain ⟨v1, y1, c1, t1, w1⟩ := hf 1 _ rfl
  obtain ⟨v2, y2, c2, t2, w2⟩ := hf 2 _ rfl
  obtain ⟨a0, k0, o0⟩ := opens_string t0 w0
  obtain ⟨a1, k1, o1⟩ := opens_string t1 w1
  obtain ⟨a2, k2, _⟩ := DataW.trod_bool (by kernel_rfl) t2
  obtain rfl : v0 = _ := List.head_eq_of_cons_eq k0
  obtain rfl : v1 = _ := List.head_eq_of_cons_eq k1
  obtain rfl : v2 = _ := List.head_eq_of_cons_eq k2
  match cs, hl with
  | [x0, x1, x2], _ =>
    simp at c0 c1 c2
    subst c0 c1 c2
    exact ⟨⟨a0, a1, a2⟩, kF_mk W _, o0, o1⟩
/-- A value that is a row of fields. -/
def FlV (W : World) (v : Value) (xs : List Fl) : Prop := ∃ A c, v = .slice A xs.length c ∧ xs.length ≤ c ∧ kF.C W A xs.length xs
set_option maxRecDepth 100000 in
theorem open_fls {H : Type} {enc : TypeId × Value → H} {W : World} {base b0 : Nat} {spare : Nat → Bool} {held : Bool} {r : Reach} {v : Value} {d : DataW H} {p : List MemPlace} (hv : Value.okWide Tryd.prog W r b0 22 v)
    (h : DataW.Trod enc Tryd.prog W base spare held 22 v d p) (hw : ∀ n ∈ d.weights Tryd.prog 22, n ≤ reachBytes) : ∃ m : List Fl, FlV W v m ∧ FlIn m := by
  obtain ⟨a, len, cap, rfl⟩ := okWide_slice Tryd.underlying22 hv
  obtain ⟨fuel, hf⟩ := h
  obtain ⟨l, ⟨A, c, e, hle, hC⟩, ho⟩ := opens_slice Tryd.underlying22 (by kernel_rfl) opens_fl hf hw
  refine ⟨l, ⟨A, c, List.head_eq_of_cons_eq e, hle, hC⟩, ⟨fun x hx => ?_, fun x hx => ?_⟩⟩
  · obtain ⟨j, hj, rfl⟩ := List.getElem_of_mem hx
    exact (ho j _ (List.getElem?_eq_getElem hj)).1
  · obtain ⟨j, hj, rfl⟩ := List.getElem_of_mem hx
    exact (ho j _ (List.getElem?_eq_getElem hj)).2
end Go.Proofs.YtdpoookgmckclaaDoor.M
