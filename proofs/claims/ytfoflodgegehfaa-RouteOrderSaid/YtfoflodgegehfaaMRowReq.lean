/- A parameter that is a request, opened to what it says. -/
import Derived.Test.YtfoflodgegehfaaMBytes
import Derived.Test.YtfoflodgegehfaaMRowBase
set_option linter.unusedVariables false
set_option linter.unusedSimpArgs false
namespace Go.Proofs.Ytfoflodgegehfaa.M
open Go.ChangeShapes Go.WideShapes Go.Deep Go.RowKit Go.Proofs.YtfoflodgegehfaaW.PrintWords
/-- A request that came in. -/
structure ReqIn (r : Req) : Prop where
  method : r.method.size ≤ 140737488351232
  path : r.path.size ≤ 140737488351232
  text : r.text.size ≤ 140737488351232
  media : r.media.size ≤ 140737488351232
set_option maxRecDepth 100000 in
theorem open_req {H : Type} {enc : TypeId × Value → H} {W : World} {base b0 : Nat} {spare : Nat → Bool} {held : Bool} {r : Reach} {v : Value} {d : DataW H} {p : List MemPlace} (hv : Value.okWide Try.prog W r b0 30 v)
    (h : DataW.Trod enc Try.prog W base spare held 30 v d p) (hw : ∀ n ∈ d.weights Try.prog 30, n ≤ reachBytes) : ∃ m : Req, v = m.v ∧ ReqIn m := by
  obtain ⟨⟨cs⟩, rfl, hsz⟩ := okWide_struct Try.underlying30 hv
  obtain ⟨fuel, hf'⟩ := h
  obtain ⟨hl, n, hf⟩ := struct_fields Try.underlying30 (by kernel_rfl) (by kernel_rfl) hf' hw
  obtain ⟨v0, y0, c0, t0, w0⟩ := hf 0 _ rfl
  obtain ⟨v1, y1, c1, t1, w1⟩ := hf 1 _ rfl
  obtain ⟨v2, y2, c2, t2, w2⟩ := hf 2 _ rfl
  obtain ⟨v3, y3, c3, t3, w3⟩ := hf 3 _ rfl
  obtain ⟨v4, y4, c4, t4, w4⟩ := hf 4 _ rfl
  obtain ⟨v5, y5, c5, t5, w5⟩ := hf 5 _ rfl
  obtain ⟨a0, k0, o0⟩ := opens_string t0 w0
  obtain ⟨a1, k1, o1⟩ := opens_string t1 w1
  obtain ⟨a2, k2, o2⟩ := opens_string t2 w2
  obtain ⟨a3, k3, o3⟩ := opens_string t3 w3
  obtain ⟨a4, k4, _⟩ := DataW.trod_bool (by kernel_rfl) t4
  obtain ⟨a5, k5, o5⟩ := opens_int (κ := .i64) (by kernel_rfl) t5 w5
  obtain rfl : v0 = _ := List.head_eq_of_cons_eq k0
  obtain rfl : v1 = _ := List.head_eq_of_cons_eq k1
  obtain rfl : v2 = _ := List.head_eq_of_cons_eq k2
  obtain rfl : v3 = _ := List.head_eq_of_cons_eq k3
  obtain rfl : v4 = _ := List.head_eq_of_cons_eq k4
  obtain rfl : v5 = _ := List.head_eq_of_cons_eq k5
  match cs, hl with
  | [x0, x1, x2, x3, x4, x5], _ =>
    simp [Value.cells] at c0 c1 c2 c3 c4 c5
    subst c0 c1 c2 c3 c4 c5
    exact ⟨⟨a0, a1, a2, a3, a4, a5⟩, rfl, o0, o1, o2, o3⟩
end Go.Proofs.Ytfoflodgegehfaa.M
