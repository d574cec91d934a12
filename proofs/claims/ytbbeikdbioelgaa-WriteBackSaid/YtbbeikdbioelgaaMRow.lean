/- A parameter that is a message, opened to what it says. -/
import Derived.Test.YtbbeikdbioelgaaMFew
import Derived.Test.YtbbeikdbioelgaaMRowBase
import Derived.Deep.Slices
import Derived.Deep.Fields
import Derived.ChangeSame
import Derived.SizedLaws
import Derived.KernelRfl
set_option linter.unusedVariables false
set_option linter.unusedSimpArgs false
namespace Go.Proofs.Ytbbeikdbioelgaa.M
open Go.ChangeShapes Go.WideShapes Go.Deep Go.RowKit Go.Proofs.YtbbeikdbioelgaaW.PrintWords

/-- A record that came in. -/
structure RecIn (r : Rec) : Prop where
  wf : Wf r
  nums : ∀ j, j < r.f5.length → 0 ≤ r.f5.getD j 0 ∧ r.f5.getD j 0 ≤ 4294967295
  sized : Sized r
  name : r.f0.size ≤ 140737488351232
theorem all_getD {α : Type} {P : α → Prop} (z : α) {l : List α} (h : ∀ (j : Nat) (x : α), l[j]? = some x → P x) : ∀ j, j < l.length → P (l.getD j z) := by
  intro j hj
  rw [List.getD_eq_getElem?_getD, List.getElem?_eq_getElem hj]
  exact h j _ (List.getElem?_eq_getElem hj)
set_option maxRecDepth 100000 in
theorem opens_ques : Opens kQues 39 (fun q => q.f0.size ≤ 140737488351232 ∧ 0 ≤ q.f1 ∧ q.f1 ≤ 65535 ∧ 0 ≤ q.f2 ∧ q.f2 ≤ 65535) := by
  intro H enc W base spare held fuel cs x h hw
  obtain ⟨hl, n, hf⟩ := struct_fields Try.underlying39 (by kernel_rfl) (by kernel_rfl) h hw
  obtain ⟨v0, y0, c0, t0, w0⟩ := hf 0 _ rfl
  obtain ⟨v1, y1, c1, t1, w1⟩ := hf 1 _ rfl
  obtain ⟨v2, y2, c2, t2, w2⟩ := hf 2 _ rfl
  obtain ⟨a0, k0, o0⟩ := opens_string t0 w0
  obtain ⟨a1, k1, o1⟩ := opens_int (κ := .u16) (by kernel_rfl) t1 w1
  obtain ⟨a2, k2, o2⟩ := opens_int (κ := .u16) (by kernel_rfl) t2 w2
  obtain rfl : v0 = _ := List.head_eq_of_cons_eq k0
  obtain rfl : v1 = _ := List.head_eq_of_cons_eq k1
  obtain rfl : v2 = _ := List.head_eq_of_cons_eq k2
  match cs, hl with
  | [x0, x1, x2], _ =>
    simp at c0 c1 c2
    subst c0 c1 c2
    exact ⟨⟨a0, a1, a2⟩, kQues_mk W _, o0, (wf_u16 o1).1, (wf_u16 o1).2, (wf_u16 o2).1, (wf_u16 o2).2⟩
set_option maxRecDepth 100000 in
theorem opens_rec : Opens kRec 44 RecIn := by
  intro H enc W base spare held fuel cs x h hw
  obtain ⟨hl, n, hf⟩ := struct_fields Try.underlying44 (by kernel_rfl) (by kernel_rfl) h hw
  obtain ⟨v0, y0, c0, t0, w0⟩ := hf 0 _ rfl
  obtain ⟨v1, y1, c1, t1, w1⟩ := hf 1 _ rfl
  obtain ⟨v2, y2, c2, t2, w2⟩ := hf 2 _ rfl
  obtain ⟨v3, y3, c3, t3, w3⟩ := hf 3 _ rfl
  obtain ⟨v4, y4, c4, t4, w4⟩ := hf 4 _ rfl
  obtain ⟨v5, y5, c5, t5, w5⟩ := hf 5 _ rfl
  obtain ⟨v6, y6, c6, t6, w6⟩ := hf 6 _ rfl
  obtain ⟨a0, k0, o0⟩ := opens_string t0 w0
  obtain ⟨a1, k1, o1⟩ := opens_int (κ := .u16) (by kernel_rfl) t1 w1
  obtain ⟨a2, k2, o2⟩ := opens_int (κ := .u16) (by kernel_rfl) t2 w2
  obtain ⟨a3, k3, o3⟩ := opens_int (κ := .u32) (by kernel_rfl) t3 w3
  obtain ⟨a4, ⟨A4, d4, k4, l4, g4⟩, o4⟩ := opens_slice Try.underlying40 (by kernel_rfl) opens_string t4 w4
  obtain ⟨a5, ⟨A5, d5, k5, l5, g5⟩, o5⟩ := opens_slice Try.underlying42 (by kernel_rfl) (opens_int (κ := .u32) (by kernel_rfl)) t5 w5
  obtain ⟨a6, ⟨A6, d6, k6, l6, g6⟩, o6⟩ := opens_slice Try.underlying40 (by kernel_rfl) opens_string t6 w6
  obtain rfl : v0 = _ := List.head_eq_of_cons_eq k0
  obtain rfl : v1 = _ := List.head_eq_of_cons_eq k1
  obtain rfl : v2 = _ := List.head_eq_of_cons_eq k2
  obtain rfl : v3 = _ := List.head_eq_of_cons_eq k3
  obtain rfl : v4 = _ := List.head_eq_of_cons_eq k4
  obtain rfl : v5 = _ := List.head_eq_of_cons_eq k5
  obtain rfl : v6 = _ := List.head_eq_of_cons_eq k6
  match cs, hl with
  | [x0, x1, x2, x3, x4, x5, x6], _ =>
    simp at c0 c1 c2 c3 c4 c5 c6
    subst c0 c1 c2 c3 c4 c5 c6
    refine ⟨⟨a0, a1, a2, a3, a4, a5, a6⟩, kRec_mk W _ l4 g4 l5 g5 l6 g6, ⟨(wf_u16 o1).1, (wf_u16 o1).2, (wf_u16 o2).1, (wf_u16 o2).2, (wf_u32 o3).1, (wf_u32 o3).2⟩, ?_, ⟨all_getD _ o4, all_getD _ o6⟩, o0⟩
    intro j hj
    exact wf_u32 (all_getD (P := fun n => (Lit.int .u32 n).wf = true) 0 o5 j hj)
/-- A message that came in. -/
structure MsgIn (m : Msg) : Prop where
  id0 : 0 ≤ m.id
  id1 : m.id ≤ 65535
  fl0 : 0 ≤ m.flags
  fl1 : m.flags ≤ 65535
  qs : ∀ q, q ∈ m.qs → q.f0.size ≤ 140737488351232 ∧ 0 ≤ q.f1 ∧ q.f1 ≤ 65535 ∧ 0 ≤ q.f2 ∧ q.f2 ≤ 65535
  recs : ∀ r, r ∈ m.ans ++ m.auth ++ m.add → RecIn r
theorem all_mem {α : Type} {P : α → Prop} {l : List α} (h : ∀ (j : Nat) (x : α), l[j]? = some x → P x) : ∀ x, x ∈ l → P x := by
  intro x hx
  obtain ⟨j, hj, rfl⟩ := List.getElem_of_mem hx
  exact h j _ (List.getElem?_eq_getElem hj)
set_option maxRecDepth 100000 in
theorem open_msg {H : Type} {enc : TypeId × Value → H} {W : World} {base b0 : Nat} {spare : Nat → Bool} {held : Bool} {r : Reach} {v : Value} {d : DataW H} {p : List MemPlace} (hv : Value.okWide Try.prog W r b0 26 v)
    (h : DataW.Trod enc Try.prog W base spare held 26 v d p) (hw : ∀ n ∈ d.weights Try.prog 26, n ≤ reachBytes) : ∃ m, MsgAt W v m ∧ MsgIn m := by
  obtain ⟨⟨cs⟩, rfl, hsz⟩ := okWide_struct Try.underlying26 hv
  obtain ⟨fuel, hf'⟩ := h
  obtain ⟨hl, n, hf⟩ := struct_fields Try.underlying26 (by kernel_rfl) (by kernel_rfl) hf' hw
  obtain ⟨v0, y0, c0, t0, w0⟩ := hf 0 _ rfl
  obtain ⟨v1, y1, c1, t1, w1⟩ := hf 1 _ rfl
  obtain ⟨v2, y2, c2, t2, w2⟩ := hf 2 _ rfl
  obtain ⟨v3, y3, c3, t3, w3⟩ := hf 3 _ rfl
  obtain ⟨v4, y4, c4, t4, w4⟩ := hf 4 _ rfl
  obtain ⟨v5, y5, c5, t5, w5⟩ := hf 5 _ rfl
  obtain ⟨a0, k0, o0⟩ := opens_int (κ := .u16) (by kernel_rfl) t0 w0
  obtain ⟨a1, k1, o1⟩ := opens_int (κ := .u16) (by kernel_rfl) t1 w1
  obtain ⟨a2, ⟨A2, d2, k2, l2, g2⟩, o2⟩ := opens_slice Try.underlying23 (by kernel_rfl) opens_ques t2 w2
  obtain ⟨a3, ⟨A3, d3, k3, l3, g3⟩, o3⟩ := opens_slice Try.underlying24 (by kernel_rfl) opens_rec t3 w3
  obtain ⟨a4, ⟨A4, d4, k4, l4, g4⟩, o4⟩ := opens_slice Try.underlying24 (by kernel_rfl) opens_rec t4 w4
  obtain ⟨a5, ⟨A5, d5, k5, l5, g5⟩, o5⟩ := opens_slice Try.underlying24 (by kernel_rfl) opens_rec t5 w5
  obtain rfl : v0 = _ := List.head_eq_of_cons_eq k0
  obtain rfl : v1 = _ := List.head_eq_of_cons_eq k1
  obtain rfl : v2 = _ := List.head_eq_of_cons_eq k2
  obtain rfl : v3 = _ := List.head_eq_of_cons_eq k3
  obtain rfl : v4 = _ := List.head_eq_of_cons_eq k4
  obtain rfl : v5 = _ := List.head_eq_of_cons_eq k5
  match cs, hl with
  | [x0, x1, x2, x3, x4, x5], _ =>
    simp [Value.cells] at c0 c1 c2 c3 c4 c5
    subst c0 c1 c2 c3 c4 c5
    refine ⟨⟨a0, a1, a2, a3, a4, a5⟩, ⟨A2, d2, A3, d3, A4, d4, A5, d5, rfl, l2, g2, l3, g3, l4, g4, l5, g5⟩, (wf_u16 o0).1, (wf_u16 o0).2, (wf_u16 o1).1, (wf_u16 o1).2, all_mem o2, ?_⟩
    intro r hr
    rcases List.mem_append.1 hr with hr | hr
    · rcases List.mem_append.1 hr with hr | hr
      · exact all_mem o3 r hr
      · exact all_mem o4 r hr
    · exact all_mem o5 r hr
theorem MsgIn.sized {m : Msg} (h : MsgIn m) : SizedM m := ⟨fun q hq => (h.qs q hq).1, fun r hr => (h.recs r hr).sized⟩
theorem fine_of {r : Rec} (h : RecIn r) (h5 : Few5 r) : Fine r where
  len4 := by have := h5.names.1; omega
  names := by have := h5.names.2; have := h5.nums; omega
  texts := fun j hj => by
    have := size_le_sumS r.f6 j hj
    have := h5.texts.2
    omega
  texts2 := by have := h5.texts.1; omega
  wf := h.nums
theorem MsgIn.ok {m : Msg} (h : MsgIn m) (h7 : Few7 m) : MsgOk m where
  fine := fun r hr => fine_of (h.recs r hr) (h7.recs r hr)
  wf := fun r hr => (h.recs r hr).wf
  qs := fun q hq => (h.qs q hq).2
  id0 := h.id0
  id1 := h.id1
  fl0 := h.fl0
  fl1 := h.fl1
  n0 := by have := h7.nq; omega
  n1 := by have := h7.n1; omega
  n2 := by have := h7.n2; omega
  n3 := by have := h7.n3; omega
end Go.Proofs.Ytbbeikdbioelgaa.M
