/- Rows of fields in memory. -/
import Derived.Test.YtdpoookgmckclaaDoorMHRes
set_option linter.unusedVariables false
set_option linter.unusedSimpArgs false
namespace Go.Proofs.YtdpoookgmckclaaDoor.M
open Go.RowKit Go.Maps Go.Proofs.YtdpoookgmckclaaDoorW.PrintWords Go.Proofs.YtdpoookgmckclaaDoorW.PrintLast Go.Proofs.YtdpoookgmckclaaDoorW.PrintMore
theorem infoF : (Tryd.prog.info? 41).map (fun i => (i.zero, i.size, i.bytes)) = some (some (.agg #[(.string ⟨#[]⟩), (.string ⟨#[]⟩), (.bool false)]), 3, 40) := by kernel_rfl
/-- A row of fields of the call's own. -/
abbrev FR (w : World) (base : Nat) (v : Value) (xs : List Fl) : Prop := Kd.R kF 41 w base (fun _ => True) v xs
def flCells (xs : List Fl) : List Value := xs.flatMap fun x => [.string x.n, .string x.v, .bool x.nv]
theorem reps_fl (w : World) (base : Nat) (ok : Nat → Prop) (xs : List Fl) : Reps (kF.M w base ok) kF.sz xs (flCells xs) := by
  induction xs with
  | nil => exact Reps.none _ _
  | cons x xs ih =>
    have h1 : Reps (kF.M w base ok) kF.sz [x] [.string x.n, .string x.v, .bool x.nv] := by
      have := Reps.snoc (Reps.none (kF.M w base ok) kF.sz) (kF_mkM w base ok x) rfl
      simpa using this
    have := Kd.reps_append h1 ih
    simpa [flCells] using this
theorem flCells_len (xs : List Fl) : (flCells xs).length = xs.length * 3 := by
  induction xs with
  | nil => rfl
  | cons x xs ih =>
    rw [show flCells (x :: xs) = [.string x.n, .string x.v, .bool x.nv] ++ flCells xs from rfl, List.length_append, ih, List.length_cons]
    simp only [List.length_cons, List.length_nil]
    omega
/-- A literal row of fields. -/
theorem fl_lit (W : World) (base : Nat) (xs : List Fl) (hb : base ≤ W.heap.size) (hl : xs.length ≤ 1000000) : FR (W.alloc (.cells (flCells xs).toArray 41)) base (.slice (some ⟨W.heap.size, 0, none⟩) xs.length xs.length) xs :=
  ⟨fun _ _ => trivial, flCells xs, by have h2 := World.ownsRow_lit (base := base) (e := 41) (size := 3) W (flCells xs).toArray xs.length hb (by unfold maxLen; omega) (by rw [List.size_toArray, flCells_len]); exact h2, reps_fl _ _ _ _⟩
section
variable {ops : Array Oper} {rest : List Oper} {o : Oper} {a : Act} {Q : Exit → Act → World → Prop} {Kc : Act → World → Prop}
theorem kF_KM {w : World} {base : Nat} {ok : Nat → Prop} {x : Fl} {c : List Value} (h : kF.K w x c) : kF.M w base ok x c := by
  rw [kF_open h]
  exact kF_mkM w base ok x
theorem appF_step {w0 W : World} {base : Nat} (N : Option Tmp) (hN : o.dst = N) (hw : Region.wanted o (yielded ops a.tmps) = true) (s x : Operand) (ho : o.op = .call { callee := .builtin .append, args := #[s, x], argTypes := #[22, 22] })
    {v : Value} {xs ys : List Fl} {A : Option Addr} {m c : Nat} (hs : a.eval s = v) (hx : a.eval x = .slice A m c)
    (HO : FR W base v xs) (HR : kF.C W A m ys) (HB : Below base w0 W) (hbase : base ≤ W.heap.size) (hl : (xs.length + m) * 40 ≤ 140737488355328)
    (h : ∀ v1 w1, FR w1 base v1 (xs ++ ys) → Below base w0 w1 → W.grownBy w1 v.ownBlock → (v1.ownBlock = v.ownBlock ∨ ∃ b, v1.ownBlock = some b ∧ W.heap.size ≤ b) → Kc (a.put N v1) w1) :
    if Region.wanted o (yielded ops a.tmps) = true then Oper.wp Tryd.prog o a W Kc Q else Kc (a.put N undef) W := by
  subst hN
  exact Kd.R_append_rows_step kF (w0 := w0) base hw s x 22 41 _ 40 ho Tryd.underlying22 infoF rfl (by decide) (by decide) v xs ys A m c (fun _ => True) (fun _ => False) hs hx HO HR (fun _ _ hk => kF_KM hk) (fun _ hk => hk.elim) (fun _ _ => trivial) HB hbase hl
    (fun v1 w1 h1 h2 h3 h4 => h v1 w1 h1 h2 h3 h4)
theorem appF {w0 W : World} {base : Nat} (hgd : o.guard = none) (s x : Operand) (ho : o.op = .call { callee := .builtin .append, args := #[s, x], argTypes := #[22, 22] })
    {v : Value} {xs ys : List Fl} {A : Option Addr} {m c : Nat} (hs : a.eval s = v) (hx : a.eval x = .slice A m c)
    (HO : FR W base v xs) (HR : kF.C W A m ys) (HB : Below base w0 W) (hbase : base ≤ W.heap.size) (hl : (xs.length + m) * 40 ≤ 140737488355328)
    (h : ∀ v1 w1, FR w1 base v1 (xs ++ ys) → Below base w0 w1 → W.grownBy w1 v.ownBlock → (v1.ownBlock = v.ownBlock ∨ ∃ b, v1.ownBlock = some b ∧ W.heap.size ≤ b) → wpList Tryd.prog ops Q rest (a.put o.dst v1) w1) :
    wpList Tryd.prog ops Q (o :: rest) a W := by
  refine Kd.R_append_rows kF (w0 := w0) base hgd s x 22 41 _ 40 ho Tryd.underlying22 infoF rfl (by decide) (by decide) v xs ys A m c (fun _ => True) (fun _ => False) hs hx HO HR (fun _ _ hk => kF_KM hk) (fun _ hk => hk.elim) (fun _ _ => trivial) HB hbase hl
    (fun v1 w1 h1 h2 h3 h4 => h v1 w1 h1 h2 h3 h4)
end
end Go.Proofs.YtdpoookgmckclaaDoor.M
