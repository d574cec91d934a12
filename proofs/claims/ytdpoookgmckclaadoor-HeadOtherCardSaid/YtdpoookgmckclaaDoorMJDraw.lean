/- Joined texts: Draw, Dr. -/
import Derived.Test.YtdpoookgmckclaaDoorMTBase
import Derived.Deep.DrawnRows
/- Steps of a region that draws its order: first what may be taken first, then what is left, one by one. -/
set_option linter.unusedVariables false
set_option linter.unusedSimpArgs false
namespace Go.Proofs.YtdpoookgmckclaaDoor.M
open Go.RowKit Go.Proofs.YtdpoookgmckclaaDoorW.PrintWords Go.Proofs.YtdpoookgmckclaaDoorW.PrintLast Go.Proofs.YtdpoookgmckclaaDoorW.PrintMore
section
variable {P : Program} {ops : Array Oper} {Q : Exit → Act → World → Prop} {S : World → Prop} {ds : List Nat} {oi : Oper} {v : Value} {fuel : Nat} {l : Array Bool} {a a' : Act} {w : World}
theorem dpure (i : Nat) (N : Option Tmp) (hi : ops[i]? = some oi) (hN : oi.dst = N) (hc : anyB .any ops l (l.setIfInBounds i true) i = true) (hQ : ∀ c a w, Q (.panic c) (a.put oi.dst v) w → Q (.panic c) a w) (hw : Region.wanted oi (yielded ops a.tmps) = true)
    (hv : ∀ w, (execOp a.eval oi).run P w = .ok (.value v) w) (ha : a.put N v = a') (h : wpAnyLast P .any ops Q S ds fuel (l.setIfInBounds i true) a' w) : wpAnyLast P .any ops Q S ds (fuel + 1) l a w :=
  pure_ _ hi hN hc hQ (.inl ⟨hw, hv⟩) ha h
theorem dtake (i : Nat) (N : Option Tmp) (hi : ops[i]? = some oi) (hN : oi.dst = N) (hc : takeB .any ops ds l (l.setIfInBounds i true) i = true) (hQ : ∀ c a w, Q (.panic c) (a.put oi.dst v) w → Q (.panic c) a w) (hw : Region.wanted oi (yielded ops a.tmps) = true) (hS : S w)
    (hv : ∀ w, S w → (execOp a.eval oi).run P w = .ok (.value v) w) (ha : a.put N v = a') (h : wpAnyLast P .any ops Q S ds fuel (l.setIfInBounds i true) a' w) : wpAnyLast P .any ops Q S ds (fuel + 1) l a w :=
  take_ _ hi hN hc hQ (.inl ⟨hw, hv⟩) hS ha h
theorem doff (i : Nat) (N : Option Tmp) (hi : ops[i]? = some oi) (hN : oi.dst = N) (hc : anyB .any ops l (l.setIfInBounds i true) i = true) (hQ : ∀ c a w, Q (.panic c) (a.put oi.dst undef) w → Q (.panic c) a w) (hw : Region.wanted oi (yielded ops a.tmps) = false)
    (ha : a.put N undef = a') (h : wpAnyLast P .any ops Q S ds fuel (l.setIfInBounds i true) a' w) : wpAnyLast P .any ops Q S ds (fuel + 1) l a w :=
  pure_ _ hi hN hc hQ (.inr ⟨hw, rfl⟩) ha h
/-- One operation alone may come up. -/
theorem done1 (i : Nat) (N : Option Tmp) (hi : ops[i]? = some oi) (hN : oi.dst = N) (hc : readyB .any ops l (l.setIfInBounds i true) i = true) (hd : i ∉ ds)
    (h : ∀ K : Act → World → Prop, Aside0 (∀ a' w', S w' → (S w' → wpAnyLast P .any ops Q S ds fuel (l.setIfInBounds i true) a' w') → K a' w') → if Region.wanted oi (yielded ops a.tmps) = true then Oper.wp P oi a w K Q else K (a.put N undef) w) :
    wpAnyLast P .any ops Q S ds (fuel + 1) l a w := one_ _ hi hN hc hd (fun K hK => h K ⟨hK⟩)
theorem dlast (i : Nat) (hi : ops[i]? = some oi) (hc : readyB .any ops l (l.setIfInBounds i true) i = true) (hd : i ∈ ds)
    (h : ∀ K : Act → World → Prop, Aside0 (∀ a' w', wpAnyLast P .any ops Q S ds fuel (l.setIfInBounds i true) a' w' → K a' w') → Aside0 (if Region.wanted oi (yielded ops a.tmps) = true then Oper.wp P oi a w K Q else K (a.put oi.dst undef) w)) :
    wpAnyLast P .any ops Q S ds (fuel + 1) l a w := last_ _ hi rfl hc hd (fun K hK => (h K ⟨hK⟩).out)
theorem dskip {K : Act → World → Prop} {w1 : World} (hw : Region.wanted oi (yielded ops a.tmps) = true) (hN : oi.dst = none) (hrun : (execOp a.eval oi).run P w = .ok .skip w1) (h : K a w1) :
    Aside0 (if Region.wanted oi (yielded ops a.tmps) = true then Oper.wp P oi a w K Q else K (a.put oi.dst undef) w) := by
  rw [hN]
  exact ⟨skip_ hw hN hrun h⟩
end
end Go.Proofs.YtdpoookgmckclaaDoor.M

/- Steps of a region that draws its order, in the order of its text, with no number to be typed. -/
set_option linter.unusedVariables false
set_option linter.unusedSimpArgs false
namespace Go.Proofs.YtdpoookgmckclaaDoor.M
open Go.RowKit Go.Proofs.YtdpoookgmckclaaDoorW.PrintWords Go.Proofs.YtdpoookgmckclaaDoorW.PrintLast Go.Proofs.YtdpoookgmckclaaDoorW.PrintMore
/-- What has come up: the first operations. -/
def doneTo (n i : Nat) : Array Bool := (List.replicate i true ++ List.replicate (n - i) false).toArray
/-- Of a region the operations that are left, by the text's order. -/
def wpDr (P : Program) (ops : Array Oper) (Q : Exit → Act → World → Prop) (S : World → Prop) (ds : List Nat) (rest : List Oper) (a : Act) (w : World) : Prop :=
  ops.toList.drop (ops.size - rest.length) = rest → wpAnyLast P .any ops Q S ds rest.length (doneTo ops.size (ops.size - rest.length)) a w
def anyI (ops : Array Oper) (n : Nat) : Bool := n ≤ ops.size && n ≠ 0 && anyB .any ops (doneTo ops.size (ops.size - n)) (doneTo ops.size (ops.size - n + 1)) (ops.size - n)
def takeI (ops : Array Oper) (ds : List Nat) (n : Nat) : Bool := n ≤ ops.size && n ≠ 0 && takeB .any ops ds (doneTo ops.size (ops.size - n)) (doneTo ops.size (ops.size - n + 1)) (ops.size - n)
def oneI (ops : Array Oper) (n : Nat) : Bool := n ≤ ops.size && n ≠ 0 && readyB .any ops (doneTo ops.size (ops.size - n)) (doneTo ops.size (ops.size - n + 1)) (ops.size - n)
def endI (ops : Array Oper) : Bool := Region.ready .any ops (doneTo ops.size ops.size) == []
section
variable {P : Program} {ops : Array Oper} {Q : Exit → Act → World → Prop} {S : World → Prop} {ds : List Nat} {o : Oper} {rest : List Oper} {v : Value} {a a' : Act} {w w1 : World}
theorem dr_start {id : Nat} {l : List Oper} (S : World → Prop) (ds : List Nat) (hm : P.follows .mixedOrders = true) (hS : S w.drew) (h : S w.drew → wpDr P l.toArray Q S ds l a w.drew) : (Code.region id l.toArray true).wp P Q a w := by
  refine start_ (S := S) (ds := ds) (n := l.length) (doneTo l.length 0) hm (by simp) (by simp [doneTo]) hS (fun hS => ?_)
  have := h hS (by simp)
  simpa using this
theorem dr_at (hd : ops.toList.drop (ops.size - (o :: rest).length) = o :: rest) (hn : (o :: rest).length ≤ ops.size) : ops[ops.size - (o :: rest).length]? = some o ∧ ops.toList.drop (ops.size - rest.length) = rest ∧ ops.size - rest.length = ops.size - (o :: rest).length + 1 := by
  have h1 : ops.size - rest.length = ops.size - (o :: rest).length + 1 := by simp only [List.length_cons] at hn ⊢; omega
  refine ⟨?_, ?_, h1⟩
  · rw [← Array.getElem?_toList, ← List.head?_drop, hd]; rfl
  · rw [h1, ← List.drop_drop, hd]; rfl
/-- An operation that yields in every world. -/
theorem dr_pure (hc : anyI ops (o :: rest).length = true) (hw : Region.wanted o (yielded ops a.tmps) = true) (hQ : ∀ c a w, Q (.panic c) (a.put o.dst v) w → Q (.panic c) a w)
    (hv : ∀ w, (execOp a.eval o).run P w = .ok (.value v) w) (ha : a.put o.dst v = a') (h : wpDr P ops Q S ds rest a' w) : wpDr P ops Q S ds (o :: rest) a w := by
  intro hd
  simp only [anyI, Bool.and_eq_true, decide_eq_true_eq] at hc
  obtain ⟨h1, h2, h3⟩ := dr_at hd hc.1.1
  have := h h2
  rw [h3] at this
  exact pure_ (N := o.dst) _ h1 rfl hc.2 hQ (.inl ⟨hw, hv⟩) ha this
/-- An operation whose guard is off. -/
theorem dr_off (hc : anyI ops (o :: rest).length = true) (hw : Region.wanted o (yielded ops a.tmps) = false) (hQ : ∀ c a w, Q (.panic c) (a.put o.dst undef) w → Q (.panic c) a w)
    (ha : a.put o.dst undef = a') (h : wpDr P ops Q S ds rest a' w) : wpDr P ops Q S ds (o :: rest) a w := by
  intro hd
  simp only [anyI, Bool.and_eq_true, decide_eq_true_eq] at hc
  obtain ⟨h1, h2, h3⟩ := dr_at hd hc.1.1
  have := h h2
  rw [h3] at this
  exact pure_ (N := o.dst) _ h1 rfl hc.2 hQ (.inr ⟨hw, rfl⟩) ha this
/-- A read of what S says. -/
theorem dr_take (hc : takeI ops ds (o :: rest).length = true) (hw : Region.wanted o (yielded ops a.tmps) = true) (hQ : ∀ c a w, Q (.panic c) (a.put o.dst v) w → Q (.panic c) a w) (hS : S w)
    (hv : ∀ w, S w → (execOp a.eval o).run P w = .ok (.value v) w) (ha : a.put o.dst v = a') (h : wpDr P ops Q S ds rest a' w) : wpDr P ops Q S ds (o :: rest) a w := by
  intro hd
  simp only [takeI, Bool.and_eq_true, decide_eq_true_eq] at hc
  obtain ⟨h1, h2, h3⟩ := dr_at hd hc.1.1
  have := h h2
  rw [h3] at this
  exact take_ (N := o.dst) _ h1 rfl hc.2 hQ (.inl ⟨hw, hv⟩) hS ha this
/-- An operation that alone may come up. -/
theorem dr_one (hc : oneI ops (o :: rest).length = true) (hd : ds.contains (ops.size - (o :: rest).length) = false)
    (h : ∀ K : Act → World → Prop, Aside0 (∀ a' w', S w' → (S w' → wpDr P ops Q S ds rest a' w') → K a' w') → if Region.wanted o (yielded ops a.tmps) = true then Oper.wp P o a w K Q else K (a.put o.dst undef) w) :
    wpDr P ops Q S ds (o :: rest) a w := by
  intro hdr
  simp only [oneI, Bool.and_eq_true, decide_eq_true_eq] at hc
  obtain ⟨h1, h2, h3⟩ := dr_at hdr hc.1.1
  refine one_ (N := o.dst) _ h1 rfl hc.2 (by simpa using hd) (fun K hK => h K ⟨fun a' w' hS hW => hK a' w' hS (fun hS' => ?_)⟩)
  have := hW hS' h2
  rw [h3] at this
  exact this
/-- The same for the last one, behind which nothing is shown. -/
theorem dr_last (hc : oneI ops (o :: rest).length = true) (hd : ds.contains (ops.size - (o :: rest).length) = true)
    (h : ∀ K : Act → World → Prop, Aside0 (∀ a' w', wpDr P ops Q S ds rest a' w' → K a' w') → Aside0 (if Region.wanted o (yielded ops a.tmps) = true then Oper.wp P o a w K Q else K (a.put o.dst undef) w)) :
    wpDr P ops Q S ds (o :: rest) a w := by
  intro hdr
  simp only [oneI, Bool.and_eq_true, decide_eq_true_eq] at hc
  obtain ⟨h1, h2, h3⟩ := dr_at hdr hc.1.1
  refine last_ (N := o.dst) _ h1 rfl hc.2 (by simpa using hd) (fun K hK => (h K ⟨fun a' w' hW => hK a' w' ?_⟩).out)
  have := hW h2
  rw [h3] at this
  exact this
theorem dr_done (hr : endI ops = true) (h : Q .normal a w) : wpDr P ops Q S ds [] a w := by
  intro _
  refine done_ ?_ h
  simpa [endI] using hr
/-- A call of a Go function. -/
theorem dr_call {f : FuncId} {fn : Func} {xs : Array Operand} {ts : Array TypeId} (hf : P.funcs[f]? = some fn) (hname : (fn.name == "runtime.NumGoroutine") = false) (hb : fn.body.isSome = true)
    (hop : o.op = .call { callee := .value (.func f), args := xs, argTypes := ts }) (hc : oneI ops (o :: rest).length = true) (hd : ds.contains (ops.size - (o :: rest).length) = false) (hw : Region.wanted o (yielded ops a.tmps) = true) {args : Array Value} (hargs : xs.map a.eval = args)
    (h : Calls P f args w fun e w' => (∃ v, e = .returned v ∧ S w' ∧ (S w' → wpDr P ops Q S ds rest (a.put o.dst v) w')) ∨ ∃ c, e = .panicked c ∧ Q (.panic c) a w') : wpDr P ops Q S ds (o :: rest) a w := by
  refine dr_one hc hd (fun K hK => ?_)
  rw [if_pos hw]
  have he := enters_ hf hname hb args w
  unfold Oper.wp
  have hrun : (execOp a.eval o).run P w = .ok (.enter f args) w := by
    unfold execOp
    simp [hop, resolve, Deferred.ofValue, invoke, Act.eval, hargs, he]
  rw [hrun, Oper.upon_enter]
  refine h.mono fun e w'' hh => ?_
  rcases hh with ⟨v, rfl, hs, hk⟩ | ⟨c, rfl, hq⟩
  · exact hK.out _ _ hs hk
  · exact hq
/-- A call behind which nothing is shown. -/
theorem dr_callL {f : FuncId} {fn : Func} {xs : Array Operand} {ts : Array TypeId} (hf : P.funcs[f]? = some fn) (hname : (fn.name == "runtime.NumGoroutine") = false) (hb : fn.body.isSome = true)
    (hop : o.op = .call { callee := .value (.func f), args := xs, argTypes := ts }) (hc : oneI ops (o :: rest).length = true) (hd : ds.contains (ops.size - (o :: rest).length) = true) (hw : Region.wanted o (yielded ops a.tmps) = true) {args : Array Value} (hargs : xs.map a.eval = args)
    (h : Calls P f args w fun e w' => (∃ v, e = .returned v ∧ wpDr P ops Q S ds rest (a.put o.dst v) w') ∨ ∃ c, e = .panicked c ∧ Q (.panic c) a w') : wpDr P ops Q S ds (o :: rest) a w := by
  refine dr_last hc hd (fun K hK => ⟨?_⟩)
  rw [if_pos hw]
  have he := enters_ hf hname hb args w
  unfold Oper.wp
  have hrun : (execOp a.eval o).run P w = .ok (.enter f args) w := by
    unfold execOp
    simp [hop, resolve, Deferred.ofValue, invoke, Act.eval, hargs, he]
  rw [hrun, Oper.upon_enter]
  refine h.mono fun e w'' hh => ?_
  rcases hh with ⟨v, rfl, hk⟩ | ⟨c, rfl, hq⟩
  · exact hK.out _ _ hk
  · exact hq
/-- A value that is made. -/
theorem dr_val (v : Value) (w1 : World) (hc : oneI ops (o :: rest).length = true) (hd : ds.contains (ops.size - (o :: rest).length) = false) (hw : Region.wanted o (yielded ops a.tmps) = true) (hrun : (execOp a.eval o).run P w = .ok (.value v) w1) (hS : S w1) (ha : a.put o.dst v = a')
    (h : S w1 → wpDr P ops Q S ds rest a' w1) : wpDr P ops Q S ds (o :: rest) a w := by
  refine dr_one hc hd (fun K hK => ?_)
  rw [if_pos hw]
  unfold Oper.wp
  rw [hrun]
  subst ha
  exact hK.out _ _ hS h
/-- A store that leaves what S says. -/
theorem dr_skip (w1 : World) (hc : oneI ops (o :: rest).length = true) (hd : ds.contains (ops.size - (o :: rest).length) = false) (hw : Region.wanted o (yielded ops a.tmps) = true) (hN : o.dst = none) (hrun : Aside0 ((execOp a.eval o).run P w = .ok .skip w1)) (hS : S w1) (h : S w1 → wpDr P ops Q S ds rest a w1) : wpDr P ops Q S ds (o :: rest) a w := by
  refine dr_one hc hd (fun K hK => ?_)
  rw [if_pos hw]
  unfold Oper.wp
  rw [hrun.out]
  show K (a.put o.dst undef) w1
  rw [hN]
  exact hK.out _ _ hS h
/-- The last store. -/
theorem dr_store (w1 : World) (hc : oneI ops (o :: rest).length = true) (hd : ds.contains (ops.size - (o :: rest).length) = true) (hw : Region.wanted o (yielded ops a.tmps) = true) (hN : o.dst = none) (hrun : Aside0 ((execOp a.eval o).run P w = .ok .skip w1)) (h : wpDr P ops Q S ds rest a w1) : wpDr P ops Q S ds (o :: rest) a w := by
  refine dr_last hc hd (fun K hK => ?_)
  refine dskip hw hN hrun.out ?_
  exact hK.out _ _ h
theorem dr_norm (ha : a = a') (h : wpDr P ops Q S ds rest a' w) : wpDr P ops Q S ds rest a w := by
  subst ha
  exact h
end
end Go.Proofs.YtdpoookgmckclaaDoor.M
