/- Joined texts: walks and plain laws. -/
import Derived.Test.YtfoflodgegehfaaProg
import Derived.Below
import Derived.Deep.Draws
import Derived.Deep.AppendLies
import Derived.Maps.AppendAt
import Derived.OwnWalk
import Derived.Laws.BytesArg
import Derived.Laws.MakeOwn
import Derived.Laws.OwnMore
import Derived.Deep.OwnRows
import Derived.Tactics
import Derived.Lib.ConvBytes
import Derived.Laws.Slices
import Derived.WalkKit
import Derived.KernelRfl
import Derived.RowKit3
import Derived.Deep.LoopGhost
import Derived.Deep.QuietTactic
import Derived.BigQuiet
import Derived.WideLaws
import Derived.Deep.DeepCutAuto
import Derived.Deep.CutBlock
import Derived.Deep.RegionHeld3
import Derived.Laws.Rows
import Derived.Lib.AppendStr
import Derived.ArgAppend
import Derived.Laws.IdiomCopy
import Derived.OrdersHeld
import Derived.Laws.BitsLemmas
import Derived.RowKit
import Derived.Test.YtfoflodgegehfaaAWWords
import Derived.Test.YtfoflodgegehfaaAWLast
import Derived.Test.YtfoflodgegehfaaAWKept
import Derived.Test.YtfoflodgegehfaaAWMore
import Derived.Test.YtfoflodgegehfaaAWMine
import Derived.Outline
import Derived.Lib.Hide
import Derived.Deep.DrawnRows
import Derived.WalkSmall
import Derived.Lib.Strings
import Derived.Deep.DeepMust
import Derived.Shelf.Strings.Search1
import Derived.Shelf.Strings.Search2
import Derived.Shelf.Strings.Cut
import Derived.Shelf.LaysM
import Derived.Shelf.Strings.Shaped
import Derived.Test.YtfoflodgegehfaaAWRepsOne
set_option linter.unusedVariables false
set_option linter.unusedSimpArgs false
namespace Go.Proofs.Ytfoflodgegehfaa.M
open Go.RowKit Go.Proofs.YtfoflodgegehfaaW.PrintWords Go.Proofs.YtfoflodgegehfaaW.PrintLast Go.Proofs.YtfoflodgegehfaaW.PrintMore
theorem info8 : (Try.prog.info? 5).map (fun i => (i.zero, i.size, i.bytes)) = some (some (.int .u8 0), 1, 1) := by kernel_rfl
theorem info8s : (Try.prog.info? 5).map (·.size) = some 1 := by kernel_rfl
abbrev B8 (w : World) (base : Nat) (ok : Nat → Prop) (v : Value) (xs : List Int) : Prop := Kd.R (Kd.int .u8) 5 w base ok v xs
section
variable {ops : Array Oper} {rest : List Oper} {o : Oper} {a : Act} {Q : Exit → Act → World → Prop}
theorem app8 {w0 W : World} {base : Nat} (hgd : o.guard = none) (s x : Operand) (ho : o.op = .call { callee := .builtin .append, args := #[s, x], argTypes := #[48, 48] })
    {v : Value} {xs : List (Int)} {p : Int} {ok : Nat → Prop} (hs : a.eval s = v) (hx : a.eval x = .slice (some ⟨W.heap.size, 0, none⟩) 1 1)
    (HO : Kd.R (Kd.int .u8) 5 W base ok v xs) (HB : Below base w0 W) (hfresh : ∀ k, base ≤ k → W.heap.size ≤ k → ok k) (hbase : base ≤ W.heap.size) (hl : (xs.length + 1) * 1 ≤ 140737488355328)
    (h : ∀ v1 w1, Kd.R (Kd.int .u8) 5 w1 base ok v1 (xs ++ [p]) → Below base w0 w1 → W.grownBy w1 v.ownBlock → (v1.ownBlock = v.ownBlock ∨ ∃ b, v1.ownBlock = some b ∧ W.heap.size ≤ b) → wpList Try.prog ops Q rest (a.put o.dst v1) w1) :
    wpList Try.prog ops Q (o :: rest) a (W.alloc (.cells #[.int .u8 p] 5)) :=
  Kd.R_append (Kd.int .u8) (w0 := w0) base hgd s x 48 5 (.int .u8 0) 1 ho Try.underlying48 info8 rfl (by decide) (by omega) v xs p [.int .u8 p] ok (fun _ => False) hs hx rfl (fun _ hk => hk.elim) (fun k hk => hfresh k (Nat.le_trans hbase hk) hk) HO HB hbase hl h
end
section
variable {ops : Array Oper} {rest : List Oper} {o : Oper} {a : Act} {Q : Exit → Act → World → Prop}
theorem app8s {w0 W : World} {base : Nat} (hgd : o.guard = none) (s x : Operand) (ho : o.op = .call { callee := .builtin .append, args := #[s, x], argTypes := #[48, 9] })
    {v : Value} {xs : List Int} {y : ByteArray} (hs : a.eval s = v) (hx : a.eval x = .string y)
    (HO : B8 W base (fun _ => True) v xs) (HB : Below base w0 W) (hbase : base ≤ W.heap.size) (hl : xs.length + y.size ≤ 140737488355328)
    (h : ∀ v1 w1, B8 w1 base (fun _ => True) v1 (xs ++ bytesOf y) → Below base w0 w1 → W.grownBy w1 v.ownBlock → wpList Try.prog ops Q rest (a.put o.dst v1) w1) :
    wpList Try.prog ops Q (o :: rest) a W :=
  print_append_str (w0 := w0) base hgd s x 48 9 5 ho Try.underlying48 Try.underlying9 info8 v xs y hs hx (Kd.own_of_R HO) HB hbase hl
    (fun v1 w1 h1 h2 h3 => h v1 w1 (Kd.R_of_own h1 (fun _ _ => trivial)) h2 h3)
end
theorem strOf {W : World} {base : Nat} {ok : Nat → Prop} {v : Value} {xs : List Int} (h : B8 W base ok v xs) : (convert 48 9 v).run Try.prog W = .ok (.string (strOfNums xs)) W :=
  own_string (P := Try.prog) Try.underlying48 Try.underlying5 Try.underlying9 (Kd.own_of_R h)
theorem bt_range (s : ByteArray) (j : Nat) : 0 ≤ bt s (j : Int) ∧ bt s (j : Int) < 256 := by
  have := rd_bytesOf s (j : Int)
  rw [← this]
  unfold rd
  rw [List.getD_eq_getElem?_getD]
  cases h : (bytesOf s)[((j : Int)).toNat]? with
  | none => simp
  | some x =>
    obtain ⟨hl, rfl⟩ := List.getElem?_eq_some_iff.1 h
    have hm : (bytesOf s)[((j : Int)).toNat] ∈ bytesOf s := List.getElem_mem hl
    rw [Option.getD_some]
    generalize (bytesOf s)[((j : Int)).toNat] = x at hm
    unfold bytesOf at hm
    obtain ⟨b, _, rfl⟩ := List.mem_map.1 hm
    have := b.toNat_lt
    omega
theorem text_ne {s t : ByteArray} (h : ¬ s = t) : (s.toList == t.toList) = false := by
  rw [← beq_toListBytes]
  rw [Bool.eq_false_iff]
  exact fun e => h ((MapKept.bytes_beq s t).1 e)
theorem text_eq (s : ByteArray) : (s.toList == s.toList) = true := by simp
theorem drop_bytes (s : ByteArray) (j : Nat) (hj : j < s.size) : (bytesOf s).drop j = bt s (j : Int) :: (bytesOf s).drop (j + 1) := by
  have hl : j < (bytesOf s).length := by rw [bytesOf_length]; exact hj
  have hr := rd_bytesOf s (j : Int)
  unfold rd at hr
  rw [List.getD_eq_getElem?_getD, Int.toNat_natCast, List.getElem?_eq_getElem hl, Option.getD_some] at hr
  rw [List.drop_eq_getElem_cons hl, hr]
theorem tb_data (l : List Int) : (strOfNums l).data.toList = l.map fun n => UInt8.ofNat n.toNat := by
  simp [strOfNums]
theorem tb_str (s : ByteArray) : strOfNums (bytesOf s) = s := by
  apply ByteArray.ext
  apply Array.toList_inj.1
  rw [tb_data]
  unfold bytesOf
  rw [List.map_map]
  conv => rhs; rw [← List.map_id s.data.toList]
  apply List.map_congr_left
  intro b _
  simp
theorem tb_take (s : ByteArray) (k : Nat) : bytesOf (s.extract 0 k) = (bytesOf s).take k := by
  simp [bytesOf, List.map_take, List.extract_eq_take_drop]
theorem tb_drop (s : ByteArray) (k : Nat) : bytesOf (s.extract k s.size) = (bytesOf s).drop k := by
  have h : (bytesOf s).length = s.size := bytesOf_length s
  simp only [bytesOf] at h ⊢
  simp [List.extract_eq_take_drop]
  rw [List.take_of_length_le]
  simp
theorem tb_mid (s : ByteArray) (i j : Nat) : bytesOf (s.extract i j) = ((bytesOf s).drop i).take (j - i) := by
  simp [bytesOf, List.extract_eq_take_drop, List.map_take]
theorem tb_byt {l : List Int} (h : ∀ x ∈ l, 0 ≤ x ∧ x < 256) : bytesOf (strOfNums l) = l := by
  unfold bytesOf
  rw [tb_data, List.map_map]
  induction l with
  | nil => rfl
  | cons a l ih =>
    rw [List.map_cons, ih (fun x hx => h x (by simp [hx]))]
    have := h a (by simp)
    congr 1
    simp only [Function.comp]
    rw [UInt8.toNat_ofNat']
    omega
theorem tb_range (s : ByteArray) : ∀ x ∈ bytesOf s, 0 ≤ x ∧ x < 256 := by
  intro x hx
  unfold bytesOf at hx
  obtain ⟨b, _, rfl⟩ := List.mem_map.1 hx
  have := b.toNat_lt
  omega
end Go.Proofs.Ytfoflodgegehfaa.M
set_option linter.unusedVariables false
set_option linter.unusedSimpArgs false
namespace Go.Proofs.Ytfoflodgegehfaa.M
open Go.RowKit Go.Proofs.YtfoflodgegehfaaW.PrintWords Go.Proofs.YtfoflodgegehfaaW.PrintLast Go.Proofs.YtfoflodgegehfaaW.PrintMore
section
variable {P : Program} {ops : Array Oper} {Q : Exit → Act → World → Prop} {S : World → Prop} {ds : List Nat} {oi : Oper} {v : Value} {fuel : Nat} {l : Array Bool} {a a' : Act} {w : World}
theorem dpure (i : Nat) (N : Option Tmp) (hi : ops[i]? = some oi) (hN : oi.dst = N) (hc : anyB .any ops l (l.setIfInBounds i true) i = true) (hQ : ∀ c a w, Q (.panic c) (a.put oi.dst v) w → Q (.panic c) a w) (hw : Region.wanted oi (yielded ops a.tmps) = true)
    (hv : ∀ w, (execOp a.eval oi).run P w = .ok (.value v) w) (ha : a.put N v = a') (h : wpAnyLast P .any ops Q S ds fuel (l.setIfInBounds i true) a' w) : wpAnyLast P .any ops Q S ds (fuel + 1) l a w :=
  pure_ _ hi hN hc hQ (.inl ⟨hw, hv⟩) ha h
theorem dtake (i : Nat) (N : Option Tmp) (hi : ops[i]? = some oi) (hN : oi.dst = N) (hc : takeB .any ops ds l (l.setIfInBounds i true) i = true) (hQ : ∀ c a w, Q (.panic c) (a.put oi.dst v) w → Q (.panic c) a w) (hw : Region.wanted oi (yielded ops a.tmps) = true) (hS : S w)
    (hv : ∀ w, S w → (execOp a.eval oi).run P w = .ok (.value v) w) (ha : a.put N v = a') (h : wpAnyLast P .any ops Q S ds fuel (l.setIfInBounds i true) a' w) : wpAnyLast P .any ops Q S ds (fuel + 1) l a w :=
  take_ _ hi hN hc hQ (.inl ⟨hw, hv⟩) hS ha h
theorem done1 (i : Nat) (N : Option Tmp) (hi : ops[i]? = some oi) (hN : oi.dst = N) (hc : readyB .any ops l (l.setIfInBounds i true) i = true) (hd : i ∉ ds)
    (h : ∀ K : Act → World → Prop, Aside0 (∀ a' w', S w' → (S w' → wpAnyLast P .any ops Q S ds fuel (l.setIfInBounds i true) a' w') → K a' w') → if Region.wanted oi (yielded ops a.tmps) = true then Oper.wp P oi a w K Q else K (a.put N undef) w) :
    wpAnyLast P .any ops Q S ds (fuel + 1) l a w := one_ _ hi hN hc hd (fun K hK => h K ⟨hK⟩)
theorem dlast (i : Nat) (hi : ops[i]? = some oi) (hc : readyB .any ops l (l.setIfInBounds i true) i = true) (hd : i ∈ ds)
    (h : ∀ K : Act → World → Prop, Aside0 (∀ a' w', wpAnyLast P .any ops Q S ds fuel (l.setIfInBounds i true) a' w' → K a' w') → Aside0 (if Region.wanted oi (yielded ops a.tmps) = true then Oper.wp P oi a w K Q else K (a.put oi.dst undef) w)) :
    wpAnyLast P .any ops Q S ds (fuel + 1) l a w := last_ _ hi rfl hc hd (fun K hK => (h K ⟨hK⟩).out)
theorem dskip {K : Act → World → Prop} {w1 : World} (hw : Region.wanted oi (yielded ops a.tmps) = true) (hN : oi.dst = none) (hrun : (execOp a.eval oi).run P w = .ok .skip w1) (h : K a w1) :
    Aside0 (if Region.wanted oi (yielded ops a.tmps) = true then Oper.wp P oi a w K Q else K (a.put oi.dst undef) w) := by
  rw [hN]
  exact ⟨skip_ hw hN hrun h⟩
end
end Go.Proofs.Ytfoflodgegehfaa.M
set_option linter.unusedVariables false
set_option linter.unusedSimpArgs false
namespace Go.Proofs.Ytfoflodgegehfaa.M
open Go.RowKit Go.Proofs.YtfoflodgegehfaaW.PrintWords Go.Proofs.YtfoflodgegehfaaW.PrintLast Go.Proofs.YtfoflodgegehfaaW.PrintMore
def doneTo (n i : Nat) : Array Bool := (List.replicate i true ++ List.replicate (n - i) false).toArray
def wpDr (P : Program) (ops : Array Oper) (Q : Exit → Act → World → Prop) (S : World → Prop) (ds : List Nat) (rest : List Oper) (a : Act) (w : World) : Prop :=
  ops.toList.drop (ops.size - rest.length) = rest → wpAnyLast P .any ops Q S ds rest.length (doneTo ops.size (ops.size - rest.length)) a w
def anyI (ops : Array Oper) (n : Nat) : Bool := n ≤ ops.size && n ≠ 0 && anyB .any ops (doneTo ops.size (ops.size - n)) (doneTo ops.size (ops.size - n + 1)) (ops.size - n)
def takeI (ops : Array Oper) (ds : List Nat) (n : Nat) : Bool := n ≤ ops.size && n ≠ 0 && takeB .any ops ds (doneTo ops.size (ops.size - n)) (doneTo ops.size (ops.size - n + 1)) (ops.size - n)
def oneI (ops : Array Oper) (n : Nat) : Bool := n ≤ ops.size && n ≠ 0 && readyB .any ops (doneTo ops.size (ops.size - n)) (doneTo ops.size (ops.size - n + 1)) (ops.size - n)
def endI (ops : Array Oper) : Bool := Region.ready .any ops (doneTo ops.size ops.size) == []
section
variable {P : Program} {ops : Array Oper} {Q : Exit → Act → World → Prop} {S : World → Prop} {ds : List Nat} {o : Oper} {rest : List Oper} {v : Value} {a a' : Act} {w w1 : World}
theorem dr_start {id : Nat} {l : List Oper} (S : World → Prop) (ds : List Nat) (hm : P.follows .mixedOrders = true) (hS : S w.drew) (h : S w.drew → wpDr P l.toArray Q S ds l a w.drew) : (Code.region id l.toArray true).wp P Q a w := by
  refine start_ (S := S) (ds := ds) (n := l.length) (doneTo l.length 0) hm (by simp) (by simp [doneTo]) hS (fun hS => ?_)
  have := h hS (by simp)
  simpa using this
theorem dr_at (hd : ops.toList.drop (ops.size - (o :: rest).length) = o :: rest) (hn : (o :: rest).length ≤ ops.size) : ops[ops.size - (o :: rest).length]? = some o ∧ ops.toList.drop (ops.size - rest.length) = rest ∧ ops.size - rest.length = ops.size - (o :: rest).length + 1 := by
  have h1 : ops.size - rest.length = ops.size - (o :: rest).length + 1 := by simp only [List.length_cons] at hn ⊢; omega
  refine ⟨?_, ?_, h1⟩
  · rw [← Array.getElem?_toList, ← List.head?_drop, hd]; rfl
  · rw [h1, ← List.drop_drop, hd]; rfl
theorem dr_pure (hc : anyI ops (o :: rest).length = true) (hw : Region.wanted o (yielded ops a.tmps) = true) (hQ : ∀ c a w, Q (.panic c) (a.put o.dst v) w → Q (.panic c) a w)
    (hv : ∀ w, (execOp a.eval o).run P w = .ok (.value v) w) (ha : a.put o.dst v = a') (h : wpDr P ops Q S ds rest a' w) : wpDr P ops Q S ds (o :: rest) a w := by
  intro hd
  simp only [anyI, Bool.and_eq_true, decide_eq_true_eq] at hc
  obtain ⟨h1, h2, h3⟩ := dr_at hd hc.1.1
  have := h h2
  rw [h3] at this
  exact pure_ (N := o.dst) _ h1 rfl hc.2 hQ (.inl ⟨hw, hv⟩) ha this
theorem dr_off (hc : anyI ops (o :: rest).length = true) (hw : Region.wanted o (yielded ops a.tmps) = false) (hQ : ∀ c a w, Q (.panic c) (a.put o.dst undef) w → Q (.panic c) a w)
    (ha : a.put o.dst undef = a') (h : wpDr P ops Q S ds rest a' w) : wpDr P ops Q S ds (o :: rest) a w := by
  intro hd
  simp only [anyI, Bool.and_eq_true, decide_eq_true_eq] at hc
  obtain ⟨h1, h2, h3⟩ := dr_at hd hc.1.1
  have := h h2
  rw [h3] at this
  exact pure_ (N := o.dst) _ h1 rfl hc.2 hQ (.inr ⟨hw, rfl⟩) ha this
theorem dr_take (hc : takeI ops ds (o :: rest).length = true) (hw : Region.wanted o (yielded ops a.tmps) = true) (hQ : ∀ c a w, Q (.panic c) (a.put o.dst v) w → Q (.panic c) a w) (hS : S w)
    (hv : ∀ w, S w → (execOp a.eval o).run P w = .ok (.value v) w) (ha : a.put o.dst v = a') (h : wpDr P ops Q S ds rest a' w) : wpDr P ops Q S ds (o :: rest) a w := by
  intro hd
  simp only [takeI, Bool.and_eq_true, decide_eq_true_eq] at hc
  obtain ⟨h1, h2, h3⟩ := dr_at hd hc.1.1
  have := h h2
  rw [h3] at this
  exact take_ (N := o.dst) _ h1 rfl hc.2 hQ (.inl ⟨hw, hv⟩) hS ha this
theorem dr_one (hc : oneI ops (o :: rest).length = true) (hd : ds.contains (ops.size - (o :: rest).length) = false)
    (h : ∀ K : Act → World → Prop, Aside0 (∀ a' w', S w' → (S w' → wpDr P ops Q S ds rest a' w') → K a' w') → if Region.wanted o (yielded ops a.tmps) = true then Oper.wp P o a w K Q else K (a.put o.dst undef) w) :
    wpDr P ops Q S ds (o :: rest) a w := by
  intro hdr
  simp only [oneI, Bool.and_eq_true, decide_eq_true_eq] at hc
  obtain ⟨h1, h2, h3⟩ := dr_at hdr hc.1.1
  refine one_ (N := o.dst) _ h1 rfl hc.2 (by simpa using hd) (fun K hK => h K ⟨fun a' w' hS hW => hK a' w' hS (fun hS' => ?_)⟩)
  have := hW hS' h2
  rw [h3] at this
  exact this
theorem dr_last (hc : oneI ops (o :: rest).length = true) (hd : ds.contains (ops.size - (o :: rest).length) = true)
    (h : ∀ K : Act → World → Prop, Aside0 (∀ a' w', wpDr P ops Q S ds rest a' w' → K a' w') → Aside0 (if Region.wanted o (yielded ops a.tmps) = true then Oper.wp P o a w K Q else K (a.put o.dst undef) w)) :
    wpDr P ops Q S ds (o :: rest) a w := by
  intro hdr
  simp only [oneI, Bool.and_eq_true, decide_eq_true_eq] at hc
  obtain ⟨h1, h2, h3⟩ := dr_at hdr hc.1.1
  refine last_ (N := o.dst) _ h1 rfl hc.2 (by simpa using hd) (fun K hK => (h K ⟨fun a' w' hW => hK a' w' ?_⟩).out)
  have := hW h2
  rw [h3] at this
  exact this
theorem dr_done (hr : endI ops = true) (h : Q .normal a w) : wpDr P ops Q S ds [] a w := by
  intro _
  refine done_ ?_ h
  simpa [endI] using hr
theorem dr_call {f : FuncId} {fn : Func} {xs : Array Operand} {ts : Array TypeId} (hf : P.funcs[f]? = some fn) (hname : (fn.name == "runtime.NumGoroutine") = false) (hb : fn.body.isSome = true)
    (hop : o.op = .call { callee := .value (.func f), args := xs, argTypes := ts }) (hc : oneI ops (o :: rest).length = true) (hd : ds.contains (ops.size - (o :: rest).length) = false) (hw : Region.wanted o (yielded ops a.tmps) = true) {args : Array Value} (hargs : xs.map a.eval = args)
    (h : Calls P f args w fun e w' => (∃ v, e = .returned v ∧ S w' ∧ (S w' → wpDr P ops Q S ds rest (a.put o.dst v) w')) ∨ ∃ c, e = .panicked c ∧ Q (.panic c) a w') : wpDr P ops Q S ds (o :: rest) a w := by
  refine dr_one hc hd (fun K hK => ?_)
  rw [if_pos hw]
  have he := enters_ hf hname hb args w
  unfold Oper.wp
  have hrun : (execOp a.eval o).run P w = .ok (.enter f args) w := by
    unfold execOp
    simp [hop, resolve, Deferred.ofValue, invoke, Act.eval, hargs, he]
  rw [hrun, Oper.upon_enter]
  refine h.mono fun e w'' hh => ?_
  rcases hh with ⟨v, rfl, hs, hk⟩ | ⟨c, rfl, hq⟩
  · exact hK.out _ _ hs hk
  · exact hq
theorem dr_callL {f : FuncId} {fn : Func} {xs : Array Operand} {ts : Array TypeId} (hf : P.funcs[f]? = some fn) (hname : (fn.name == "runtime.NumGoroutine") = false) (hb : fn.body.isSome = true)
    (hop : o.op = .call { callee := .value (.func f), args := xs, argTypes := ts }) (hc : oneI ops (o :: rest).length = true) (hd : ds.contains (ops.size - (o :: rest).length) = true) (hw : Region.wanted o (yielded ops a.tmps) = true) {args : Array Value} (hargs : xs.map a.eval = args)
    (h : Calls P f args w fun e w' => (∃ v, e = .returned v ∧ wpDr P ops Q S ds rest (a.put o.dst v) w') ∨ ∃ c, e = .panicked c ∧ Q (.panic c) a w') : wpDr P ops Q S ds (o :: rest) a w := by
  refine dr_last hc hd (fun K hK => ⟨?_⟩)
  rw [if_pos hw]
  have he := enters_ hf hname hb args w
  unfold Oper.wp
  have hrun : (execOp a.eval o).run P w = .ok (.enter f args) w := by
    unfold execOp
    simp [hop, resolve, Deferred.ofValue, invoke, Act.eval, hargs, he]
  rw [hrun, Oper.upon_enter]
  refine h.mono fun e w'' hh => ?_
  rcases hh with ⟨v, rfl, hk⟩ | ⟨c, rfl, hq⟩
  · exact hK.out _ _ hk
  · exact hq
theorem dr_val (v : Value) (w1 : World) (hc : oneI ops (o :: rest).length = true) (hd : ds.contains (ops.size - (o :: rest).length) = false) (hw : Region.wanted o (yielded ops a.tmps) = true) (hrun : (execOp a.eval o).run P w = .ok (.value v) w1) (hS : S w1) (ha : a.put o.dst v = a')
    (h : S w1 → wpDr P ops Q S ds rest a' w1) : wpDr P ops Q S ds (o :: rest) a w := by
  refine dr_one hc hd (fun K hK => ?_)
  rw [if_pos hw]
  unfold Oper.wp
  rw [hrun]
  subst ha
  exact hK.out _ _ hS h
theorem dr_skip (w1 : World) (hc : oneI ops (o :: rest).length = true) (hd : ds.contains (ops.size - (o :: rest).length) = false) (hw : Region.wanted o (yielded ops a.tmps) = true) (hN : o.dst = none) (hrun : Aside0 ((execOp a.eval o).run P w = .ok .skip w1)) (hS : S w1) (h : S w1 → wpDr P ops Q S ds rest a w1) : wpDr P ops Q S ds (o :: rest) a w := by
  refine dr_one hc hd (fun K hK => ?_)
  rw [if_pos hw]
  unfold Oper.wp
  rw [hrun.out]
  show K (a.put o.dst undef) w1
  rw [hN]
  exact hK.out _ _ hS h
theorem dr_store (w1 : World) (hc : oneI ops (o :: rest).length = true) (hd : ds.contains (ops.size - (o :: rest).length) = true) (hw : Region.wanted o (yielded ops a.tmps) = true) (hN : o.dst = none) (hrun : Aside0 ((execOp a.eval o).run P w = .ok .skip w1)) (h : wpDr P ops Q S ds rest a w1) : wpDr P ops Q S ds (o :: rest) a w := by
  refine dr_last hc hd (fun K hK => ?_)
  refine dskip hw hN hrun.out ?_
  exact hK.out _ _ h
theorem dr_norm (ha : a = a') (h : wpDr P ops Q S ds rest a' w) : wpDr P ops Q S ds rest a w := by
  subst ha
  exact h
end
end Go.Proofs.Ytfoflodgegehfaa.M
set_option linter.unusedVariables false
set_option linter.unusedSimpArgs false
namespace Go.Proofs.Ytfoflodgegehfaa.M
open Go.RowKit Go.Maps Go.Proofs.YtfoflodgegehfaaW.PrintWords Go.Proofs.YtfoflodgegehfaaW.PrintLast Go.Proofs.YtfoflodgegehfaaW.PrintMore
attribute [local go_sem] max2_int min2_int max_two min_two max_three min_three max_four min_four
attribute [local go_sem ↓] Go.wp_at_zero Go.wp_at_succ
theorem bt_getD (s : ByteArray) (j : Nat) : (bytesOf s).getD j 0 = bt s (j : Int) := by
  have := rd_bytesOf s (j : Int)
  unfold rd at this
  simpa using this
theorem text_some {s : ByteArray} (h : s.size ≠ 0) : s.toList.isEmpty = false := by
  rw [Lib.toList_data]
  cases hl : s.data.toList with
  | nil => exact absurd (by have := Lib.size_eq s; rw [hl] at this; exact this) h
  | cons _ _ => rfl
theorem size_zero {s : ByteArray} (h : s.size = 0) : s = ⟨#[]⟩ := by
  obtain ⟨d⟩ := s
  have : d = #[] := Array.eq_empty_of_size_eq_zero h
  rw [this]
theorem bt_nat (s : ByteArray) (j : Nat) (hj : j < s.size) : ((s[j]'hj).toNat : Int) = bt s (j : Int) := bt_at s (j : Int) hj
theorem take_bytes (s : ByteArray) (j : Nat) (hj : j < s.size) : (bytesOf s).take (j + 1) = (bytesOf s).take j ++ [bt s (j : Int)] := by
  have hl : j < (bytesOf s).length := by rw [bytesOf_length]; exact hj
  have hb := bt_getD s j
  rw [List.getD_eq_getElem?_getD, List.getElem?_eq_getElem hl, Option.getD_some] at hb
  rw [List.take_succ_eq_append_getElem hl, hb]
end Go.Proofs.Ytfoflodgegehfaa.M
namespace Go.Proofs
open Go.Shelf
def Try.lays219_ren : Go.Shelf.Ren := ⟨fun | 219 => 51 | 217 => 66 | 225 => 67 | 224 => 68 | 267 => 69 | 266 => 82 | 314 => 83 | n => n, fun | 9 => 9 | 3 => 3 | 4 => 4 | 5 => 5 | 46 => 73 | 146 => 121 | 51 => 81 | n => n, fun | 1 => 0 | n => n⟩
theorem Try.lays219 : Go.Proofs.Lays.n219 Try.prog Try.lays219_ren := {
  mixed := by kernel_rfl
  f217 := Try.func66.trans (congrArg some (by kernel_rfl))
  f219 := Try.func51.trans (congrArg some (by kernel_rfl))
  f224 := Try.func68.trans (congrArg some (by kernel_rfl))
  f225 := Try.func67.trans (congrArg some (by kernel_rfl))
  f266 := Try.func82.trans (congrArg some (by kernel_rfl))
  f267 := Try.func69.trans (congrArg some (by kernel_rfl))
  f314 := Try.func83.trans (congrArg some (by kernel_rfl))
  t3 := Try.underlying3
  a3 := Try.isAgg3
  z3 := Try.sizeOf3
  v3 := Try.zeroValue3
  t4 := Try.underlying4
  a4 := Try.isAgg4
  z4 := Try.sizeOf4
  v4 := Try.zeroValue4
  t5 := Try.underlying5
  a5 := Try.isAgg5
  z5 := Try.sizeOf5
  v5 := Try.zeroValue5
  t9 := Try.underlying9
  a9 := Try.isAgg9
  z9 := Try.sizeOf9
  v9 := Try.zeroValue9
  t46 := Try.underlying73
  a46 := Try.isAgg73
  z46 := Try.sizeOf73
  v46 := Try.zeroValue73
  t51 := Try.underlying81
  a51 := Try.isAgg81
  z51 := Try.sizeOf81
  v51 := Try.zeroValue81
  t146 := Try.underlying121
  a146 := Try.isAgg121
  z146 := Try.sizeOf121
  v146 := Try.zeroValue121
  g1 := by kernel_rfl }
open Go.RowKit Go.Lib in
/-- internal/stringslite.Index (what strings.Index calls) AT A substr OF ONE BYTE c: IT RETURNS 'Lib.indexByte s c'; the world is as it was. (LAID: no walk: one application.) -/
theorem Try.stringslite_Index_one (s : ByteArray) (c : UInt8) (w : World) :
    Calls Try.prog 51 #[.string s, .string ⟨#[c]⟩] w fun e w' => e = .returned (.int .i64 (Lib.indexByte s.data.toList c)) ∧ w' = w := Any.stringslite_Index_one Try.lays219 s c w
end Go.Proofs
set_option linter.unusedVariables false
set_option linter.unusedSimpArgs false
namespace Go.Proofs.Ytfoflodgegehfaa.M
open Go.RowKit Go.Maps Go.Proofs.YtfoflodgegehfaaW.PrintWords Go.Proofs.YtfoflodgegehfaaW.PrintLast Go.Proofs.YtfoflodgegehfaaW.PrintMore
attribute [local go_sem] max2_int min2_int max_two min_two max_three min_three max_four min_four
attribute [local go_sem ↓] Go.wp_at_zero Go.wp_at_succ
def headI (l : List Int) (d : Int) : List Int := l.takeWhile (· != d)
def tailI (l : List Int) (d : Int) : List Int := l.drop ((headI l d).length + 1)
theorem index_at (l : List UInt8) (c : UInt8) : Lib.indexByte l c = if (l.map fun b => (b.toNat : Int)).contains (c.toNat : Int) then ((headI (l.map fun b => (b.toNat : Int)) c.toNat).length : Int) else -1 := by
  induction l with
  | nil => rfl
  | cons b l ih =>
    unfold Lib.indexByte
    rw [ih]
    have he : ((b.toNat : Int) == (c.toNat : Int)) = (b == c) := by
      rw [Bool.eq_iff_iff, beq_iff_eq, beq_iff_eq]
      exact ⟨fun h => UInt8.toNat_inj.mp (by omega), fun h => by rw [h]⟩
    have he2 : ((c.toNat : Int) == (b.toNat : Int)) = (b == c) := by rw [← he, Bool.eq_iff_iff, beq_iff_eq, beq_iff_eq]; exact eq_comm
    simp only [List.map_cons, List.contains_cons, headI, List.takeWhile_cons, bne, he, he2]
    cases hb : (b == c) with
    | true => simp
    | false =>
      simp only [Bool.false_or, Bool.not_false, if_true, Bool.false_eq_true, if_false]
      split
      · rename_i h
        simp only [headI, bne] at *
        simp
        try omega
      · rfl
theorem head_len (l : List Int) (d : Int) (h : l.contains d = true) : (headI l d).length < l.length := by
  induction l with
  | nil => exact absurd h (by simp)
  | cons a l ih =>
    unfold headI
    rw [List.takeWhile_cons]
    by_cases ha : a = d
    · rw [ha]
      simp
    · rw [if_pos (by simpa using ha)]
      rw [List.contains_cons] at h
      have := ih (by simpa [beq_eq_false_iff_ne.mpr (Ne.symm ha)] using h)
      simp only [headI] at this
      simp
      exact this
theorem head_take (l : List Int) (d : Int) : headI l d = l.take (headI l d).length := by
  induction l with
  | nil => rfl
  | cons a l ih =>
    unfold headI
    rw [List.takeWhile_cons]
    split
    · rw [List.length_cons, List.take_succ_cons]
      congr 1
    · rfl
def cutE (s : ByteArray) (d : Int) : Value := if (bytesOf s).contains d then .tuple #[.string (strOfNums (headI (bytesOf s) d)), .string (strOfNums (tailI (bytesOf s) d)), .bool true] else .tuple #[.string s, .string ⟨#[]⟩, .bool false]
set_option maxHeartbeats 4000000 in
set_option maxRecDepth 100000 in
theorem cutLite_calls (s : ByteArray) (c : UInt8) (w : World) (hs : s.size ≤ 1000000000000) :
    Calls Try.prog 34 #[.string s, .string ⟨#[c]⟩] w fun e w' => e = .returned (cutE s c.toNat) ∧ Below w.heap.size w w' := by
  have HB := Aside0.mk (Below.refl w.heap.size w)
  obtain ⟨V, hV⟩ : ∃ V, cutE s c.toNat = V := ⟨_, rfl⟩
  rw [hV]
  unfold cutE at hV
  obtain ⟨i, hi⟩ : ∃ i, Lib.indexByte s.data.toList c = i := ⟨_, rfl⟩
  have hx0 := index_at s.data.toList c
  rw [hi] at hx0
  have q3 : (s.size : Int) ≤ 1000000000000 := by omega
  cases hc : (bytesOf s).contains (c.toNat : Int) with
  | true =>
    rw [hc, if_pos rfl] at hV
    have hx : i = ((headI (bytesOf s) c.toNat).length : Int) := by rw [hx0]; unfold bytesOf at hc ⊢; rw [if_pos hc]
    clear hx0
    have hl := head_len _ _ hc
    rw [bytesOf_length] at hl
    obtain ⟨n, hn⟩ : ∃ n, (headI (bytesOf s) c.toNat).length = n := ⟨_, rfl⟩
    rw [hn] at hx hl
    subst hx
    have h1 : s.extract 0 n = strOfNums (headI (bytesOf s) c.toNat) := by rw [head_take, hn, ← tb_take, tb_str]
    have h2 : s.extract (n + 1) s.size = strOfNums (tailI (bytesOf s) c.toNat) := by unfold tailI; rw [hn, ← tb_drop, tb_str]
    obtain ⟨x, hx1⟩ : ∃ x, s.extract 0 n = x := ⟨_, rfl⟩
    obtain ⟨y, hy1⟩ : ∃ y, s.extract (n + 1) s.size = y := ⟨_, rfl⟩
    rw [← h1, ← h2, hx1, hy1] at hV
    have HV := Lib.hid hV
    have HI := Lib.hid hi
    have q1 : (n : Int) + 1 ≤ (s.size : Int) := by omega
    have q4 : n + 1 ≤ s.size := by omega
    have q5 : (n : Int) ≤ (s.size : Int) := by omega
    have q6 : n ≤ s.size := by omega
    have q7 : (0 : Int) ≤ (n : Int) := by omega
    have q8 : (0 : Int) ≤ (n : Int) + 1 := by omega
    have hw1 : IntKind.i64.wrap ((n : Int) + 1) = (n : Int) + 1 := by rw [IntKind.wrap_i64]; omega
    clear h1 h2 hV hi hc hn hs hl
    go_enter Try.func34, Try.ntmps34
    go_wp2_with fail
    refine (Try.stringslite_Index_one s c _).mono ?_
    rintro e w1 ⟨rfl, rfl⟩
    rw [HI.out]
    go_wp2_with fail
    refine dr_start (fun _ => True) [] (by kernel_rfl) trivial (fun hS => ?_)
    repeat (first | (refine dr_pure (by kernel_rfl) (by rfl) (fun _ _ _ h => h) (v := ?_) (a' := ?_) ?_ ?_ ?_; rotate_left 2; (focus (intro w'; go_simp; with_reducible rfl)); (focus (simp only [Act.put, List.setIfInBounds_toArray, List.set_cons_zero, List.set_cons_succ]; rfl))) | (refine dr_take (by kernel_rfl) (by rfl) (fun _ _ _ h => h) hS (v := ?_) (a' := ?_) ?_ ?_ ?_; rotate_left 2; (focus (intro w' hS'; go_simp; with_reducible rfl)); (focus (simp only [Act.put, List.setIfInBounds_toArray, List.set_cons_zero, List.set_cons_succ]; rfl))) | (refine dr_off (by kernel_rfl) (by rfl) (fun _ _ _ h => h) (a' := ?_) ?_ ?_; rotate_left; (focus (simp only [Act.put, List.setIfInBounds_toArray, List.set_cons_zero, List.set_cons_succ]; rfl))))
    refine dr_done (by kernel_rfl) ?_
    have hv := HV.out
    go_wp2_with fail
    go_ret3
    exact ⟨congrArg Ending.returned hv, HB.out.drew⟩
  | false =>
    rw [hc] at hV
    have hx : i = -1 := by rw [hx0]; unfold bytesOf at hc; rw [hc]; rfl
    clear hx0
    subst hx
    have HV := Lib.hid hV
    have HI := Lib.hid hi
    clear hV hi hc hs
    go_enter Try.func34, Try.ntmps34
    go_wp2_with fail
    refine (Try.stringslite_Index_one s c _).mono ?_
    rintro e w1 ⟨rfl, rfl⟩
    rw [HI.out]
    have hv := HV.out
    go_wp2_with fail
    go_ret3
    exact ⟨congrArg Ending.returned hv, HB.out⟩
set_option maxHeartbeats 4000000 in
set_option maxRecDepth 100000 in
theorem cut_calls (s : ByteArray) (c : UInt8) (w : World) (hs : s.size ≤ 1000000000000) :
    Calls Try.prog 20 #[.string s, .string ⟨#[c]⟩] w fun e w' => e = .returned (cutE s c.toNat) ∧ Below w.heap.size w w' := by
  obtain ⟨V, hV⟩ : ∃ V, cutE s c.toNat = V := ⟨_, rfl⟩
  rw [hV]
  have HV := Lib.hid hV
  obtain ⟨a, b, f, rfl⟩ : ∃ a b f, V = .tuple #[.string a, .string b, .bool f] := by
    rw [← hV]
    unfold cutE
    split
    · exact ⟨_, _, _, rfl⟩
    · exact ⟨_, _, _, rfl⟩
  clear hV
  go_enter Try.func20, Try.ntmps20
  go_wp2_with fail
  refine (cutLite_calls s c _ hs).mono ?_
  rintro e w1 ⟨rfl, hb⟩
  rw [HV.out]
  go_wp2_with fail
  go_ret3
  exact ⟨rfl, hb⟩
end Go.Proofs.Ytfoflodgegehfaa.M
set_option linter.unusedVariables false
set_option linter.unusedSimpArgs false
namespace Go.Proofs.Ytfoflodgegehfaa.M
open Go.RowKit Go.Maps Go.Proofs.YtfoflodgegehfaaW.PrintWords Go.Proofs.YtfoflodgegehfaaW.PrintLast Go.Proofs.YtfoflodgegehfaaW.PrintMore
attribute [local go_sem] max2_int min2_int max_two min_two max_three min_three max_four min_four
attribute [local go_sem ↓] Go.wp_at_zero Go.wp_at_succ
theorem cut_found (s : ByteArray) (d : Int) (j : Nat) (hj : j < s.size) (h : ∀ c ∈ (bytesOf s).take j, c ≠ d) (e : bt s (j : Int) = d) : cutE s d = .tuple #[.string (s.extract 0 j), .string (s.extract (j + 1) s.size), .bool true] := by
  have hs : bytesOf s = (bytesOf s).take j ++ d :: (bytesOf s).drop (j + 1) := by
    rw [← e, ← drop_bytes s j hj, List.take_append_drop]
  have hl : ((bytesOf s).take j).length = j := by rw [List.length_take, bytesOf_length]; omega
  have hh : headI (bytesOf s) d = (bytesOf s).take j := by
    have := List.takeWhile_append_of_pos (p := fun x : Int => x != d) (l₁ := (bytesOf s).take j) (l₂ := d :: (bytesOf s).drop (j + 1)) (by intro c hc; simp [h c hc])
    rw [← hs] at this
    unfold headI
    rw [this]
    simp
  have hc : (bytesOf s).contains d = true := by rw [hs]; simp
  unfold cutE tailI
  rw [if_pos hc, hh, hl, ← tb_take, tb_str, ← tb_drop, tb_str]
theorem cut_nowhere (s : ByteArray) (d : Int) (h : ∀ c ∈ bytesOf s, c ≠ d) : cutE s d = .tuple #[.string s, .string ⟨#[]⟩, .bool false] := by
  unfold cutE
  rw [if_neg]
  intro hc
  have := List.contains_iff_mem.1 hc
  exact h d this rfl
set_option maxHeartbeats 4000000 in
set_option maxRecDepth 100000 in
theorem refCut_calls (s : ByteArray) (d : Int) (w : World) (hs : s.size ≤ 1000000000000) :
    Calls Try.prog 21 #[.string s, .int .u8 d] w fun e w' => e = .returned (cutE s d) ∧ Below w.heap.size w w' := by
  have HB := Aside0.mk (Below.refl w.heap.size w)
  obtain ⟨V, hV⟩ : ∃ V, cutE s d = V := ⟨_, rfl⟩
  rw [hV]
  have HV := Lib.hid hV
  have HS := Lib.hid hs
  clear hV hs
  go_enter Try.func21, Try.ntmps21
  go_wp2_with fail
  go_loopg [7] s.size (fun kq v7 w' => ∃ (j : Nat), v7 = .int .i64 j ∧ Aside0 (kq + j = s.size) ∧ Aside0 (∀ c ∈ (bytesOf s).take j, c ≠ d) ∧ Aside0 (w' = w))
  case atStart => exact ⟨0, rfl, ⟨rfl⟩, ⟨by simp⟩, ⟨rfl⟩⟩
  case round =>
    obtain ⟨j, rfl, HK, HN, HW⟩ := hrel
    obtain rfl := HW.out
    clear HW
    cases gk with
    | zero =>
      obtain rfl : j = s.size := by have := HK.out; omega
      have hn := HN.out
      rw [List.take_of_length_le (by rw [bytesOf_length]; omega)] at hn
      have HE := Lib.hid ((cut_nowhere s d hn).symm.trans HV.out)
      clear hn HN
      go_wp2_with fail
      go_ret3
      exact ⟨congrArg Ending.returned HE.out, HB.out⟩
    | succ k =>
      have hj : j < s.size := by have := HK.out; omega
      have hx := bt_nat s j hj
      obtain ⟨c, hc⟩ : ∃ c, bt s (j : Int) = c := ⟨_, rfl⟩
      rw [hc] at hx
      have q1 : (0 : Int) ≤ (j : Int) := by omega
      have q2 : (j : Int) < (s.size : Int) := by omega
      have q3 : (s.size : Int) ≤ 1000000000000 := by have := HS.out; omega
      by_cases he : c = d
      · subst he
        have HE := Lib.hid ((cut_found s c j hj HN.out hc).symm.trans HV.out)
        have q5 : (j : Int) ≤ (s.size : Int) := by omega
        have q6 : j ≤ s.size := by omega
        have q7 : (j : Int) + 1 ≤ (s.size : Int) := by omega
        have q8 : j + 1 ≤ s.size := by omega
        have q9 : (0 : Int) ≤ (j : Int) + 1 := by omega
        have hw1 : IntKind.i64.wrap ((j : Int) + 1) = (j : Int) + 1 := by rw [IntKind.wrap_i64]; omega
        clear hc
        go_wp2_with fail
        refine dr_start (fun _ => True) [] (by kernel_rfl) trivial (fun hS => ?_)
        repeat (first | (refine dr_pure (by kernel_rfl) (by rfl) (fun _ _ _ h => h) (v := ?_) (a' := ?_) ?_ ?_ ?_; rotate_left 2; (focus (intro w'; go_simp; with_reducible rfl)); (focus (simp only [Act.put, List.setIfInBounds_toArray, List.set_cons_zero, List.set_cons_succ]; rfl))) | (refine dr_take (by kernel_rfl) (by rfl) (fun _ _ _ h => h) hS (v := ?_) (a' := ?_) ?_ ?_ ?_; rotate_left 2; (focus (intro w' hS'; go_simp; with_reducible rfl)); (focus (simp only [Act.put, List.setIfInBounds_toArray, List.set_cons_zero, List.set_cons_succ]; rfl))) | (refine dr_off (by kernel_rfl) (by rfl) (fun _ _ _ h => h) (a' := ?_) ?_ ?_; rotate_left; (focus (simp only [Act.put, List.setIfInBounds_toArray, List.set_cons_zero, List.set_cons_succ]; rfl))))
        refine dr_done (by kernel_rfl) ?_
        have hv := HE.out
        go_wp2_with fail
        go_ret3
        exact ⟨congrArg Ending.returned hv, HB.out.drew⟩
      · have e1 : (c == d) = false := beq_eq_false_iff_ne.mpr he
        have HN2 := Aside0.mk (show ∀ x ∈ (bytesOf s).take (j + 1), x ≠ d by
          rw [take_bytes s j hj]
          intro x hx
          rw [List.mem_append] at hx
          rcases hx with hx | hx
          · exact HN.out x hx
          · rw [List.mem_singleton.1 hx, hc]; exact he)
        clear hc
        go_wp2_with fail
        go_roundg k
        case measure => omega
        case rel => exact ⟨j + 1, by go_num, ⟨by have := HK.out; omega⟩, HN2, ⟨rfl⟩⟩
end Go.Proofs.Ytfoflodgegehfaa.M
set_option linter.unusedVariables false
set_option linter.unusedSimpArgs false
namespace Go.Proofs.Ytfoflodgegehfaa.M
open Go.RowKit Go.Maps Go.Proofs.YtfoflodgegehfaaW.PrintWords Go.Proofs.YtfoflodgegehfaaW.PrintLast Go.Proofs.YtfoflodgegehfaaW.PrintMore
attribute [local go_sem] max2_int min2_int max_two min_two max_three min_three max_four min_four
attribute [local go_sem ↓] Go.wp_at_zero Go.wp_at_succ
def cutM (s : ByteArray) (d : Int) : Bool := (bytesOf s).contains d
def cutA (s : ByteArray) (d : Int) : ByteArray := if (bytesOf s).contains d then strOfNums (headI (bytesOf s) d) else s
def cutB (s : ByteArray) (d : Int) : ByteArray := if (bytesOf s).contains d then strOfNums (tailI (bytesOf s) d) else ⟨#[]⟩
theorem cutE_eq (s : ByteArray) (d : Int) : cutE s d = .tuple #[.string (cutA s d), .string (cutB s d), .bool (cutM s d)] := by
  unfold cutE cutA cutB cutM
  cases (bytesOf s).contains d <;> rfl
theorem cutA_size (s : ByteArray) (d : Int) : (cutA s d).size ≤ s.size := by
  unfold cutA
  split
  · rename_i h
    have hl := head_len _ _ h
    rw [bytesOf_length] at hl
    rw [head_take, ← tb_take, tb_str, ByteArray.size_extract]
    omega
  · exact Nat.le_refl _
theorem cutB_less (s : ByteArray) (d : Int) (h : cutM s d = true) : (cutB s d).size < s.size := by
  unfold cutM at h
  have hl := head_len _ _ h
  rw [bytesOf_length] at hl
  unfold cutB tailI
  rw [if_pos h, ← tb_drop, tb_str, ByteArray.size_extract]
  omega
theorem cutB_size (s : ByteArray) (d : Int) : (cutB s d).size ≤ s.size := by
  cases h : cutM s d with
  | true => exact Nat.le_of_lt (cutB_less s d h)
  | false =>
    unfold cutM at h
    unfold cutB
    rw [if_neg (by rw [h]; simp)]
    exact Nat.zero_le _
def paramN : Nat → ByteArray → ByteArray → ByteArray × Bool
  | 0, _, _ => (⟨#[]⟩, false)
  | n + 1, s, k => if cutA (cutA s 38) 61 = k then (cutB (cutA s 38) 61, true) else if cutM s 38 then paramN n (cutB s 38) k else (⟨#[]⟩, false)
def paramF (s k : ByteArray) : ByteArray × Bool := paramN (s.size + 1) s k
set_option maxHeartbeats 4000000 in
set_option maxRecDepth 100000 in
theorem split_route_calls (s : ByteArray) (w : World) (hs : s.size ≤ 1000000000000) :
    Calls Try.prog 9 #[.string s] w fun e w' => e = .returned (.tuple #[.string (cutA s 63), .string (cutB s 63)]) ∧ Below w.heap.size w w' := by
  have HB := Aside0.mk (Below.refl w.heap.size w)
  have hc := fun w => cut_calls s 63 w hs
  rw [cutE_eq, show ((63 : UInt8).toNat : Int) = 63 from rfl] at hc
  generalize cutA s 63 = a at *
  generalize cutB s 63 = b at *
  generalize cutM s 63 = m at *
  go_enter Try.func9, Try.ntmps9
  go_wp2_with fail
  refine (hc _).mono ?_
  rintro e w2 ⟨rfl, hb⟩
  have HB2 := Aside0.mk (HB.out.trans (hb.mono HB.out.size))
  clear hb HB
  go_wp2_with fail
  go_ret2
  exact ⟨rfl, HB2.out⟩
set_option maxHeartbeats 4000000 in
set_option maxRecDepth 100000 in
theorem split_ref_calls (s : ByteArray) (w : World) (hs : s.size ≤ 1000000000000) :
    Calls Try.prog 10 #[.string s] w fun e w' => e = .returned (.tuple #[.string (cutA s 63), .string (cutB s 63)]) ∧ Below w.heap.size w w' := by
  have HB := Aside0.mk (Below.refl w.heap.size w)
  have hc := fun w => refCut_calls s 63 w hs
  rw [cutE_eq] at hc
  generalize cutA s 63 = a at *
  generalize cutB s 63 = b at *
  generalize cutM s 63 = m at *
  go_enter Try.func10, Try.ntmps10
  go_wp2_with fail
  refine (hc _).mono ?_
  rintro e w2 ⟨rfl, hb⟩
  have HB2 := Aside0.mk (HB.out.trans (hb.mono HB.out.size))
  clear hb HB
  go_wp2_with fail
  go_ret2
  exact ⟨rfl, HB2.out⟩
set_option maxHeartbeats 4000000 in
set_option maxRecDepth 100000 in
theorem param_calls (s k : ByteArray) (w : World) (hs : s.size ≤ 1000000000000) :
    Calls Try.prog 11 #[.string s, .string k] w fun e w' => e = .returned (.tuple #[.string (paramF s k).1, .bool (paramF s k).2]) ∧ Below w.heap.size w w' := by
  have HB := Aside0.mk (Below.refl w.heap.size w)
  obtain ⟨V, hV⟩ : ∃ V, paramF s k = V := ⟨_, rfl⟩
  rw [hV]
  have HV := Aside0.mk hV
  have HS := Aside0.mk hs
  clear hV hs
  go_enter Try.func11, Try.ntmps11
  go_wp2_with fail
  go_loopg [0, 6] (s.size + 1) (fun kq v0 v6 w' => ∃ (c : ByteArray) (m : Bool), v0 = .string c ∧ v6 = .bool m ∧ Aside0 (if m then paramN kq c k = V ∧ c.size < kq ∧ c.size ≤ 1000000000000 else V = (⟨#[]⟩, false)) ∧ Aside0 (Below w.heap.size w w'))
  case atStart => exact ⟨s, true, rfl, rfl, ⟨HV.out, Nat.lt_succ_self _, HS.out⟩, HB⟩
  case round =>
    obtain ⟨c, m, rfl, rfl, HK, HB1⟩ := hrel
    cases m with
    | false =>
      go_wp2_with fail
      have hk := HK.out
      rw [if_neg (by simp)] at hk
      subst hk
      go_ret2
      exact ⟨rfl, HB1.out⟩
    | true =>
      obtain ⟨hp, hl, hz⟩ := HK.out
      clear HK
      cases gk with
      | zero => exact absurd hl (by omega)
      | succ n =>
        unfold paramN at hp
        have h1 := fun w => cut_calls c 38 w hz
        have h2 := fun w => cut_calls (cutA c 38) 61 w (Nat.le_trans (cutA_size c 38) hz)
        rw [cutE_eq, show ((38 : UInt8).toNat : Int) = 38 from rfl] at h1
        rw [cutE_eq, show ((61 : UInt8).toNat : Int) = 61 from rfl] at h2
        have hle := cutB_size c 38
        have hlt := cutB_less c 38
        generalize cutA c 38 = a at *
        generalize cutB c 38 = b at *
        generalize cutM c 38 = m at *
        generalize cutA a 61 = x at *
        generalize cutB a 61 = y at *
        generalize cutM a 61 = z at *
        by_cases he : x = k
        · subst he
          rw [if_pos rfl] at hp
          subst hp
          clear hl hz hle hlt
          go_wp2_with fail
          refine (h1 _).mono ?_
          rintro e w2 ⟨rfl, hb⟩
          have HB2 := Aside0.mk (HB1.out.trans (hb.mono HB1.out.size))
          clear hb HB1
          go_wp2_with fail
          refine (h2 _).mono ?_
          rintro e w3 ⟨rfl, hb⟩
          have HB3 := Aside0.mk (HB2.out.trans (hb.mono HB2.out.size))
          clear hb HB2
          go_wp2_with fail
          go_ret2
          exact ⟨rfl, HB3.out⟩
        · have hne := text_ne he
          rw [if_neg he] at hp
          have HP := Aside0.mk (show (if m then paramN n b k = V ∧ b.size < n ∧ b.size ≤ 1000000000000 else V = (⟨#[]⟩, false)) by
            cases m with
            | true =>
              have := hlt rfl
              rw [if_pos rfl] at hp
              rw [if_pos rfl]
              exact ⟨hp, by omega, by omega⟩
            | false =>
              rw [if_neg (by simp)] at hp
              rw [if_neg (by simp)]
              exact hp.symm)
          clear hl hz hle hlt hp
          go_wp2_with fail
          refine (h1 _).mono ?_
          rintro e w2 ⟨rfl, hb⟩
          have HB2 := Aside0.mk (HB1.out.trans (hb.mono HB1.out.size))
          clear hb HB1
          go_wp2_with fail
          refine (h2 _).mono ?_
          rintro e w3 ⟨rfl, hb⟩
          have HB3 := Aside0.mk (HB2.out.trans (hb.mono HB2.out.size))
          clear hb HB2
          go_wp2_with fail
          go_roundg n
          case measure => omega
          case rel => exact ⟨b, m, rfl, rfl, HP, HB3⟩
set_option maxHeartbeats 4000000 in
set_option maxRecDepth 100000 in
theorem param_ref_calls (s k : ByteArray) (w : World) (hs : s.size ≤ 1000000000000) :
    Calls Try.prog 12 #[.string s, .string k] w fun e w' => e = .returned (.tuple #[.string (paramF s k).1, .bool (paramF s k).2]) ∧ Below w.heap.size w w' := by
  have HB := Aside0.mk (Below.refl w.heap.size w)
  obtain ⟨V, hV⟩ : ∃ V, paramF s k = V := ⟨_, rfl⟩
  rw [hV]
  have HV := Aside0.mk hV
  have HS := Aside0.mk hs
  clear hV hs
  go_enter Try.func12, Try.ntmps12
  go_wp2_with fail
  go_loopg [0] (s.size + 1) (fun kq v0 w' => ∃ (c : ByteArray), v0 = .string c ∧ Aside0 (paramN kq c k = V ∧ c.size < kq ∧ c.size ≤ 1000000000000) ∧ Aside0 (Below w.heap.size w w'))
  case atStart => exact ⟨s, rfl, ⟨HV.out, Nat.lt_succ_self _, HS.out⟩, HB⟩
  case round =>
    obtain ⟨c, rfl, HK, HB1⟩ := hrel
    obtain ⟨hp, hl, hz⟩ := HK.out
    clear HK
    cases gk with
    | zero => exact absurd hl (by omega)
    | succ n =>
      unfold paramN at hp
      have h1 := fun w => refCut_calls c 38 w hz
      have h2 := fun w => refCut_calls (cutA c 38) 61 w (Nat.le_trans (cutA_size c 38) hz)
      rw [cutE_eq] at h1
      rw [cutE_eq] at h2
      have hle := cutB_size c 38
      have hlt := cutB_less c 38
      generalize cutA c 38 = a at *
      generalize cutB c 38 = b at *
      generalize cutM c 38 = m at *
      generalize cutA a 61 = x at *
      generalize cutB a 61 = y at *
      generalize cutM a 61 = z at *
      by_cases he : x = k
      · subst he
        rw [if_pos rfl] at hp
        subst hp
        clear hl hz hle hlt
        go_wp2_with fail
        refine (h1 _).mono ?_
        rintro e w2 ⟨rfl, hb⟩
        have HB2 := Aside0.mk (HB1.out.trans (hb.mono HB1.out.size))
        clear hb HB1
        go_wp2_with fail
        refine (h2 _).mono ?_
        rintro e w3 ⟨rfl, hb⟩
        have HB3 := Aside0.mk (HB2.out.trans (hb.mono HB2.out.size))
        clear hb HB2
        go_wp2_with fail
        go_ret2
        exact ⟨rfl, HB3.out⟩
      · have hne := text_ne he
        rw [if_neg he] at hp
        cases m with
        | true =>
          rw [if_pos rfl] at hp
          have HP := Aside0.mk (show paramN n b k = V ∧ b.size < n ∧ b.size ≤ 1000000000000 by
            have := hlt rfl
            exact ⟨hp, by omega, by omega⟩)
          clear hl hz hle hlt hp
          go_wp2_with fail
          refine (h1 _).mono ?_
          rintro e w2 ⟨rfl, hb⟩
          have HB2 := Aside0.mk (HB1.out.trans (hb.mono HB1.out.size))
          clear hb HB1
          go_wp2_with fail
          refine (h2 _).mono ?_
          rintro e w3 ⟨rfl, hb⟩
          have HB3 := Aside0.mk (HB2.out.trans (hb.mono HB2.out.size))
          clear hb HB2
          go_wp2_with fail
          go_roundg n
          case measure => omega
          case rel => exact ⟨b, rfl, HP, HB3⟩
        | false =>
          rw [if_neg (by simp)] at hp
          subst hp
          clear hl hz hle hlt
          go_wp2_with fail
          refine (h1 _).mono ?_
          rintro e w2 ⟨rfl, hb⟩
          have HB2 := Aside0.mk (HB1.out.trans (hb.mono HB1.out.size))
          clear hb HB1
          go_wp2_with fail
          refine (h2 _).mono ?_
          rintro e w3 ⟨rfl, hb⟩
          have HB3 := Aside0.mk (HB2.out.trans (hb.mono HB2.out.size))
          clear hb HB2
          go_wp2_with fail
          go_ret2
          exact ⟨rfl, HB3.out⟩
end Go.Proofs.Ytfoflodgegehfaa.M
set_option linter.unusedVariables false
set_option linter.unusedSimpArgs false
namespace Go.Proofs.Ytfoflodgegehfaa.B64
open Go.RowKit Go.Proofs.YtfoflodgegehfaaW.PrintWords Go.Proofs.YtfoflodgegehfaaW.PrintLast Go.Proofs.YtfoflodgegehfaaW.PrintMore
attribute [local go_sem] max2_int min2_int max_two min_two max_three min_three max_four min_four
def b64_value.f (a0 : Int) : Option (Int) := if ((a0 - 65) % 256) < 26 then (some ((a0 - 65) % 256)) else (if ((a0 - 97) % 256) < 26 then (some (((a0 - 97) % 256) + 26)) else (if ((a0 - 48) % 256) < 10 then (some (((a0 - 48) % 256) + 52)) else (if a0 = 45 then (some 62) else (if a0 = 95 then (some 63) else (some 64)))))
set_option maxHeartbeats 8000000 in
set_option maxRecDepth 100000 in
theorem b64_value.calls (a0 : Int) (r : Int) (w : World) (h : b64_value.f a0 = some r) :
    Calls Try.prog 52 #[.int .u8 a0] w fun e w' => e = .returned (.int .u64 r) ∧ Drawn0 w w' := by
  have H : (if ((a0 - 65) % 256) < 26 then (some ((a0 - 65) % 256)) else (if ((a0 - 97) % 256) < 26 then (some (((a0 - 97) % 256) + 26)) else (if ((a0 - 48) % 256) < 10 then (some (((a0 - 48) % 256) + 52)) else (if a0 = 45 then (some 62) else (if a0 = 95 then (some 63) else (some 64)))))) = some r := h
  clear h
  by_cases c2 : ((a0 - 65) % 256) < 26
  · rw [if_pos c2] at H
    have c2b0 : decide (((a0 - 65) % 256) < 26) = true := decide_eq_true c2
    clear c2
    obtain rfl := Option.some.inj H
    go_enter Try.func52, Try.ntmps52
    go_wp2
    go_ret
    exact ⟨by first | rfl | (simp; done) | (simp [*]; done), by repeat (first | exact Drawn0.refl _ | apply Drawn0.step)⟩
  · rw [if_neg c2] at H
    have c2b0 : decide (((a0 - 65) % 256) < 26) = false := decide_eq_false c2
    clear c2
    by_cases c3 : ((a0 - 97) % 256) < 26
    · rw [if_pos c3] at H
      have c3b0 : decide (((a0 - 97) % 256) < 26) = true := decide_eq_true c3
      clear c3
      obtain rfl := Option.some.inj H
      go_enter Try.func52, Try.ntmps52
      go_wp2
      go_ret
      exact ⟨by first | rfl | (simp; done) | (simp [*]; done), by repeat (first | exact Drawn0.refl _ | apply Drawn0.step)⟩
    · rw [if_neg c3] at H
      have c3b0 : decide (((a0 - 97) % 256) < 26) = false := decide_eq_false c3
      clear c3
      by_cases c4 : ((a0 - 48) % 256) < 10
      · rw [if_pos c4] at H
        have c4b0 : decide (((a0 - 48) % 256) < 10) = true := decide_eq_true c4
        clear c4
        obtain rfl := Option.some.inj H
        go_enter Try.func52, Try.ntmps52
        go_wp2
        go_ret
        exact ⟨by first | rfl | (simp; done) | (simp [*]; done), by repeat (first | exact Drawn0.refl _ | apply Drawn0.step)⟩
      · rw [if_neg c4] at H
        have c4b0 : decide (((a0 - 48) % 256) < 10) = false := decide_eq_false c4
        clear c4
        by_cases c5 : a0 = 45
        · rw [if_pos c5] at H
          have c5b0 : (a0 == 45) = true := beq_iff_eq.mpr c5
          have c5b1 : (a0 != 45) = false := bne_eq_false_iff_eq.mpr c5
          clear c5
          obtain rfl := Option.some.inj H
          go_enter Try.func52, Try.ntmps52
          go_wp2
          go_ret
          exact ⟨by first | rfl | (simp; done) | (simp [*]; done), by repeat (first | exact Drawn0.refl _ | apply Drawn0.step)⟩
        · rw [if_neg c5] at H
          have c5b0 : (a0 == 45) = false := beq_eq_false_iff_ne.mpr c5
          have c5b1 : (a0 != 45) = true := bne_iff_ne.mpr c5
          by_cases c6 : a0 = 95
          · rw [if_pos c6] at H
            have c6b0 : (a0 == 95) = true := beq_iff_eq.mpr c6
            have c6b1 : (a0 != 95) = false := bne_eq_false_iff_eq.mpr c6
            clear c6
            obtain rfl := Option.some.inj H
            go_enter Try.func52, Try.ntmps52
            go_wp2
            go_ret
            exact ⟨by first | rfl | (simp; done) | (simp [*]; done), by repeat (first | exact Drawn0.refl _ | apply Drawn0.step)⟩
          · rw [if_neg c6] at H
            have c6b0 : (a0 == 95) = false := beq_eq_false_iff_ne.mpr c6
            have c6b1 : (a0 != 95) = true := bne_iff_ne.mpr c6
            obtain rfl := Option.some.inj H
            go_enter Try.func52, Try.ntmps52
            go_wp2
            go_ret
            exact ⟨by first | rfl | (simp; done) | (simp [*]; done), by repeat (first | exact Drawn0.refl _ | apply Drawn0.step)⟩
theorem b64h_infoD : (Try.prog.info? 5).map (fun i => (i.zero, i.size, i.bytes)) = some (some (.int .u8 0), 1, 1) := by kernel_rfl
def b64h_val (c : Int) : Int := if (c - 65) % 256 < 26 then (c - 65) % 256 else if (c - 97) % 256 < 26 then (c - 97) % 256 + 26 else if (c - 48) % 256 < 10 then (c - 48) % 256 + 52 else if c = 45 then 62 else if c = 95 then 63 else 64
theorem b64h_val_eq (c : Int) : b64_value.f c = some (b64h_val c) := by
  unfold b64_value.f b64h_val
  split
  · rfl
  · split
    · rfl
    · split
      · rfl
      · split
        · rfl
        · split <;> rfl
theorem b64h_val_range (c : Int) : 0 ≤ b64h_val c ∧ b64h_val c ≤ 64 := by
  unfold b64h_val
  split
  · omega
  · split
    · omega
    · split
      · omega
      · split
        · omega
        · split <;> omega
def b64h_decGo : List Int → Int → Int → Option (List Int)
  | [], b, h => if 6 ≤ h ∨ b ≠ 0 then none else some []
  | c :: t, b, h =>
    if b64h_val c = 64 then none
    else if h = 0 then b64h_decGo t (b * 64 + b64h_val c) 6
    else if h = 6 then (b64h_decGo t ((b * 64 + b64h_val c) % 16) 4).map ((b * 64 + b64h_val c) / 16 :: ·)
    else if h = 4 then (b64h_decGo t ((b * 64 + b64h_val c) % 4) 2).map ((b * 64 + b64h_val c) / 4 :: ·)
    else (b64h_decGo t 0 0).map ((b * 64 + b64h_val c) :: ·)
def b64h_decOk (b h : Int) : Prop := (h = 0 ∧ 0 ≤ b ∧ b < 1) ∨ (h = 2 ∧ 0 ≤ b ∧ b < 4) ∨ (h = 4 ∧ 0 ≤ b ∧ b < 16) ∨ (h = 6 ∧ 0 ≤ b ∧ b < 64)
def b64h_decE (l : Option (List Int)) : Ending := match l with
  | none => .returned (.tuple #[.string ⟨#[]⟩, .bool false])
  | some l => .returned (.tuple #[.string (strOfNums l), .bool true])
theorem b64h_dec_round (s : ByteArray) (j : Nat) (c b h : Int) {A : Option (List Int)} {out new : List Int} {R : Option (List Int)} (hc : bt s (j : Int) = c) (hj : j < s.size) (he : A = (b64h_decGo ((bytesOf s).drop j) b h).map (out ++ ·)) (hs : b64h_decGo (c :: (bytesOf s).drop (j + 1)) b h = R.map (new ++ ·)) : A = R.map ((out ++ new) ++ ·) := by
  have hl : j < (bytesOf s).length := by rw [bytesOf_length]; exact hj
  have hr := rd_bytesOf s (j : Int)
  rw [hc] at hr
  unfold rd at hr
  rw [List.getD_eq_getElem?_getD, Int.toNat_natCast, List.getElem?_eq_getElem hl, Option.getD_some] at hr
  rw [he, List.drop_eq_getElem_cons hl, hr, hs]
  cases R with
  | none => rfl
  | some l => simp
theorem b64h_dec_fails (s : ByteArray) (j : Nat) (c b h : Int) {A : Option (List Int)} {out : List Int} (hc : bt s (j : Int) = c) (hj : j < s.size) (he : A = (b64h_decGo ((bytesOf s).drop j) b h).map (out ++ ·)) (hv : b64h_val c = 64) : A = none := by
  have hl : j < (bytesOf s).length := by rw [bytesOf_length]; exact hj
  have hr := rd_bytesOf s (j : Int)
  rw [hc] at hr
  unfold rd at hr
  rw [List.getD_eq_getElem?_getD, Int.toNat_natCast, List.getElem?_eq_getElem hl, Option.getD_some] at hr
  rw [he, List.drop_eq_getElem_cons hl, hr]
  simp [b64h_decGo, hv]
theorem b64h_value_at {c v : Int} (H : Hid (b64h_val c = v)) (w : World) : Calls Try.prog 52 #[.int .u8 c] w fun e w' => e = .returned (.int .u64 v) ∧ Drawn0 w w' :=
  b64_value.calls c v w (by rw [b64h_val_eq, H.out])
set_option maxHeartbeats 2000000 in
theorem b64h_decode_calls (s : ByteArray) (w : World) (hs : s.size ≤ 100000) :
    Calls Try.prog 36 #[.string s] w fun e w' => e = b64h_decE (b64h_decGo (bytesOf s) 0 0) ∧ Below w.heap.size w w' := by
  have HB := Aside0.mk (Below.refl w.heap.size w)
  have kb := fun W => print_bytes (P := Try.prog) 9 48 5 Try.underlying9 Try.underlying48 Try.underlying5 s W
  have hq : (s.size : Int) / 4 * 3 + 3 ≤ 133338 := by omega
  have hq0 : 0 ≤ (s.size : Int) / 4 * 3 + 3 := by omega
  have hq1 : ((s.size : Int) / 4 * 3 + 3).toNat * 1 ≤ 281474976710656 := by omega
  go_enter Try.func36, Try.ntmps36
  go_wp2_with (first | ((with_reducible refine gate_dst (N := 15) rfl ?_); refine Kd.R_make0 (Kd.int .u8) _ 5 rfl (N := 15) rfl 48 _ _ rfl _ rfl rfl Try.underlying48 (.int .u8 0) 1 b64h_infoD (by omega) (ok := fun k => True) trivial ?c2 ?c3 (Below.refl _ _) (Nat.le_refl _) ?_; (case c2 => exact hq0); (case c3 => exact hq1); intro v1 w1 ho hb hg hat; clear HB; have HB := Aside0.mk hb; have HO := Aside0.mk ho; clear ho hb hg hat))
  have hbb := bytes_below HB.out HB.out.size 5 s
  have hoo : Kd.R (Kd.int .u8) 5 (Lib.bytesWorld w1 5 s) w.heap.size (fun k => k ≠ w1.heap.size) v1 [] :=
    Kd.R_below (Kd.R_mono (Kd.R_bound HO.out) (fun k hk => Nat.ne_of_lt hk.2.2.1)) (bytes_below (Below.refl _ _) (Nat.le_refl _) 5 s)
  have hcells := mine_bytes_cells w1 5 s
  have hsz : w1.heap.size < (Lib.bytesWorld w1 5 s).heap.size := by rw [Lib.bytesWorld_size]; omega
  clear HB HO kb
  generalize hC : grownCap w1 s.size 0 5 = C
  generalize hW : Lib.bytesWorld w1 5 s = wB at *
  generalize hG : w1.heap.size = G at *
  have HB := Aside0.mk hbb
  have HO := Aside0.mk hoo
  have HE := Aside0.mk hcells
  have HS := Aside0.mk hsz
  clear hC hW hG hbb hoo hcells hsz hq hq0 hq1
  go_loopg [4, 5, 6, 19] (s.size) (fun kq v4 v5 v6 v19 w' => ∃ (j : Nat) (b h : Int) (out : List Int), v5 = .int .u64 b ∧ v6 = .int .u64 h ∧ v19 = .int .i64 j ∧ Aside0 (kq + j = s.size) ∧
    Aside0 (b64h_decOk b h) ∧ Aside0 (b64h_decGo (bytesOf s) 0 0 = (b64h_decGo ((bytesOf s).drop j) b h).map (out ++ ·)) ∧ Aside0 (out.length ≤ j) ∧ Aside0 (Kd.R (Kd.int .u8) 5 w' w.heap.size (fun k => k ≠ G) v4 out) ∧
    Aside0 (w'.heap[G]? = wB.heap[G]?) ∧ Aside0 (G < w'.heap.size) ∧ Aside0 (Below w.heap.size w w'))
  case atStart => exact ⟨0, 0, 0, [], rfl, rfl, rfl, ⟨by omega⟩, ⟨by unfold b64h_decOk; omega⟩, ⟨by simp⟩, ⟨by simp⟩, HO, ⟨rfl⟩, HS, HB⟩
  case round =>
    clear HO HS HB
    obtain ⟨j, b, h, out, rfl, rfl, rfl, HK, HOk, HEq, HLen, HO, HBk, HS, HB⟩ := hrel
    by_cases hj : j < s.size
    · have hx := (World.cell?_of_block (w := wB) (a := ⟨G, j, none⟩) HBk.out).trans (HE.out j hj)
      obtain ⟨c, hc⟩ : ∃ c, bt s (j : Int) = c := ⟨_, rfl⟩
      rw [hc] at hx
      have HC := Lib.hid hc
      clear hc
      obtain ⟨v, hv⟩ : ∃ v, b64h_val c = v := ⟨_, rfl⟩
      obtain ⟨x0, x1⟩ := b64h_val_range c
      rw [hv] at x0 x1
      have HV := Lib.hid hv
      clear hv
      by_cases h64 : v = 64
      · subst h64
        have HF := Lib.hid (b64h_dec_fails s j c b h HC.out hj HEq.out HV.out)
        go_wp2_with (go_at_call 52; refine (b64h_value_at HV _).mono ?_; rintro e w' ⟨rfl, ⟨n, rfl⟩⟩)
        go_ret2
        exact ⟨by rw [HF.out]; first | rfl | (simp [b64h_decE]; done), mine_below_more HB.out⟩
      · have h64b : (v == 64) = false := by simp [h64]
        have x2 : v < 64 := by omega
        rcases HOk.out with ⟨hh, hb0, hb1⟩ | ⟨hh, hb0, hb1⟩ | ⟨hh, hb0, hb1⟩ | ⟨hh, hb0, hb1⟩
        · subst hh
          have HB0 := HB
          have hor := mine_or_six b v hb0 (by omega) x0 x2
          obtain ⟨q, hq⟩ : ∃ q, b * 64 + v = q := ⟨_, rfl⟩
          rw [hq] at hor
          have q0 : 0 ≤ q := by omega
          have q1 : q < 64 := by omega
          have HQ := Lib.hid hq
          clear hq
          have HN := Lib.hid h64
          clear h64
          have HStep := Lib.hid (show b64h_decGo (c :: (bytesOf s).drop (j + 1)) b 0 = (b64h_decGo ((bytesOf s).drop (j + 1)) (q) 6).map ([] ++ ·) by rw [← HQ.out, ← HV.out]; simp [b64h_decGo, HV.out, HN.out])
          have hrm := mine_and_mask 6 63 rfl q (by omega) (by omega)
          have hrm' : q % 2 ^ 6 = q := by omega
          rw [hrm'] at hrm
          clear hrm'
          go_wp2_with (go_at_call 52; refine (b64h_value_at HV _).mono ?_; rintro e w' ⟨rfl, ⟨n, rfl⟩⟩)
          obtain ⟨g, rfl⟩ : ∃ m, gk = m + 1 := ⟨gk - 1, by have := HK.out; omega⟩
          go_roundg g
          case measure => omega
          case rel => exact ⟨j + 1, q, 6, out, by first | rfl | (simp; done), by first | rfl | (simp; done), by first | rfl | (simp; done), ⟨by have := HK.out; omega⟩, ⟨by unfold b64h_decOk; omega⟩, ⟨by have e := b64h_dec_round s j c b 0 (new := []) HC.out hj HEq.out HStep.out; simpa using e⟩, ⟨by have := HLen.out; (try simp only [List.length_append, List.length_cons, List.length_nil]); omega⟩, ⟨Kd.R_drewN HO.out _⟩, ⟨HBk.out⟩, ⟨HS.out⟩, ⟨mine_below_more HB.out⟩⟩
        · subst hh
          have HB0 := HB
          have hor := mine_or_six b v hb0 (by omega) x0 x2
          obtain ⟨q, hq⟩ : ∃ q, b * 64 + v = q := ⟨_, rfl⟩
          rw [hq] at hor
          have q0 : 0 ≤ q := by omega
          have q1 : q < 256 := by omega
          have HQ := Lib.hid hq
          clear hq
          have HN := Lib.hid h64
          clear h64
          have HStep := Lib.hid (show b64h_decGo (c :: (bytesOf s).drop (j + 1)) b 2 = (b64h_decGo ((bytesOf s).drop (j + 1)) (0) 0).map ([q] ++ ·) by rw [← HQ.out, ← HV.out]; simp [b64h_decGo, HV.out, HN.out])
          have d0 : 0 ≤ q := by omega
          have d1 : q < 256 := by omega
          have hrm := mine_and_mask 0 0 rfl q (by omega) (by omega)
          go_wp2_with (first | (go_at_call 52; refine (b64h_value_at HV _).mono ?_; rintro e w' ⟨rfl, ⟨n, rfl⟩⟩) | ((with_reducible refine gate_builtin (b := .append) (xs := #[.tmp 37, .tmp 42]) rfl ?_); at_builtin; refine Kd.R_append (Kd.int .u8) (w0 := w) w.heap.size rfl (.tmp 37) (.tmp 42) 48 5 (.int .u8 0) 1 rfl Try.underlying48 b64h_infoD rfl (by decide) (by omega) u4 out (q) [.int .u8 (q)] (fun k => k ≠ G) (fun _ => False) rfl rfl ?aP (fun _ hk => hk.elim) ?aF ?aO ?aB ?aS ?aL ?_; (case aP => exact rfl); (case aB => exact mine_below_more HB.out); (case aF => exact mine_fresh_ne HS.out); (case aO => exact Kd.R_drewN HO.out _); (case aS => exact below_size (mine_below_more HB.out)); (case aL => have := HLen.out; omega); intro va1 wa1 ho1 hb1 hg1 hat1; obtain ⟨hbk1, hs1⟩ := mine_grow_apart (w1 := wr.drewN n) (w2 := wa1) (wB := wB) (G := G) HO.out.1 HBk.out HS.out hg1; have HO1 := Aside0.mk ho1; have HB1 := Aside0.mk hb1; have HBk1 : Aside0 (wa1.heap[G]? = wB.heap[G]?) := Aside0.mk hbk1; have HS1 : Aside0 (G < wa1.heap.size) := Aside0.mk hs1; clear ho1 hb1 hg1 hat1 hbk1 hs1))
          obtain ⟨g, rfl⟩ : ∃ m, gk = m + 1 := ⟨gk - 1, by have := HK.out; omega⟩
          go_roundg g
          case measure => omega
          case rel => exact ⟨j + 1, 0, 0, out ++ [q], by first | rfl | (simp; done), by first | rfl | (simp; done), by first | rfl | (simp; done), ⟨by have := HK.out; omega⟩, ⟨by unfold b64h_decOk; omega⟩, ⟨by have e := b64h_dec_round s j c b 2 (new := [q]) HC.out hj HEq.out HStep.out; simpa using e⟩, ⟨by have := HLen.out; (try simp only [List.length_append, List.length_cons, List.length_nil]); omega⟩, HO1, HBk1, HS1, HB1⟩
        · subst hh
          have HB0 := HB
          have hor := mine_or_six b v hb0 (by omega) x0 x2
          obtain ⟨q, hq⟩ : ∃ q, b * 64 + v = q := ⟨_, rfl⟩
          rw [hq] at hor
          have q0 : 0 ≤ q := by omega
          have q1 : q < 1024 := by omega
          have HQ := Lib.hid hq
          clear hq
          have HN := Lib.hid h64
          clear h64
          have HStep := Lib.hid (show b64h_decGo (c :: (bytesOf s).drop (j + 1)) b 4 = (b64h_decGo ((bytesOf s).drop (j + 1)) (q % 4) 2).map ([q / 4] ++ ·) by rw [← HQ.out, ← HV.out]; simp [b64h_decGo, HV.out, HN.out])
          have d0 : 0 ≤ q / 4 := by omega
          have d1 : q / 4 < 256 := by omega
          have hrm := mine_and_mask 2 3 rfl q (by omega) (by omega)
          go_wp2_with (first | (go_at_call 52; refine (b64h_value_at HV _).mono ?_; rintro e w' ⟨rfl, ⟨n, rfl⟩⟩) | ((with_reducible refine gate_builtin (b := .append) (xs := #[.tmp 37, .tmp 42]) rfl ?_); at_builtin; refine Kd.R_append (Kd.int .u8) (w0 := w) w.heap.size rfl (.tmp 37) (.tmp 42) 48 5 (.int .u8 0) 1 rfl Try.underlying48 b64h_infoD rfl (by decide) (by omega) u4 out (q / 4) [.int .u8 (q / 4)] (fun k => k ≠ G) (fun _ => False) rfl rfl ?aP (fun _ hk => hk.elim) ?aF ?aO ?aB ?aS ?aL ?_; (case aP => exact rfl); (case aB => exact mine_below_more HB.out); (case aF => exact mine_fresh_ne HS.out); (case aO => exact Kd.R_drewN HO.out _); (case aS => exact below_size (mine_below_more HB.out)); (case aL => have := HLen.out; omega); intro va1 wa1 ho1 hb1 hg1 hat1; obtain ⟨hbk1, hs1⟩ := mine_grow_apart (w1 := wr.drewN n) (w2 := wa1) (wB := wB) (G := G) HO.out.1 HBk.out HS.out hg1; have HO1 := Aside0.mk ho1; have HB1 := Aside0.mk hb1; have HBk1 : Aside0 (wa1.heap[G]? = wB.heap[G]?) := Aside0.mk hbk1; have HS1 : Aside0 (G < wa1.heap.size) := Aside0.mk hs1; clear ho1 hb1 hg1 hat1 hbk1 hs1))
          obtain ⟨g, rfl⟩ : ∃ m, gk = m + 1 := ⟨gk - 1, by have := HK.out; omega⟩
          go_roundg g
          case measure => omega
          case rel => exact ⟨j + 1, q % 4, 2, out ++ [q / 4], by first | rfl | (simp; done), by first | rfl | (simp; done), by first | rfl | (simp; done), ⟨by have := HK.out; omega⟩, ⟨by unfold b64h_decOk; omega⟩, ⟨by have e := b64h_dec_round s j c b 4 (new := [q / 4]) HC.out hj HEq.out HStep.out; simpa using e⟩, ⟨by have := HLen.out; (try simp only [List.length_append, List.length_cons, List.length_nil]); omega⟩, HO1, HBk1, HS1, HB1⟩
        · subst hh
          have HB0 := HB
          have hor := mine_or_six b v hb0 (by omega) x0 x2
          obtain ⟨q, hq⟩ : ∃ q, b * 64 + v = q := ⟨_, rfl⟩
          rw [hq] at hor
          have q0 : 0 ≤ q := by omega
          have q1 : q < 4096 := by omega
          have HQ := Lib.hid hq
          clear hq
          have HN := Lib.hid h64
          clear h64
          have HStep := Lib.hid (show b64h_decGo (c :: (bytesOf s).drop (j + 1)) b 6 = (b64h_decGo ((bytesOf s).drop (j + 1)) (q % 16) 4).map ([q / 16] ++ ·) by rw [← HQ.out, ← HV.out]; simp [b64h_decGo, HV.out, HN.out])
          have d0 : 0 ≤ q / 16 := by omega
          have d1 : q / 16 < 256 := by omega
          have hrm := mine_and_mask 4 15 rfl q (by omega) (by omega)
          go_wp2_with (first | (go_at_call 52; refine (b64h_value_at HV _).mono ?_; rintro e w' ⟨rfl, ⟨n, rfl⟩⟩) | ((with_reducible refine gate_builtin (b := .append) (xs := #[.tmp 37, .tmp 42]) rfl ?_); at_builtin; refine Kd.R_append (Kd.int .u8) (w0 := w) w.heap.size rfl (.tmp 37) (.tmp 42) 48 5 (.int .u8 0) 1 rfl Try.underlying48 b64h_infoD rfl (by decide) (by omega) u4 out (q / 16) [.int .u8 (q / 16)] (fun k => k ≠ G) (fun _ => False) rfl rfl ?aP (fun _ hk => hk.elim) ?aF ?aO ?aB ?aS ?aL ?_; (case aP => exact rfl); (case aB => exact mine_below_more HB.out); (case aF => exact mine_fresh_ne HS.out); (case aO => exact Kd.R_drewN HO.out _); (case aS => exact below_size (mine_below_more HB.out)); (case aL => have := HLen.out; omega); intro va1 wa1 ho1 hb1 hg1 hat1; obtain ⟨hbk1, hs1⟩ := mine_grow_apart (w1 := wr.drewN n) (w2 := wa1) (wB := wB) (G := G) HO.out.1 HBk.out HS.out hg1; have HO1 := Aside0.mk ho1; have HB1 := Aside0.mk hb1; have HBk1 : Aside0 (wa1.heap[G]? = wB.heap[G]?) := Aside0.mk hbk1; have HS1 : Aside0 (G < wa1.heap.size) := Aside0.mk hs1; clear ho1 hb1 hg1 hat1 hbk1 hs1))
          obtain ⟨g, rfl⟩ : ∃ m, gk = m + 1 := ⟨gk - 1, by have := HK.out; omega⟩
          go_roundg g
          case measure => omega
          case rel => exact ⟨j + 1, q % 16, 4, out ++ [q / 16], by first | rfl | (simp; done), by first | rfl | (simp; done), by first | rfl | (simp; done), ⟨by have := HK.out; omega⟩, ⟨by unfold b64h_decOk; omega⟩, ⟨by have e := b64h_dec_round s j c b 6 (new := [q / 16]) HC.out hj HEq.out HStep.out; simpa using e⟩, ⟨by have := HLen.out; (try simp only [List.length_append, List.length_cons, List.length_nil]); omega⟩, HO1, HBk1, HS1, HB1⟩
    · have hjn : j = s.size := by have := HK.out; omega
      subst hjn
      have HE' := Lib.hid (show b64h_decGo (bytesOf s) 0 0 = (b64h_decGo [] b h).map (out ++ ·) by rw [HEq.out, List.drop_of_length_le (by rw [bytesOf_length]; exact Nat.le_refl _)])
      clear HEq
      have hcv := own_string (P := Try.prog) Try.underlying48 Try.underlying5 Try.underlying9 (Kd.own_of_R HO.out)
      rcases HOk.out with ⟨hh, hb0, hb1⟩ | ⟨hh, hb0, hb1⟩ | ⟨hh, hb0, hb1⟩ | ⟨hh, hb0, hb1⟩
      · subst hh
        by_cases hz : b = 0
        · subst hz
          have HF := Lib.hid (show b64h_decGo (bytesOf s) 0 0 = some out by rw [HE'.out]; simp [b64h_decGo])
          go_wp2_with fail
          go_ret2
          exact ⟨by rw [HF.out]; first | rfl | (simp [b64h_decE]; done), HB.out⟩
        · have HF := Lib.hid (show b64h_decGo (bytesOf s) 0 0 = none by rw [HE'.out]; simp [b64h_decGo, hz])
          have hzb : (b != 0) = true := by simp [hz]
          clear hz
          go_wp2_with fail
          go_ret2
          exact ⟨by rw [HF.out]; first | rfl | (simp [b64h_decE]; done), HB.out⟩
      · subst hh
        by_cases hz : b = 0
        · subst hz
          have HF := Lib.hid (show b64h_decGo (bytesOf s) 0 0 = some out by rw [HE'.out]; simp [b64h_decGo])
          go_wp2_with fail
          go_ret2
          exact ⟨by rw [HF.out]; first | rfl | (simp [b64h_decE]; done), HB.out⟩
        · have HF := Lib.hid (show b64h_decGo (bytesOf s) 0 0 = none by rw [HE'.out]; simp [b64h_decGo, hz])
          have hzb : (b != 0) = true := by simp [hz]
          clear hz
          go_wp2_with fail
          go_ret2
          exact ⟨by rw [HF.out]; first | rfl | (simp [b64h_decE]; done), HB.out⟩
      · subst hh
        by_cases hz : b = 0
        · subst hz
          have HF := Lib.hid (show b64h_decGo (bytesOf s) 0 0 = some out by rw [HE'.out]; simp [b64h_decGo])
          go_wp2_with fail
          go_ret2
          exact ⟨by rw [HF.out]; first | rfl | (simp [b64h_decE]; done), HB.out⟩
        · have HF := Lib.hid (show b64h_decGo (bytesOf s) 0 0 = none by rw [HE'.out]; simp [b64h_decGo, hz])
          have hzb : (b != 0) = true := by simp [hz]
          clear hz
          go_wp2_with fail
          go_ret2
          exact ⟨by rw [HF.out]; first | rfl | (simp [b64h_decE]; done), HB.out⟩
      · subst hh
        have HF := Lib.hid (show b64h_decGo (bytesOf s) 0 0 = none by rw [HE'.out]; simp [b64h_decGo])
        go_wp2_with fail
        go_ret2
        exact ⟨by rw [HF.out]; first | rfl | (simp [b64h_decE]; done), HB.out⟩
def b64_Decode.f (a0 : ByteArray) : Option (ByteArray × Bool) := if a0.size ≤ 100000 then some (match b64h_decGo (bytesOf a0) 0 0 with
  | none => ((⟨#[]⟩ : ByteArray), false)
  | some l => (strOfNums l, true)) else none
theorem b64_Decode.calls (a0 : ByteArray) (r1 : ByteArray) (r2 : Bool) (w : World) (h : b64_Decode.f a0 = some (r1, r2)) :
    Calls Try.prog 36 #[.string a0] w fun e w' => e = .returned (.tuple #[.string r1, .bool r2]) ∧ Below w.heap.size w w' := by
  unfold b64_Decode.f at h
  by_cases hs : a0.size ≤ 100000
  · rw [if_pos hs] at h
    have h := Option.some.inj h
    have hc := b64h_decode_calls a0 w hs
    unfold b64h_decE at hc
    cases hd : b64h_decGo (bytesOf a0) 0 0 with
    | none =>
      rw [hd] at h hc
      obtain ⟨rfl, rfl⟩ := Prod.mk.inj h
      exact hc
    | some l =>
      rw [hd] at h hc
      obtain ⟨rfl, rfl⟩ := Prod.mk.inj h
      exact hc
  · rw [if_neg hs] at h
    exact absurd h (by simp)
theorem b64h_info : (Try.prog.info? 5).map (fun i => (i.zero, i.size, i.bytes)) = some (some (.int .u8 0), 1, 1) := by kernel_rfl
def b64h_signs : ByteArray := ⟨#[65, 66, 67, 68, 69, 70, 71, 72, 73, 74, 75, 76, 77, 78, 79, 80, 81, 82, 83, 84, 85, 86, 87, 88, 89, 90, 97, 98, 99, 100, 101, 102, 103, 104, 105, 106, 107, 108, 109, 110, 111, 112, 113, 114, 115, 116, 117, 118, 119, 120, 121, 122, 48, 49, 50, 51, 52, 53, 54, 55, 56, 57, 45, 95]⟩
def b64h_sgn (n : Int) : Int := bt b64h_signs n
def b64h_encGo : List Int → Int → Int → List Int
  | [], b, h => if 0 < h then [b64h_sgn (b * 2 ^ (6 - h).toNat % 64)] else []
  | c :: t, b, h =>
    if h = 0 then b64h_sgn ((b * 256 + c) / 4 % 64) :: b64h_encGo t ((b * 256 + c) % 4) 2
    else if h = 2 then b64h_sgn ((b * 256 + c) / 16 % 64) :: b64h_encGo t ((b * 256 + c) % 16) 4
    else b64h_sgn ((b * 256 + c) / 64 % 64) :: b64h_sgn ((b * 256 + c) % 64) :: b64h_encGo t 0 0
def b64h_encOk (b h : Int) : Prop := (h = 0 ∧ 0 ≤ b ∧ b < 1) ∨ (h = 2 ∧ 0 ≤ b ∧ b < 4) ∨ (h = 4 ∧ 0 ≤ b ∧ b < 16)
theorem b64h_enc_round (s : ByteArray) (j : Nat) (c b h : Int) {A out new R : List Int} (hc : bt s (j : Int) = c) (hj : j < s.size) (he : A = out ++ b64h_encGo ((bytesOf s).drop j) b h) (hs : b64h_encGo (c :: (bytesOf s).drop (j + 1)) b h = new ++ R) : A = (out ++ new) ++ R := by
  have hl : j < (bytesOf s).length := by rw [bytesOf_length]; exact hj
  have hr := rd_bytesOf s (j : Int)
  rw [hc] at hr
  unfold rd at hr
  rw [List.getD_eq_getElem?_getD, Int.toNat_natCast, List.getElem?_eq_getElem hl, Option.getD_some] at hr
  rw [he, List.drop_eq_getElem_cons hl, hr, hs, List.append_assoc]
set_option maxHeartbeats 2000000 in
theorem b64h_encode_calls (s : ByteArray) (w : World) (hs : s.size ≤ 100000) :
    Calls Try.prog 22 #[.string s] w fun e w' => e = .returned (.string (strOfNums (b64h_encGo (bytesOf s) 0 0))) ∧ Below w.heap.size w w' := by
  have HB := Aside0.mk (Below.refl w.heap.size w)
  have kb := fun W => print_bytes (P := Try.prog) 9 48 5 Try.underlying9 Try.underlying48 Try.underlying5 s W
  have hq : (s.size : Int) / 3 * 4 + 4 ≤ 133338 := by omega
  have hq0 : 0 ≤ (s.size : Int) / 3 * 4 + 4 := by omega
  have hq1 : ((s.size : Int) / 3 * 4 + 4).toNat * 1 ≤ 281474976710656 := by omega
  go_enter Try.func22, Try.ntmps22
  go_wp2_with (((with_reducible refine gate_dst (N := 13) rfl ?_)); (refine Kd.R_make0 (Kd.int .u8) _ 5 rfl (N := 13) rfl 48 _ _ rfl _ rfl rfl Try.underlying48 (.int .u8 0) 1 b64h_info (by omega) (ok := fun k => True) trivial ?c2 ?c3 (Below.refl _ _) (Nat.le_refl _) ?_; (case c2 => exact hq0); (case c3 => exact hq1); intro v1 w1 ho hb hg hat; clear HB; have HB := Aside0.mk hb; have HO := Aside0.mk ho; clear ho hb hg hat))
  have hbb := bytes_below HB.out HB.out.size 5 s
  have hoo : Kd.R (Kd.int .u8) 5 (Lib.bytesWorld w1 5 s) w.heap.size (fun k => k ≠ w1.heap.size) v1 [] :=
    Kd.R_below (Kd.R_mono (Kd.R_bound HO.out) (fun k hk => Nat.ne_of_lt hk.2.2.1)) (bytes_below (Below.refl _ _) (Nat.le_refl _) 5 s)
  have hcells : ∀ j : Nat, j < s.size → (Lib.bytesWorld w1 5 s).cell? ⟨w1.heap.size, j, none⟩ = some (.int .u8 (bt s j)) := by
    intro j hj
    rw [Lib.bytesWorld_cell w1 5 s j hj]
    congr 2
    unfold bt
    rw [dif_pos (show ((j : Int)).toNat < s.size by simpa using hj), List.getD_eq_getElem?_getD, List.getElem?_eq_getElem (by rw [data_length]; exact hj)]
    simp
    rfl
  have hsz : w1.heap.size < (Lib.bytesWorld w1 5 s).heap.size := by rw [Lib.bytesWorld_size]; omega
  clear HB HO kb
  generalize hC : grownCap w1 s.size 0 5 = C
  generalize hW : Lib.bytesWorld w1 5 s = wB at *
  generalize hG : w1.heap.size = G at *
  have HB := Aside0.mk hbb
  have HO := Aside0.mk hoo
  have HE := Aside0.mk hcells
  have HS := Aside0.mk hsz
  clear hC hW hG hbb hoo hcells hsz hq hq0 hq1
  go_loopg [3, 4, 5, 17] (s.size) (fun kq v3 v4 v5 v17 w' => ∃ (j : Nat) (b h : Int) (out : List Int), v4 = .int .u64 b ∧ v5 = .int .u64 h ∧ v17 = .int .i64 j ∧ Aside0 (kq + j = s.size) ∧
    Aside0 (b64h_encOk b h) ∧ Aside0 (b64h_encGo (bytesOf s) 0 0 = out ++ b64h_encGo ((bytesOf s).drop j) b h) ∧ Aside0 (out.length ≤ 2 * j) ∧ Aside0 (Kd.R (Kd.int .u8) 5 w' w.heap.size (fun k => k ≠ G) v3 out) ∧
    Aside0 (w'.heap[G]? = wB.heap[G]?) ∧ Aside0 (G < w'.heap.size) ∧ Aside0 (Below w.heap.size w w'))
  case atStart => exact ⟨0, 0, 0, [], rfl, rfl, rfl, ⟨by omega⟩, ⟨by unfold b64h_encOk; omega⟩, ⟨by simp⟩, ⟨by simp⟩, HO, ⟨rfl⟩, HS, HB⟩
  case round =>
    clear HO HS HB
    obtain ⟨j, b, h, out, rfl, rfl, rfl, HK, HOk, HEq, HLen, HO, HBk, HS, HB⟩ := hrel
    by_cases hj : j < s.size
    · have hx := (World.cell?_of_block (w := wB) (a := ⟨G, j, none⟩) HBk.out).trans (HE.out j hj)
      obtain ⟨c, hc⟩ : ∃ c, bt s (j : Int) = c := ⟨_, rfl⟩
      rw [hc] at hx
      obtain ⟨c0, c1⟩ := bt_range s (j : Int)
      rw [hc] at c0 c1
      have HC := Lib.hid hc
      clear hc
      rcases HOk.out with ⟨hh, hb0, hb1⟩ | ⟨hh, hb0, hb1⟩ | ⟨hh, hb0, hb1⟩
      · subst hh
        have HBk0 := HBk
        have HS0 := HS
        have HO0 := HO
        have HB0 := HB
        have hor := mine_or_byte b c hb0 (by omega) c0 c1
        obtain ⟨q, hq⟩ : ∃ q, b * 256 + c = q := ⟨_, rfl⟩
        rw [hq] at hor
        have q0 : 0 ≤ q := by omega
        have q1 : q < 256 := by omega
        have HQ := Lib.hid hq
        clear hq
        have hstep : b64h_encGo (c :: (bytesOf s).drop (j + 1)) b 0 = b64h_sgn (q / 4 % 64) :: b64h_encGo ((bytesOf s).drop (j + 1)) (q % 4) 2 := by rw [← HQ.out]; simp [b64h_encGo]
        have HStep := Lib.hid hstep
        clear hstep
        go_wp2_with fail
        refine wp_loop_rounds 4 ?_
        rw [rounds_succ]
        have d01 : 0 ≤ q / 4 % 64 := by omega
        have d11 : q / 4 % 64 < 64 := by omega
        have ham1 := mine_and_mask 6 63 rfl (q / 4) (by omega) (by omega)
        obtain ⟨y1, hy1⟩ : ∃ y, b64h_sgn (q / 4 % 64) = y := ⟨_, rfl⟩
        have hbt1 := bt_at (⟨#[65, 66, 67, 68, 69, 70, 71, 72, 73, 74, 75, 76, 77, 78, 79, 80, 81, 82, 83, 84, 85, 86, 87, 88, 89, 90, 97, 98, 99, 100, 101, 102, 103, 104, 105, 106, 107, 108, 109, 110, 111, 112, 113, 114, 115, 116, 117, 118, 119, 120, 121, 122, 48, 49, 50, 51, 52, 53, 54, 55, 56, 57, 45, 95]⟩ : ByteArray) (q / 4 % 64)
        rw [show bt (⟨#[65, 66, 67, 68, 69, 70, 71, 72, 73, 74, 75, 76, 77, 78, 79, 80, 81, 82, 83, 84, 85, 86, 87, 88, 89, 90, 97, 98, 99, 100, 101, 102, 103, 104, 105, 106, 107, 108, 109, 110, 111, 112, 113, 114, 115, 116, 117, 118, 119, 120, 121, 122, 48, 49, 50, 51, 52, 53, 54, 55, 56, 57, 45, 95]⟩ : ByteArray) (q / 4 % 64) = y1 from hy1] at hbt1
        have Hy1 := Lib.hid hy1
        clear hy1
        go_wp2_with (first | ((with_reducible refine gate_builtin (b := .append) (xs := #[.tmp 32, .tmp 38]) rfl ?_); at_builtin; refine Kd.R_append (Kd.int .u8) (w0 := w) w.heap.size rfl (.tmp 32) (.tmp 38) 48 5 (.int .u8 0) 1 rfl Try.underlying48 b64h_info rfl (by decide) (by omega) u3 out y1 [.int .u8 y1] (fun k => k ≠ G) (fun _ => False) rfl rfl ?aP (fun _ hk => hk.elim) ?aF ?aO ?aB ?aS ?aL ?_; (case aP => exact rfl); (case aB => exact HB0.out); (case aF => exact mine_fresh_ne HS0.out); (case aO => exact HO0.out); (case aS => exact below_size HB0.out); (case aL => have := HLen.out; (try simp only [List.length_append, List.length_cons, List.length_nil]); omega); intro va1 wa1 ho1 hb1 hg1 hat1; obtain ⟨hbk1, hs1⟩ := mine_grow_apart HO0.out.1 HBk0.out HS0.out hg1; have HO1 := Aside0.mk ho1; have HB1 := Aside0.mk hb1; have HBk1 := Aside0.mk hbk1; have HS1 := Aside0.mk hs1; clear ho1 hb1 hg1 hat1 hbk1 hs1))
        rw [rounds_succ]
        have hrm := mine_and_mask 2 3 rfl q (by omega) (by omega)
        go_wp2_with fail
        obtain ⟨g, rfl⟩ : ∃ m, gk = m + 1 := ⟨gk - 1, by have := HK.out; omega⟩
        go_roundg g
        case measure => omega
        case rel => exact ⟨j + 1, q % 4, 2, (out ++ [y1]), by first | rfl | (simp; done), by first | rfl | (simp; done), by first | rfl | (simp; done), ⟨by have := HK.out; omega⟩, ⟨by unfold b64h_encOk; omega⟩, ⟨by have e := b64h_enc_round s j c b 0 (new := [y1]) HC.out hj HEq.out (by rw [HStep.out, Hy1.out]; rfl); simpa using e⟩, ⟨by have := HLen.out; simp only [List.length_append, List.length_cons, List.length_nil]; omega⟩, HO1, HBk1, HS1, HB1⟩
      · subst hh
        have HBk0 := HBk
        have HS0 := HS
        have HO0 := HO
        have HB0 := HB
        have hor := mine_or_byte b c hb0 (by omega) c0 c1
        obtain ⟨q, hq⟩ : ∃ q, b * 256 + c = q := ⟨_, rfl⟩
        rw [hq] at hor
        have q0 : 0 ≤ q := by omega
        have q1 : q < 1024 := by omega
        have HQ := Lib.hid hq
        clear hq
        have hstep : b64h_encGo (c :: (bytesOf s).drop (j + 1)) b 2 = b64h_sgn (q / 16 % 64) :: b64h_encGo ((bytesOf s).drop (j + 1)) (q % 16) 4 := by rw [← HQ.out]; simp [b64h_encGo]
        have HStep := Lib.hid hstep
        clear hstep
        go_wp2_with fail
        refine wp_loop_rounds 4 ?_
        rw [rounds_succ]
        have d01 : 0 ≤ q / 16 % 64 := by omega
        have d11 : q / 16 % 64 < 64 := by omega
        have ham1 := mine_and_mask 6 63 rfl (q / 16) (by omega) (by omega)
        obtain ⟨y1, hy1⟩ : ∃ y, b64h_sgn (q / 16 % 64) = y := ⟨_, rfl⟩
        have hbt1 := bt_at (⟨#[65, 66, 67, 68, 69, 70, 71, 72, 73, 74, 75, 76, 77, 78, 79, 80, 81, 82, 83, 84, 85, 86, 87, 88, 89, 90, 97, 98, 99, 100, 101, 102, 103, 104, 105, 106, 107, 108, 109, 110, 111, 112, 113, 114, 115, 116, 117, 118, 119, 120, 121, 122, 48, 49, 50, 51, 52, 53, 54, 55, 56, 57, 45, 95]⟩ : ByteArray) (q / 16 % 64)
        rw [show bt (⟨#[65, 66, 67, 68, 69, 70, 71, 72, 73, 74, 75, 76, 77, 78, 79, 80, 81, 82, 83, 84, 85, 86, 87, 88, 89, 90, 97, 98, 99, 100, 101, 102, 103, 104, 105, 106, 107, 108, 109, 110, 111, 112, 113, 114, 115, 116, 117, 118, 119, 120, 121, 122, 48, 49, 50, 51, 52, 53, 54, 55, 56, 57, 45, 95]⟩ : ByteArray) (q / 16 % 64) = y1 from hy1] at hbt1
        have Hy1 := Lib.hid hy1
        clear hy1
        go_wp2_with (first | ((with_reducible refine gate_builtin (b := .append) (xs := #[.tmp 32, .tmp 38]) rfl ?_); at_builtin; refine Kd.R_append (Kd.int .u8) (w0 := w) w.heap.size rfl (.tmp 32) (.tmp 38) 48 5 (.int .u8 0) 1 rfl Try.underlying48 b64h_info rfl (by decide) (by omega) u3 out y1 [.int .u8 y1] (fun k => k ≠ G) (fun _ => False) rfl rfl ?aP (fun _ hk => hk.elim) ?aF ?aO ?aB ?aS ?aL ?_; (case aP => exact rfl); (case aB => exact HB0.out); (case aF => exact mine_fresh_ne HS0.out); (case aO => exact HO0.out); (case aS => exact below_size HB0.out); (case aL => have := HLen.out; (try simp only [List.length_append, List.length_cons, List.length_nil]); omega); intro va1 wa1 ho1 hb1 hg1 hat1; obtain ⟨hbk1, hs1⟩ := mine_grow_apart HO0.out.1 HBk0.out HS0.out hg1; have HO1 := Aside0.mk ho1; have HB1 := Aside0.mk hb1; have HBk1 := Aside0.mk hbk1; have HS1 := Aside0.mk hs1; clear ho1 hb1 hg1 hat1 hbk1 hs1))
        rw [rounds_succ]
        have hrm := mine_and_mask 4 15 rfl q (by omega) (by omega)
        go_wp2_with fail
        obtain ⟨g, rfl⟩ : ∃ m, gk = m + 1 := ⟨gk - 1, by have := HK.out; omega⟩
        go_roundg g
        case measure => omega
        case rel => exact ⟨j + 1, q % 16, 4, (out ++ [y1]), by first | rfl | (simp; done), by first | rfl | (simp; done), by first | rfl | (simp; done), ⟨by have := HK.out; omega⟩, ⟨by unfold b64h_encOk; omega⟩, ⟨by have e := b64h_enc_round s j c b 2 (new := [y1]) HC.out hj HEq.out (by rw [HStep.out, Hy1.out]; rfl); simpa using e⟩, ⟨by have := HLen.out; simp only [List.length_append, List.length_cons, List.length_nil]; omega⟩, HO1, HBk1, HS1, HB1⟩
      · subst hh
        have HBk0 := HBk
        have HS0 := HS
        have HO0 := HO
        have HB0 := HB
        have hor := mine_or_byte b c hb0 (by omega) c0 c1
        obtain ⟨q, hq⟩ : ∃ q, b * 256 + c = q := ⟨_, rfl⟩
        rw [hq] at hor
        have q0 : 0 ≤ q := by omega
        have q1 : q < 4096 := by omega
        have HQ := Lib.hid hq
        clear hq
        have hstep : b64h_encGo (c :: (bytesOf s).drop (j + 1)) b 4 = b64h_sgn (q / 64 % 64) :: b64h_sgn (q % 64) :: b64h_encGo ((bytesOf s).drop (j + 1)) (0) 0 := by rw [← HQ.out]; simp [b64h_encGo]
        have HStep := Lib.hid hstep
        clear hstep
        go_wp2_with fail
        refine wp_loop_rounds 4 ?_
        rw [rounds_succ]
        have d01 : 0 ≤ q / 64 % 64 := by omega
        have d11 : q / 64 % 64 < 64 := by omega
        have ham1 := mine_and_mask 6 63 rfl (q / 64) (by omega) (by omega)
        obtain ⟨y1, hy1⟩ : ∃ y, b64h_sgn (q / 64 % 64) = y := ⟨_, rfl⟩
        have hbt1 := bt_at (⟨#[65, 66, 67, 68, 69, 70, 71, 72, 73, 74, 75, 76, 77, 78, 79, 80, 81, 82, 83, 84, 85, 86, 87, 88, 89, 90, 97, 98, 99, 100, 101, 102, 103, 104, 105, 106, 107, 108, 109, 110, 111, 112, 113, 114, 115, 116, 117, 118, 119, 120, 121, 122, 48, 49, 50, 51, 52, 53, 54, 55, 56, 57, 45, 95]⟩ : ByteArray) (q / 64 % 64)
        rw [show bt (⟨#[65, 66, 67, 68, 69, 70, 71, 72, 73, 74, 75, 76, 77, 78, 79, 80, 81, 82, 83, 84, 85, 86, 87, 88, 89, 90, 97, 98, 99, 100, 101, 102, 103, 104, 105, 106, 107, 108, 109, 110, 111, 112, 113, 114, 115, 116, 117, 118, 119, 120, 121, 122, 48, 49, 50, 51, 52, 53, 54, 55, 56, 57, 45, 95]⟩ : ByteArray) (q / 64 % 64) = y1 from hy1] at hbt1
        have Hy1 := Lib.hid hy1
        clear hy1
        go_wp2_with (first | ((with_reducible refine gate_builtin (b := .append) (xs := #[.tmp 32, .tmp 38]) rfl ?_); at_builtin; refine Kd.R_append (Kd.int .u8) (w0 := w) w.heap.size rfl (.tmp 32) (.tmp 38) 48 5 (.int .u8 0) 1 rfl Try.underlying48 b64h_info rfl (by decide) (by omega) u3 out y1 [.int .u8 y1] (fun k => k ≠ G) (fun _ => False) rfl rfl ?aP (fun _ hk => hk.elim) ?aF ?aO ?aB ?aS ?aL ?_; (case aP => exact rfl); (case aB => exact HB0.out); (case aF => exact mine_fresh_ne HS0.out); (case aO => exact HO0.out); (case aS => exact below_size HB0.out); (case aL => have := HLen.out; (try simp only [List.length_append, List.length_cons, List.length_nil]); omega); intro va1 wa1 ho1 hb1 hg1 hat1; obtain ⟨hbk1, hs1⟩ := mine_grow_apart HO0.out.1 HBk0.out HS0.out hg1; have HO1 := Aside0.mk ho1; have HB1 := Aside0.mk hb1; have HBk1 := Aside0.mk hbk1; have HS1 := Aside0.mk hs1; clear ho1 hb1 hg1 hat1 hbk1 hs1))
        rw [rounds_succ]
        have d02 : 0 ≤ q % 64 := by omega
        have d12 : q % 64 < 64 := by omega
        have ham2 := mine_and_mask 6 63 rfl (q) (by omega) (by omega)
        obtain ⟨y2, hy2⟩ : ∃ y, b64h_sgn (q % 64) = y := ⟨_, rfl⟩
        have hbt2 := bt_at (⟨#[65, 66, 67, 68, 69, 70, 71, 72, 73, 74, 75, 76, 77, 78, 79, 80, 81, 82, 83, 84, 85, 86, 87, 88, 89, 90, 97, 98, 99, 100, 101, 102, 103, 104, 105, 106, 107, 108, 109, 110, 111, 112, 113, 114, 115, 116, 117, 118, 119, 120, 121, 122, 48, 49, 50, 51, 52, 53, 54, 55, 56, 57, 45, 95]⟩ : ByteArray) (q % 64)
        rw [show bt (⟨#[65, 66, 67, 68, 69, 70, 71, 72, 73, 74, 75, 76, 77, 78, 79, 80, 81, 82, 83, 84, 85, 86, 87, 88, 89, 90, 97, 98, 99, 100, 101, 102, 103, 104, 105, 106, 107, 108, 109, 110, 111, 112, 113, 114, 115, 116, 117, 118, 119, 120, 121, 122, 48, 49, 50, 51, 52, 53, 54, 55, 56, 57, 45, 95]⟩ : ByteArray) (q % 64) = y2 from hy2] at hbt2
        have Hy2 := Lib.hid hy2
        clear hy2
        go_wp2_with (first | ((with_reducible refine gate_builtin (b := .append) (xs := #[.tmp 32, .tmp 38]) rfl ?_); at_builtin; refine Kd.R_append (Kd.int .u8) (w0 := w) w.heap.size rfl (.tmp 32) (.tmp 38) 48 5 (.int .u8 0) 1 rfl Try.underlying48 b64h_info rfl (by decide) (by omega) va1 (out ++ [y1]) y2 [.int .u8 y2] (fun k => k ≠ G) (fun _ => False) rfl rfl ?aP (fun _ hk => hk.elim) ?aF ?aO ?aB ?aS ?aL ?_; (case aP => exact rfl); (case aB => exact HB1.out); (case aF => exact mine_fresh_ne HS1.out); (case aO => exact HO1.out); (case aS => exact below_size HB1.out); (case aL => have := HLen.out; (try simp only [List.length_append, List.length_cons, List.length_nil]); omega); intro va2 wa2 ho2 hb2 hg2 hat2; obtain ⟨hbk2, hs2⟩ := mine_grow_apart HO1.out.1 HBk1.out HS1.out hg2; have HO2 := Aside0.mk ho2; have HB2 := Aside0.mk hb2; have HBk2 := Aside0.mk hbk2; have HS2 := Aside0.mk hs2; clear ho2 hb2 hg2 hat2 hbk2 hs2))
        rw [rounds_succ]
        have hrm := mine_and_mask 0 0 rfl q (by omega) (by omega)
        go_wp2_with fail
        obtain ⟨g, rfl⟩ : ∃ m, gk = m + 1 := ⟨gk - 1, by have := HK.out; omega⟩
        go_roundg g
        case measure => omega
        case rel => exact ⟨j + 1, 0, 0, ((out ++ [y1]) ++ [y2]), by first | rfl | (simp; done), by first | rfl | (simp; done), by first | rfl | (simp; done), ⟨by have := HK.out; omega⟩, ⟨by unfold b64h_encOk; omega⟩, ⟨by have e := b64h_enc_round s j c b 4 (new := [y1, y2]) HC.out hj HEq.out (by rw [HStep.out, Hy1.out, Hy2.out]; rfl); simpa using e⟩, ⟨by have := HLen.out; simp only [List.length_append, List.length_cons, List.length_nil]; omega⟩, HO2, HBk2, HS2, HB2⟩
    · have hjn : j = s.size := by have := HK.out; omega
      subst hjn
      have HEq' : b64h_encGo (bytesOf s) 0 0 = out ++ b64h_encGo [] b h := by rw [HEq.out, List.drop_of_length_le (by rw [bytesOf_length]; exact Nat.le_refl _)]
      have HE' := Lib.hid HEq'
      clear HEq' HEq
      rcases HOk.out with ⟨hh, hb0, hb1⟩ | ⟨hh, hb0, hb1⟩ | ⟨hh, hb0, hb1⟩
      · subst hh
        have HF := Lib.hid (show b64h_encGo (bytesOf s) 0 0 = out by rw [HE'.out]; simp [b64h_encGo])
        have hcv := own_string (P := Try.prog) Try.underlying48 Try.underlying5 Try.underlying9 (Kd.own_of_R HO.out)
        go_wp2_with fail
        go_ret
        exact ⟨by rw [HF.out]; first | rfl | (simp; done), HB.out⟩
      · subst hh
        have d0 : 0 ≤ b * 16 % 64 := by omega
        have d1 : b * 16 % 64 < 64 := by omega
        have ham := mine_and_mask 6 63 rfl (b * 16) (by omega) (by omega)
        obtain ⟨y, hy⟩ : ∃ y, b64h_sgn (b * 16 % 64) = y := ⟨_, rfl⟩
        have HF := Lib.hid (show b64h_encGo (bytesOf s) 0 0 = out ++ [y] by rw [HE'.out, ← hy]; simp [b64h_encGo])
        have hbt := bt_at (⟨#[65, 66, 67, 68, 69, 70, 71, 72, 73, 74, 75, 76, 77, 78, 79, 80, 81, 82, 83, 84, 85, 86, 87, 88, 89, 90, 97, 98, 99, 100, 101, 102, 103, 104, 105, 106, 107, 108, 109, 110, 111, 112, 113, 114, 115, 116, 117, 118, 119, 120, 121, 122, 48, 49, 50, 51, 52, 53, 54, 55, 56, 57, 45, 95]⟩ : ByteArray) (b * 16 % 64)
        rw [show bt (⟨#[65, 66, 67, 68, 69, 70, 71, 72, 73, 74, 75, 76, 77, 78, 79, 80, 81, 82, 83, 84, 85, 86, 87, 88, 89, 90, 97, 98, 99, 100, 101, 102, 103, 104, 105, 106, 107, 108, 109, 110, 111, 112, 113, 114, 115, 116, 117, 118, 119, 120, 121, 122, 48, 49, 50, 51, 52, 53, 54, 55, 56, 57, 45, 95]⟩ : ByteArray) (b * 16 % 64) = y from hy] at hbt
        have Hy := Lib.hid hy
        clear hy
        go_wp2_with (first | ((with_reducible refine gate_builtin (b := .append) (xs := #[.tmp 48, .tmp 55]) rfl ?_); at_builtin; refine Kd.R_append (Kd.int .u8) (w0 := w) w.heap.size rfl (.tmp 48) (.tmp 55) 48 5 (.int .u8 0) 1 rfl Try.underlying48 b64h_info rfl (by decide) (by omega) u3 out y [.int .u8 y] (fun k => k ≠ G) (fun _ => False) rfl rfl ?aP (fun _ hk => hk.elim) ?aF ?aO ?aB ?aS ?aL ?_; (case aP => exact rfl); (case aB => exact HB.out); (case aF => exact mine_fresh_ne HS.out); (case aO => exact HO.out); (case aS => exact below_size HB.out); (case aL => have := HLen.out; omega); intro va1 wa1 ho1 hb1 hg1 hat1; have hcv := own_string (P := Try.prog) Try.underlying48 Try.underlying5 Try.underlying9 (Kd.own_of_R ho1); have HB1 := Aside0.mk hb1; clear ho1 hb1 hg1 hat1))
        go_ret
        exact ⟨by rw [HF.out]; first | rfl | (simp; done), HB1.out⟩
      · subst hh
        have d0 : 0 ≤ b * 4 % 64 := by omega
        have d1 : b * 4 % 64 < 64 := by omega
        have ham := mine_and_mask 6 63 rfl (b * 4) (by omega) (by omega)
        obtain ⟨y, hy⟩ : ∃ y, b64h_sgn (b * 4 % 64) = y := ⟨_, rfl⟩
        have HF := Lib.hid (show b64h_encGo (bytesOf s) 0 0 = out ++ [y] by rw [HE'.out, ← hy]; simp [b64h_encGo])
        have hbt := bt_at (⟨#[65, 66, 67, 68, 69, 70, 71, 72, 73, 74, 75, 76, 77, 78, 79, 80, 81, 82, 83, 84, 85, 86, 87, 88, 89, 90, 97, 98, 99, 100, 101, 102, 103, 104, 105, 106, 107, 108, 109, 110, 111, 112, 113, 114, 115, 116, 117, 118, 119, 120, 121, 122, 48, 49, 50, 51, 52, 53, 54, 55, 56, 57, 45, 95]⟩ : ByteArray) (b * 4 % 64)
        rw [show bt (⟨#[65, 66, 67, 68, 69, 70, 71, 72, 73, 74, 75, 76, 77, 78, 79, 80, 81, 82, 83, 84, 85, 86, 87, 88, 89, 90, 97, 98, 99, 100, 101, 102, 103, 104, 105, 106, 107, 108, 109, 110, 111, 112, 113, 114, 115, 116, 117, 118, 119, 120, 121, 122, 48, 49, 50, 51, 52, 53, 54, 55, 56, 57, 45, 95]⟩ : ByteArray) (b * 4 % 64) = y from hy] at hbt
        have Hy := Lib.hid hy
        clear hy
        go_wp2_with (first | ((with_reducible refine gate_builtin (b := .append) (xs := #[.tmp 48, .tmp 55]) rfl ?_); at_builtin; refine Kd.R_append (Kd.int .u8) (w0 := w) w.heap.size rfl (.tmp 48) (.tmp 55) 48 5 (.int .u8 0) 1 rfl Try.underlying48 b64h_info rfl (by decide) (by omega) u3 out y [.int .u8 y] (fun k => k ≠ G) (fun _ => False) rfl rfl ?aP (fun _ hk => hk.elim) ?aF ?aO ?aB ?aS ?aL ?_; (case aP => exact rfl); (case aB => exact HB.out); (case aF => exact mine_fresh_ne HS.out); (case aO => exact HO.out); (case aS => exact below_size HB.out); (case aL => have := HLen.out; omega); intro va1 wa1 ho1 hb1 hg1 hat1; have hcv := own_string (P := Try.prog) Try.underlying48 Try.underlying5 Try.underlying9 (Kd.own_of_R ho1); have HB1 := Aside0.mk hb1; clear ho1 hb1 hg1 hat1))
        go_ret
        exact ⟨by rw [HF.out]; first | rfl | (simp; done), HB1.out⟩
def b64_Encode.f (a0 : ByteArray) : Option ByteArray := if a0.size ≤ 100000 then some (strOfNums (b64h_encGo (bytesOf a0) 0 0)) else none
theorem b64_Encode.calls (a0 : ByteArray) (r : ByteArray) (w : World) (h : b64_Encode.f a0 = some r) :
    Calls Try.prog 22 #[.string a0] w fun e w' => e = .returned (.string r) ∧ Below w.heap.size w w' := by
  unfold b64_Encode.f at h
  by_cases hs : a0.size ≤ 100000
  · rw [if_pos hs] at h
    obtain rfl := Option.some.inj h
    exact b64h_encode_calls a0 w hs
  · rw [if_neg hs] at h
    exact absurd h (by simp)
def nuncioref03_sign.f (a0 : Int) : Option (Int) := if a0 < 26 then (some ((wrap64 (65 + a0)) % 256)) else (if a0 < 52 then (some ((wrap64 ((wrap64 (97 + a0)) - 26)) % 256)) else (if a0 < 62 then (some ((wrap64 ((wrap64 (48 + a0)) - 52)) % 256)) else (if a0 = 62 then (some 45) else (some 95))))
set_option maxHeartbeats 8000000 in
set_option maxRecDepth 100000 in
theorem nuncioref03_sign.calls (a0 : Int) (r : Int) (w : World) (h : nuncioref03_sign.f a0 = some r) :
    Calls Try.prog 35 #[.int .i64 a0] w fun e w' => e = .returned (.int .u8 r) ∧ Drawn0 w w' := by
  have H : (if a0 < 26 then (some ((wrap64 (65 + a0)) % 256)) else (if a0 < 52 then (some ((wrap64 ((wrap64 (97 + a0)) - 26)) % 256)) else (if a0 < 62 then (some ((wrap64 ((wrap64 (48 + a0)) - 52)) % 256)) else (if a0 = 62 then (some 45) else (some 95))))) = some r := h
  clear h
  by_cases c2 : a0 < 26
  · rw [if_pos c2] at H
    have c2b0 : decide (a0 < 26) = true := decide_eq_true c2
    clear c2
    obtain rfl := Option.some.inj H
    go_enter Try.func35, Try.ntmps35
    go_wp2
    go_ret
    exact ⟨by first | rfl | (simp; done) | (simp [*]; done), by repeat (first | exact Drawn0.refl _ | apply Drawn0.step)⟩
  · rw [if_neg c2] at H
    have c2b0 : decide (a0 < 26) = false := decide_eq_false c2
    clear c2
    by_cases c3 : a0 < 52
    · rw [if_pos c3] at H
      have c3b0 : decide (a0 < 52) = true := decide_eq_true c3
      clear c3
      obtain rfl := Option.some.inj H
      go_enter Try.func35, Try.ntmps35
      go_wp2
      go_ret
      exact ⟨by first | rfl | (simp; done) | (simp [*]; done), by repeat (first | exact Drawn0.refl _ | apply Drawn0.step)⟩
    · rw [if_neg c3] at H
      have c3b0 : decide (a0 < 52) = false := decide_eq_false c3
      clear c3
      by_cases c4 : a0 < 62
      · rw [if_pos c4] at H
        have c4b0 : decide (a0 < 62) = true := decide_eq_true c4
        clear c4
        obtain rfl := Option.some.inj H
        go_enter Try.func35, Try.ntmps35
        go_wp2
        go_ret
        exact ⟨by first | rfl | (simp; done) | (simp [*]; done), by repeat (first | exact Drawn0.refl _ | apply Drawn0.step)⟩
      · rw [if_neg c4] at H
        have c4b0 : decide (a0 < 62) = false := decide_eq_false c4
        clear c4
        by_cases c5 : a0 = 62
        · rw [if_pos c5] at H
          have c5b0 : (a0 == 62) = true := beq_iff_eq.mpr c5
          have c5b1 : (a0 != 62) = false := bne_eq_false_iff_eq.mpr c5
          clear c5
          obtain rfl := Option.some.inj H
          go_enter Try.func35, Try.ntmps35
          go_wp2
          go_ret
          exact ⟨by first | rfl | (simp; done) | (simp [*]; done), by repeat (first | exact Drawn0.refl _ | apply Drawn0.step)⟩
        · rw [if_neg c5] at H
          have c5b0 : (a0 == 62) = false := beq_eq_false_iff_ne.mpr c5
          have c5b1 : (a0 != 62) = true := bne_iff_ne.mpr c5
          obtain rfl := Option.some.inj H
          go_enter Try.func35, Try.ntmps35
          go_wp2
          go_ret
          exact ⟨by first | rfl | (simp; done) | (simp [*]; done), by repeat (first | exact Drawn0.refl _ | apply Drawn0.step)⟩
def nuncioref03_number.l0 : Nat → Int → Int → Option (Int)
  | 0, _, _ => none
  | k + 1, x0, x3 => if x3 < 64 then ((nuncioref03_sign.f x3).bind fun t106 => (if t106 = x0 then (some x3) else (nuncioref03_number.l0 k x0 (wrap64 (x3 + 1))))) else (some (-1))
def nuncioref03_number.f (k : Nat) (a0 : Int) : Option (Int) := nuncioref03_number.l0 k a0 0
theorem nuncioref03_number.mono_l : ∀ k, (∀ y0 y1, LeO (nuncioref03_number.l0 k y0 y1) (nuncioref03_number.l0 (k + 1) y0 y1))
  | 0 => fun _ _ r h => by simp [nuncioref03_number.l0] at h
  | k + 1 => by
    have ih0 := nuncioref03_number.mono_l k
    · intro y0 y1
      unfold nuncioref03_number.l0
      repeat' first
      | (with_reducible exact ih0 _ _)
      | (with_reducible exact LeO.refl _)
      | (with_reducible exact LeO.none _)
      | (with_reducible refine LeO.ite ?_ ?_)
      | (with_reducible refine LeO.bind ?_ (fun _ => ?_))
      | exact ih0 _ _
      | exact LeO.none _
      | refine LeO.ite ?_ ?_
      | refine LeO.bind ?_ (fun _ => ?_)
theorem nuncioref03_number.mono : ∀ a0 k, LeO (nuncioref03_number.f k a0) (nuncioref03_number.f (k + 1) a0) := by
  intro a0 k
  have ih0 := nuncioref03_number.mono_l k
  unfold nuncioref03_number.f
  repeat' first
      | (with_reducible exact ih0 _ _)
      | (with_reducible exact LeO.refl _)
      | (with_reducible exact LeO.none _)
      | (with_reducible refine LeO.ite ?_ ?_)
      | (with_reducible refine LeO.bind ?_ (fun _ => ?_))
      | exact ih0 _ _
      | exact LeO.none _
      | refine LeO.ite ?_ ?_
      | refine LeO.bind ?_ (fun _ => ?_)
set_option maxHeartbeats 8000000 in
set_option maxRecDepth 100000 in
theorem nuncioref03_number.calls (k : Nat) (a0 : Int) (r : Int) (w : World) (h : nuncioref03_number.f k a0 = some r) :
    Calls Try.prog 37 #[.int .u8 a0] w fun e w' => e = .returned (.int .i64 r) ∧ Drawn0 w w' := by
  have H : (nuncioref03_number.l0 k a0 0) = some r := h
  clear h
  have H' := Aside0.mk H
  clear H
  go_enter Try.func37, Try.ntmps37
  go_wp2
  go_loopg [3] k (fun kq v3 w' => ∃ (x3_1 : Int), v3 = .int .i64 x3_1 ∧ Aside0 (nuncioref03_number.l0 kq a0 x3_1 = some r) ∧ Aside0 (kq ≤ k) ∧ Drawn0 w w')
  case atStart => exact ⟨(0), (by first | rfl | (simp; done) | (simp [*]; done)), H', ⟨Nat.le_refl _⟩, by repeat (first | exact Drawn0.refl _ | apply Drawn0.step)⟩
  case round =>
    clear H'
    obtain ⟨x3_1, rfl, HA, HK1, ⟨m1, rfl⟩⟩ := hrel
    cases gk with
    | zero => exact absurd HA.out (by simp [nuncioref03_number.l0])
    | succ k1 =>
      have H := HA.out
      clear HA
      simp only [nuncioref03_number.l0] at H
      by_cases c2 : x3_1 < 64
      · rw [if_pos c2] at H
        have c2b0 : decide (x3_1 < 64) = true := decide_eq_true c2
        clear c2
        replace H := Option.bind_eq_some_iff.mp H
        obtain ⟨t106, A30, H⟩ := H
        replace H : (if t106 = a0 then (some x3_1) else (nuncioref03_number.l0 k1 a0 (wrap64 (x3_1 + 1)))) = some r := H
        have A3 := Aside0.mk A30
        clear A30
        by_cases c4 : t106 = a0
        · rw [if_pos c4] at H
          have c4b0 : (t106 == a0) = true := beq_iff_eq.mpr c4
          have c4b1 : (t106 != a0) = false := bne_eq_false_iff_eq.mpr c4
          clear c4
          obtain rfl := Option.some.inj H
          go_wp2_with (first | ((with_reducible refine gate_callee (f := 35) rfl ?_); refine goesL_ (some 9) rfl rfl Try.func35 (by kernel_rfl) rfl #[.int .i64 x3_1] rfl (by (try simp only [List.map_toArray, List.map_cons, List.map_nil]); first | done | rfl | (simp only [List.length_drop, List.length_take]; rfl)) ?_; (with_reducible refine (nuncioref03_sign.calls x3_1 t106 _ A3.out).mono ?_); rintro e w' ⟨rfl, ⟨nd, rfl⟩⟩; refine ⟨_, rfl, ?_⟩))
          go_ret
          exact ⟨by first | rfl | (simp; done) | (simp [*]; done), by repeat (first | exact Drawn0.refl _ | apply Drawn0.step)⟩
        · rw [if_neg c4] at H
          have c4b0 : (t106 == a0) = false := beq_eq_false_iff_ne.mpr c4
          have c4b1 : (t106 != a0) = true := bne_iff_ne.mpr c4
          have H' := Aside0.mk H
          clear H
          go_wp2_with (first | ((with_reducible refine gate_callee (f := 35) rfl ?_); refine goesL_ (some 9) rfl rfl Try.func35 (by kernel_rfl) rfl #[.int .i64 x3_1] rfl (by (try simp only [List.map_toArray, List.map_cons, List.map_nil]); first | done | rfl | (simp only [List.length_drop, List.length_take]; rfl)) ?_; (with_reducible refine (nuncioref03_sign.calls x3_1 t106 _ A3.out).mono ?_); rintro e w' ⟨rfl, ⟨nd, rfl⟩⟩; refine ⟨_, rfl, ?_⟩))
          go_roundg k1
          case measure => have := HK1.out; omega
          case rel => exact ⟨(wrap64 (x3_1 + 1)), (by first | rfl | (simp; done) | (simp [*]; done)), H', ⟨by have := HK1.out; omega⟩, by repeat (first | exact Drawn0.refl _ | apply Drawn0.step)⟩
      · rw [if_neg c2] at H
        have c2b0 : decide (x3_1 < 64) = false := decide_eq_false c2
        clear c2
        obtain rfl := Option.some.inj H
        go_wp2
        go_ret
        exact ⟨by first | rfl | (simp; done) | (simp [*]; done), by repeat (first | exact Drawn0.refl _ | apply Drawn0.step)⟩
end Go.Proofs.Ytfoflodgegehfaa.B64
set_option linter.unusedVariables false
set_option linter.unusedSimpArgs false
namespace Go.Proofs.Ytfoflodgegehfaa.B64
open Go.RowKit Go.Proofs.YtfoflodgegehfaaW.PrintWords Go.Proofs.YtfoflodgegehfaaW.PrintLast Go.Proofs.YtfoflodgegehfaaW.PrintMore
attribute [local go_sem] max2_int min2_int max_two min_two max_three min_three max_four min_four
theorem info5 : (Try.prog.info? 5).map (fun i => (i.zero, i.size, i.bytes)) = some (some (.int .u8 0), 1, 1) := by kernel_rfl
mutual
def nuncioref03_Encode.l0 : Nat → ByteArray → List Int → Int → Option (ByteArray)
  | 0, _, _, _ => none
  | k + 1, x0, x3, x4 => if x4 < (x0.size : Int) then (nuncioref03_Encode.l1 k x0 x3 x4 0 0 x4) else (some (strOfNums x3))
def nuncioref03_Encode.l1 : Nat → ByteArray → List Int → Int → Int → Int → Int → Option (ByteArray)
  | 0, _, _, _, _, _, _ => none
  | k + 1, x0, x3, x4, x5, x6, x7 => if x7 < (wrap64 (x4 + 3)) then (if x7 < (x0.size : Int) then (if 0 ≤ x7 then (nuncioref03_Encode.l1 k x0 x3 x4 (wrap64 ((wrap64 (x5 * 256)) + (wrap64 (bt x0 x7)))) (wrap64 (x6 + 1)) (wrap64 (x7 + 1))) else (none)) else (nuncioref03_Encode.l1 k x0 x3 x4 (wrap64 (x5 * 256)) x6 (wrap64 (x7 + 1)))) else ((nuncioref03_sign.f (wrap64 (Int.tdiv x5 262144))).bind fun t107 => ((nuncioref03_sign.f (Int.tmod (wrap64 (Int.tdiv x5 4096)) 64)).bind fun t108 => ((nuncioref03_sign.f (Int.tmod (wrap64 (Int.tdiv x5 64)) 64)).bind fun t109 => ((nuncioref03_sign.f (Int.tmod x5 64)).bind fun t110 => ((some (([t107, t108, t109, t110] : List Int) : List Int)).bind fun y111 => (if 0 ≤ (wrap64 (x6 + 1)) then (if (wrap64 (x6 + 1)) ≤ (y111.length : Int) then ((some (y111.take ((wrap64 (x6 + 1)) : Int).toNat : List Int)).bind fun y114 => (if x3.length + y114.length < 140737488355328 then (nuncioref03_Encode.l0 k x0 (x3 ++ y114) (wrap64 (x4 + 3))) else (none))) else (none)) else (none)))))))
end
def nuncioref03_Encode.f (k : Nat) (a0 : ByteArray) : Option (ByteArray) := nuncioref03_Encode.l0 k a0 ([] : List Int) 0
theorem nuncioref03_Encode.mono_l : ∀ k, (∀ y0 y1 y2, LeO (nuncioref03_Encode.l0 k y0 y1 y2) (nuncioref03_Encode.l0 (k + 1) y0 y1 y2)) ∧ (∀ y0 y1 y2 y3 y4 y5, LeO (nuncioref03_Encode.l1 k y0 y1 y2 y3 y4 y5) (nuncioref03_Encode.l1 (k + 1) y0 y1 y2 y3 y4 y5))
  | 0 => ⟨fun _ _ _ r h => by simp [nuncioref03_Encode.l0] at h, fun _ _ _ _ _ _ r h => by simp [nuncioref03_Encode.l1] at h⟩
  | k + 1 => by
    obtain ⟨ih0, ih1⟩ := nuncioref03_Encode.mono_l k
    refine ⟨?_, ?_⟩
    · intro y0 y1 y2
      unfold nuncioref03_Encode.l0
      repeat' first
      | (with_reducible exact ih0 _ _ _)
      | (with_reducible exact ih1 _ _ _ _ _ _)
      | (with_reducible exact LeO.refl _)
      | (with_reducible exact LeO.none _)
      | (with_reducible refine LeO.ite ?_ ?_)
      | (with_reducible refine LeO.bind ?_ (fun _ => ?_))
      | exact ih0 _ _ _
      | exact ih1 _ _ _ _ _ _
      | exact LeO.none _
      | refine LeO.ite ?_ ?_
      | refine LeO.bind ?_ (fun _ => ?_)
    · intro y0 y1 y2 y3 y4 y5
      unfold nuncioref03_Encode.l1
      repeat' first
      | (with_reducible exact ih0 _ _ _)
      | (with_reducible exact ih1 _ _ _ _ _ _)
      | (with_reducible exact LeO.refl _)
      | (with_reducible exact LeO.none _)
      | (with_reducible refine LeO.ite ?_ ?_)
      | (with_reducible refine LeO.bind ?_ (fun _ => ?_))
      | exact ih0 _ _ _
      | exact ih1 _ _ _ _ _ _
      | exact LeO.none _
      | refine LeO.ite ?_ ?_
      | refine LeO.bind ?_ (fun _ => ?_)
theorem nuncioref03_Encode.mono : ∀ a0 k, LeO (nuncioref03_Encode.f k a0) (nuncioref03_Encode.f (k + 1) a0) := by
  intro a0 k
  obtain ⟨ih0, ih1⟩ := nuncioref03_Encode.mono_l k
  unfold nuncioref03_Encode.f
  repeat' first
      | (with_reducible exact ih0 _ _ _)
      | (with_reducible exact ih1 _ _ _ _ _ _)
      | (with_reducible exact LeO.refl _)
      | (with_reducible exact LeO.none _)
      | (with_reducible refine LeO.ite ?_ ?_)
      | (with_reducible refine LeO.bind ?_ (fun _ => ?_))
      | exact ih0 _ _ _
      | exact ih1 _ _ _ _ _ _
      | exact LeO.none _
      | refine LeO.ite ?_ ?_
      | refine LeO.bind ?_ (fun _ => ?_)
set_option maxHeartbeats 8000000 in
set_option maxRecDepth 100000 in
theorem nuncioref03_Encode.calls (k : Nat) (a0 : ByteArray) (r : ByteArray) (w : World) (h : nuncioref03_Encode.f k a0 = some r) :
    Calls Try.prog 23 #[.string a0] w fun e w' => e = .returned (.string r) ∧ Below w.heap.size w w' := by
  have HB := Aside0.mk (Below.refl w.heap.size w)
  have H : (nuncioref03_Encode.l0 k a0 ([] : List Int) 0) = some r := h
  clear h
  have H' := Aside0.mk H
  clear H
  go_enter Try.func23, Try.ntmps23
  go_wp2
  go_loopg [3, 4] k (fun kq v3 v4 w' => ∃ (x3_1 : List Int) (x4_1 : Int), v4 = .int .i64 x4_1 ∧ Aside0 (nuncioref03_Encode.l0 kq a0 x3_1 x4_1 = some r) ∧ Aside0 (kq ≤ k) ∧ Aside0 (Kd.R (Kd.int .u8) 5 w' w.heap.size (fun _ => True) v3 x3_1) ∧ Aside0 (Below w.heap.size w w'))
  case atStart => exact ⟨(([] : List Int)), (0), (by first | rfl | (simp; done) | (simp [*]; done)), H', ⟨Nat.le_refl _⟩, ⟨by first | exact Kd.R_nil _ _ _ _ _ | exact Kd.N_nil _ _ _ _ _ | exact Kd.V_nil _ _ _ _ _ | exact Kd.Q_nil _ _ _ _ _ | exact Kd.S_nil _ _ _ _ _⟩, ⟨by repeat (first | (with_reducible first | exact HB.out | apply below_alloc | apply pw_below_drewN | apply below_drew1) | exact HB.out)⟩⟩
  case round =>
    clear H'
    obtain ⟨x3_1, x4_1, rfl, HA, HK1, HO_3, HB⟩ := hrel
    cases gk with
    | zero => exact absurd HA.out (by simp [nuncioref03_Encode.l0])
    | succ k1 =>
      have H := HA.out
      clear HA
      simp only [nuncioref03_Encode.l0] at H
      by_cases c2 : x4_1 < (a0.size : Int)
      · rw [if_pos c2] at H
        have c2b0 : decide (x4_1 < (a0.size : Int)) = true := decide_eq_true c2
        clear c2
        have H' := Aside0.mk H
        clear H
        go_wp2
        go_loopg [5, 6, 7] k1 (fun kq v5 v6 v7 w' => ∃ (x5_2 : Int) (x6_2 : Int) (x7_2 : Int), v5 = .int .i64 x5_2 ∧ v6 = .int .i64 x6_2 ∧ v7 = .int .i64 x7_2 ∧ Aside0 (nuncioref03_Encode.l1 kq a0 x3_1 x4_1 x5_2 x6_2 x7_2 = some r) ∧ Aside0 (kq ≤ k1) ∧ Aside0 (Kd.R (Kd.int .u8) 5 w' w.heap.size (fun _ => True) u3 x3_1) ∧ Aside0 (Below w.heap.size w w'))
        case atStart => exact ⟨(0), (0), (x4_1), (by first | rfl | (simp; done) | (simp [*]; done)), (by first | rfl | (simp; done) | (simp [*]; done)), (by first | rfl | (simp; done) | (simp [*]; done)), H', ⟨Nat.le_refl _⟩, ⟨by (with_reducible repeat (first | apply Kd.R_alloc | apply Kd.R_drewN | apply Kd.R_drew)); exact HO_3.out⟩, ⟨by repeat (first | (with_reducible first | exact HB.out | apply below_alloc | apply pw_below_drewN | apply below_drew1) | exact HB.out)⟩⟩
        case round =>
          clear H'
          try clear c2
          try clear c2b0
          try clear p2
          obtain ⟨x5_2, x6_2, x7_2, rfl, rfl, rfl, HA, HK2, HO_3, HB⟩ := hrel
          cases gk with
          | zero => exact absurd HA.out (by simp [nuncioref03_Encode.l1])
          | succ k2 =>
            have H := HA.out
            clear HA
            simp only [nuncioref03_Encode.l1] at H
            by_cases c3 : x7_2 < (wrap64 (x4_1 + 3))
            · rw [if_pos c3] at H
              have c3b0 : decide (x7_2 < (wrap64 (x4_1 + 3))) = true := decide_eq_true c3
              clear c3
              by_cases c4 : x7_2 < (a0.size : Int)
              · rw [if_pos c4] at H
                have c4b0 : decide (x7_2 < (a0.size : Int)) = true := decide_eq_true c4
                clear c4
                by_cases c5 : 0 ≤ x7_2
                · rw [if_pos c5] at H
                  have c5b0 : decide (0 ≤ x7_2) = true := decide_eq_true c5
                  clear c5
                  have H' := Aside0.mk H
                  clear H
                  have p6 : 0 ≤ (x7_2 : Int) := of_decide_eq_true (by first | (with_reducible assumption) | assumption)
                  have q6 : x7_2 < (a0.size : Int) := of_decide_eq_true (by first | (with_reducible assumption) | assumption)
                  have hx6 := bt_at a0 x7_2
                  replace p6 := eq_true p6
                  replace q6 := eq_true q6
                  go_wp2
                  go_roundg k2
                  case measure => have := HK1.out; have := HK2.out; omega
                  case rel => exact ⟨(wrap64 ((wrap64 (x5_2 * 256)) + (wrap64 (bt a0 x7_2)))), (wrap64 (x6_2 + 1)), (wrap64 (x7_2 + 1)), (by first | rfl | (simp; done) | (simp [*]; done)), (by first | rfl | (simp; done) | (simp [*]; done)), (by first | rfl | (simp; done) | (simp [*]; done)), H', ⟨by have := HK1.out; have := HK2.out; omega⟩, ⟨by (with_reducible repeat (first | apply Kd.R_alloc | apply Kd.R_drewN | apply Kd.R_drew)); exact HO_3.out⟩, ⟨by repeat (first | (with_reducible first | exact HB.out | apply below_alloc | apply pw_below_drewN | apply below_drew1) | exact HB.out)⟩⟩
                · rw [if_neg c5] at H
                  exact absurd H (by simp)
              · rw [if_neg c4] at H
                have c4b0 : decide (x7_2 < (a0.size : Int)) = false := decide_eq_false c4
                clear c4
                have H' := Aside0.mk H
                clear H
                go_wp2
                go_roundg k2
                case measure => have := HK1.out; have := HK2.out; omega
                case rel => exact ⟨(wrap64 (x5_2 * 256)), (x6_2), (wrap64 (x7_2 + 1)), (by first | rfl | (simp; done) | (simp [*]; done)), (by first | rfl | (simp; done) | (simp [*]; done)), (by first | rfl | (simp; done) | (simp [*]; done)), H', ⟨by have := HK1.out; have := HK2.out; omega⟩, ⟨by (with_reducible repeat (first | apply Kd.R_alloc | apply Kd.R_drewN | apply Kd.R_drew)); exact HO_3.out⟩, ⟨by repeat (first | (with_reducible first | exact HB.out | apply below_alloc | apply pw_below_drewN | apply below_drew1) | exact HB.out)⟩⟩
            · rw [if_neg c3] at H
              have c3b0 : decide (x7_2 < (wrap64 (x4_1 + 3))) = false := decide_eq_false c3
              clear c3
              replace H := Option.bind_eq_some_iff.mp H
              obtain ⟨t107, A70, H⟩ := H
              replace H : ((nuncioref03_sign.f (Int.tmod (wrap64 (Int.tdiv x5_2 4096)) 64)).bind fun t108 => ((nuncioref03_sign.f (Int.tmod (wrap64 (Int.tdiv x5_2 64)) 64)).bind fun t109 => ((nuncioref03_sign.f (Int.tmod x5_2 64)).bind fun t110 => ((some (([t107, t108, t109, t110] : List Int) : List Int)).bind fun y111 => (if 0 ≤ (wrap64 (x6_2 + 1)) then (if (wrap64 (x6_2 + 1)) ≤ (y111.length : Int) then ((some (y111.take ((wrap64 (x6_2 + 1)) : Int).toNat : List Int)).bind fun y114 => (if x3_1.length + y114.length < 140737488355328 then (nuncioref03_Encode.l0 k2 a0 (x3_1 ++ y114) (wrap64 (x4_1 + 3))) else (none))) else (none)) else (none)))))) = some r := H
              have A7 := Aside0.mk A70
              clear A70
              replace H := Option.bind_eq_some_iff.mp H
              obtain ⟨t108, A80, H⟩ := H
              replace H : ((nuncioref03_sign.f (Int.tmod (wrap64 (Int.tdiv x5_2 64)) 64)).bind fun t109 => ((nuncioref03_sign.f (Int.tmod x5_2 64)).bind fun t110 => ((some (([t107, t108, t109, t110] : List Int) : List Int)).bind fun y111 => (if 0 ≤ (wrap64 (x6_2 + 1)) then (if (wrap64 (x6_2 + 1)) ≤ (y111.length : Int) then ((some (y111.take ((wrap64 (x6_2 + 1)) : Int).toNat : List Int)).bind fun y114 => (if x3_1.length + y114.length < 140737488355328 then (nuncioref03_Encode.l0 k2 a0 (x3_1 ++ y114) (wrap64 (x4_1 + 3))) else (none))) else (none)) else (none))))) = some r := H
              have A8 := Aside0.mk A80
              clear A80
              replace H := Option.bind_eq_some_iff.mp H
              obtain ⟨t109, A90, H⟩ := H
              replace H : ((nuncioref03_sign.f (Int.tmod x5_2 64)).bind fun t110 => ((some (([t107, t108, t109, t110] : List Int) : List Int)).bind fun y111 => (if 0 ≤ (wrap64 (x6_2 + 1)) then (if (wrap64 (x6_2 + 1)) ≤ (y111.length : Int) then ((some (y111.take ((wrap64 (x6_2 + 1)) : Int).toNat : List Int)).bind fun y114 => (if x3_1.length + y114.length < 140737488355328 then (nuncioref03_Encode.l0 k2 a0 (x3_1 ++ y114) (wrap64 (x4_1 + 3))) else (none))) else (none)) else (none)))) = some r := H
              have A9 := Aside0.mk A90
              clear A90
              replace H := Option.bind_eq_some_iff.mp H
              obtain ⟨t110, A100, H⟩ := H
              replace H : ((some (([t107, t108, t109, t110] : List Int) : List Int)).bind fun y111 => (if 0 ≤ (wrap64 (x6_2 + 1)) then (if (wrap64 (x6_2 + 1)) ≤ (y111.length : Int) then ((some (y111.take ((wrap64 (x6_2 + 1)) : Int).toNat : List Int)).bind fun y114 => (if x3_1.length + y114.length < 140737488355328 then (nuncioref03_Encode.l0 k2 a0 (x3_1 ++ y114) (wrap64 (x4_1 + 3))) else (none))) else (none)) else (none))) = some r := H
              have A10 := Aside0.mk A100
              clear A100
              obtain ⟨y111, hy111⟩ : ∃ y_ : List Int, y_ = (([t107, t108, t109, t110] : List Int)) := ⟨_, rfl⟩
              replace H : (if 0 ≤ (wrap64 (x6_2 + 1)) then (if (wrap64 (x6_2 + 1)) ≤ (y111.length : Int) then ((some (y111.take ((wrap64 (x6_2 + 1)) : Int).toNat : List Int)).bind fun y114 => (if x3_1.length + y114.length < 140737488355328 then (nuncioref03_Encode.l0 k2 a0 (x3_1 ++ y114) (wrap64 (x4_1 + 3))) else (none))) else (none)) else (none)) = some r := by first | (rw [hy111]; with_reducible exact H) | (have H2_ := (Option.bind_some _ _).symm.trans H; rw [hy111]; with_reducible exact H2_) | (have H2_ := (Option.bind_some _ _).symm.trans H; with_reducible exact H2_) | with_reducible exact H | (rw [hy111]; exact H) | exact H
              have Ny111 := Aside0.mk hy111
              clear hy111
              obtain ⟨ji11, hji11⟩ : ∃ j_ : Int, (wrap64 (x6_2 + 1)) = j_ := ⟨_, rfl⟩
              replace H : (if 0 ≤ (ji11) then (if (ji11) ≤ (y111.length : Int) then ((some (y111.take ((ji11) : Int).toNat : List Int)).bind fun y114 => (if x3_1.length + y114.length < 140737488355328 then (nuncioref03_Encode.l0 k2 a0 (x3_1 ++ y114) (wrap64 (x4_1 + 3))) else (none))) else (none)) else (none)) = some r := by first | (rw [hji11] at H; exact H) | (simp only [hji11] at H ⊢; exact H)
              (try rw [hji11] at A7)
              (try rw [hji11] at A8)
              (try rw [hji11] at A9)
              (try rw [hji11] at A10)
              have hji11w : (IntKind.i64.wrap (x6_2 + 1)) = ji11 := (i64_w _).trans hji11
              by_cases c12 : 0 ≤ (ji11)
              · rw [if_pos c12] at H
                have c12b0 := eq_true c12
                have c12b1 : decide (0 ≤ (ji11)) = true := decide_eq_true c12
                clear c12
                by_cases c13 : (ji11) ≤ (y111.length : Int)
                · rw [if_pos c13] at H
                  have c13b0 := eq_true c13
                  have c13b1 : decide ((ji11) ≤ (y111.length : Int)) = true := decide_eq_true c13
                  clear c13
                  obtain ⟨y114, hy114⟩ : ∃ y_ : List Int, y_ = (y111.take ((ji11) : Int).toNat) := ⟨_, rfl⟩
                  replace H : (if x3_1.length + y114.length < 140737488355328 then (nuncioref03_Encode.l0 k2 a0 (x3_1 ++ y114) (wrap64 (x4_1 + 3))) else (none)) = some r := by first | (rw [hy114]; with_reducible exact H) | (have H2_ := (Option.bind_some _ _).symm.trans H; rw [hy114]; with_reducible exact H2_) | (have H2_ := (Option.bind_some _ _).symm.trans H; with_reducible exact H2_) | with_reducible exact H | (rw [hy114]; exact H) | exact H
                  have Ny114 := Aside0.mk hy114
                  clear hy114
                  by_cases c14 : x3_1.length + y114.length < 140737488355328
                  · rw [if_pos c14] at H
                    have LMc14 := Aside0.mk c14
                    clear c14
                    obtain ⟨y118, hy118⟩ : ∃ y_ : List Int, y_ = (x3_1 ++ y114) := ⟨_, rfl⟩
                    replace H : (nuncioref03_Encode.l0 k2 a0 y118 (wrap64 (x4_1 + 3))) = some r := by first | (rw [hy118]; with_reducible exact H) | (have H2_ := (Option.bind_some _ _).symm.trans H; rw [hy118]; with_reducible exact H2_) | (have H2_ := (Option.bind_some _ _).symm.trans H; with_reducible exact H2_) | with_reducible exact H | (rw [hy118]; exact H) | exact H
                    have Ny118 := Aside0.mk hy118
                    clear hy118
                    have H' := Aside0.mk H
                    clear H
                    go_wp2_with (first | ((with_reducible refine gate_callee (f := 35) rfl ?_); refine goesL_ (some 38) rfl rfl Try.func35 (by kernel_rfl) rfl #[.int .i64 (wrap64 (Int.tdiv x5_2 262144))] rfl (by (try simp only [List.map_toArray, List.map_cons, List.map_nil]); first | done | rfl | (simp only [List.length_drop, List.length_take]; rfl)) ?_; (with_reducible refine (nuncioref03_sign.calls (wrap64 (Int.tdiv x5_2 262144)) t107 _ A7.out).mono ?_); rintro e w' ⟨rfl, ⟨nd, rfl⟩⟩; refine ⟨_, rfl, ?_⟩) | ((with_reducible refine gate_callee (f := 35) rfl ?_); refine goesL_ (some 42) rfl rfl Try.func35 (by kernel_rfl) rfl #[.int .i64 (Int.tmod (wrap64 (Int.tdiv x5_2 4096)) 64)] rfl (by (try simp only [List.map_toArray, List.map_cons, List.map_nil]); first | done | rfl | (simp only [List.length_drop, List.length_take]; rfl)) ?_; (with_reducible refine (nuncioref03_sign.calls (Int.tmod (wrap64 (Int.tdiv x5_2 4096)) 64) t108 _ A8.out).mono ?_); rintro e w' ⟨rfl, ⟨nd, rfl⟩⟩; refine ⟨_, rfl, ?_⟩) | ((with_reducible refine gate_callee (f := 35) rfl ?_); refine goesL_ (some 46) rfl rfl Try.func35 (by kernel_rfl) rfl #[.int .i64 (Int.tmod (wrap64 (Int.tdiv x5_2 64)) 64)] rfl (by (try simp only [List.map_toArray, List.map_cons, List.map_nil]); first | done | rfl | (simp only [List.length_drop, List.length_take]; rfl)) ?_; (with_reducible refine (nuncioref03_sign.calls (Int.tmod (wrap64 (Int.tdiv x5_2 64)) 64) t109 _ A9.out).mono ?_); rintro e w' ⟨rfl, ⟨nd, rfl⟩⟩; refine ⟨_, rfl, ?_⟩) | ((with_reducible refine gate_callee (f := 35) rfl ?_); refine goesL_ (some 49) rfl rfl Try.func35 (by kernel_rfl) rfl #[.int .i64 (Int.tmod x5_2 64)] rfl (by (try simp only [List.map_toArray, List.map_cons, List.map_nil]); first | done | rfl | (simp only [List.length_drop, List.length_take]; rfl)) ?_; (with_reducible refine (nuncioref03_sign.calls (Int.tmod x5_2 64) t110 _ A10.out).mono ?_); rintro e w' ⟨rfl, ⟨nd, rfl⟩⟩; refine ⟨_, rfl, ?_⟩) | ((with_reducible refine gate_dst (N := 50) rfl ?_); refine Kd.R_lit (Kd.int .u8) _ 5 ?hg (N := 50) ?hd (xs := ([t107, t108, t109, t110] : List Int)) (inner := [.int .u8 t107, .int .u8 t108, .int .u8 t109, .int .u8 t110]) (ok := fun _ => True) (okp := fun _ => True) ?hr ?hp (fun _ hk => hk) trivial (Below.refl _ _) (Nat.le_refl _) (by simp) ?_; (case hd => rfl); (case hg => rfl); (case hr => first | (go_simp; done) | (go_simp; rfl)); (case hp => exact (Reps.one (show Kd.M (Kd.int .u8) _ _ _ t107 [.int .u8 t107] from rfl) (Reps.one (show Kd.M (Kd.int .u8) _ _ _ t108 [.int .u8 t108] from rfl) (Reps.one (show Kd.M (Kd.int .u8) _ _ _ t109 [.int .u8 t109] from rfl) (Reps.one (show Kd.M (Kd.int .u8) _ _ _ t110 [.int .u8 t110] from rfl) (Reps.none _ _)))))); intro v112 w15 ho16 hb hg_ hnew_; clear hg_ hnew_; (first | rw [← Ny111.out] at ho16 | (simp only [Int.reduceToNat] at ho16; rw [← Ny111.out] at ho16)); have n0_ := Aside0.mk (Kd.R_elder' (by (with_reducible repeat (first | apply Kd.R_alloc | apply Kd.R_drewN | apply Kd.R_drew)); exact HO_3.out) (Kd.R_base ho16) hb); have n1_ := Aside0.mk (Kd.R_lower (Kd.R_new' ho16 (Kd.R_lt (by (with_reducible repeat (first | apply Kd.R_alloc | apply Kd.R_drewN | apply Kd.R_drew)); exact HO_3.out))) (below_size (by repeat (first | (with_reducible first | exact HB.out | apply below_alloc | apply pw_below_drewN | apply below_drew1) | exact HB.out)))); have n2_ := Aside0.mk (below_step (by repeat (first | (with_reducible first | exact HB.out | apply below_alloc | apply pw_below_drewN | apply below_drew1) | exact HB.out)) hb); clear HO_3; clear HB; have HO_3 := n0_; have HO113 := n1_; have HB := n2_; clear n0_ n1_ n2_; clear hb ho16; obtain ⟨Ao18, co18, eo18⟩ := Kd.R_slice HO113.out; subst eo18; have q17 : ((ji11) : Int) ≤ ((y111.length : Int) : Int) := of_decide_eq_true (by first | (with_reducible assumption) | assumption); obtain ⟨i017, hi017, _, hsz17, _⟩ := info_parts info5; have hroom17 : y111.length ≤ co18 := (Kd.R_reads' HO113.out).2.1; have hC17 : Kd.C (Kd.int .u8) _ Ao18 y111.length y111 := (Kd.R_reads' HO113.out).2.2; have hcut17 := cut_to (P := Try.prog) 48 5 .i64 Try.underlying48 hi017 Ao18 y111.length co18 (ji11) (of_decide_eq_true (by first | (with_reducible assumption) | assumption)) q17 hroom17; have hr17 := Kd.C_take (m := ((ji11) : Int).toNat) hC17 (by omega); have hy17 : y114.length = ((ji11) : Int).toNat := (by rw [Ny114.out, List.length_take]; omega); rw [← Ny114.out] at hr17; rw [← hy17] at hcut17; have HR117 := Aside0.mk hr17; have HC117 := Aside0.mk (show y114.length ≤ co18 from by omega); clear hr17 hC17 hroom17 hi017 hsz17; have KY17 := Aside0.mk hy17; clear hy17; have KL17 := Aside0.mk (show ((ji11) : Int).toNat ≤ y111.length from by omega); replace q17 := eq_true q17) | ((with_reducible refine gate_builtin (b := .append) (xs := #[.tmp 51, .tmp 55]) rfl ?_); at_builtin; refine Kd.R_append_rows (Kd.int .u8) (w0 := w) w.heap.size rfl (.tmp 51) (.tmp 55) 48 5 (.int .u8 0) 1 rfl Try.underlying48 info5 rfl (by decide) (by omega) u3 x3_1 y114 _ _ _ (fun k_ => some k_ ≠ (.slice Ao18 y111.length co18 : Value).ownBlock) (fun _ => False) rfl rfl ?aO ?aR (fun _ _ h => h) (fun _ h => h.elim) ?aF ?aB ?aS ?aL ?_; (case aR => repeat (first | exact (by repeat (first | (with_reducible exact HR117.out) | (with_reducible refine Kd.C_alloc ?_ _) | (with_reducible refine Kd.C_drewN ?_ _) | (with_reducible refine Kd.C_drew ?_) | exact HR117.out)) | (with_reducible refine Kd.C_alloc ?_ _) | (with_reducible refine Kd.C_drewN ?_ _) | (with_reducible refine Kd.C_drew ?_))); (case aB => exact (by repeat (first | (with_reducible first | exact HB.out | apply below_alloc | apply pw_below_drewN | apply below_drew1) | exact HB.out))); (case aF => exact (fun k_ hk => Kd.fresh' (Kd.R_lt (by (with_reducible repeat (first | apply Kd.R_alloc | apply Kd.R_drewN | apply Kd.R_drew)); exact HO113.out)) k_ hk)); (case aO => exact (by (with_reducible repeat (first | apply Kd.R_alloc | apply Kd.R_drewN | apply Kd.R_drew)); exact Kd.R_mono HO_3.out (fun _ hk => hk.2))); (case aS => exact (below_size (by repeat (first | (with_reducible first | exact HB.out | apply below_alloc | apply pw_below_drewN | apply below_drew1) | exact HB.out)))); (case aL => have := LMc14.out; omega); intro v119 w19 ho hb hg hat; rw [← Ny118.out] at ho; have n0_ := Aside0.mk (Kd.R_after (ok := (fun _ => True)) (by (with_reducible repeat (first | apply Kd.R_alloc | apply Kd.R_drewN | apply Kd.R_drew)); exact HO113.out) hg hat); have n1_ := Aside0.mk (hb); have n2_ := Aside0.mk ((show Kd.C (Kd.int .u8) w19 Ao18 y114.length y114 from by rw [Ny114.out]; exact Kd.C_take (m := ((ji11) : Int).toNat) ((Kd.R_reads' (Kd.R_after (ok := (fun _ => True)) (by (with_reducible repeat (first | apply Kd.R_alloc | apply Kd.R_drewN | apply Kd.R_drew)); exact HO113.out) hg hat)).2.2) KL17.out)); have n3_ := Aside0.mk (ho); clear HO113; clear HB; clear HR117; clear HO_3; have HO113 := n0_; have HB := n1_; have HR117 := n2_; have HO120 := n3_; clear n0_ n1_ n2_ n3_; clear ho hb hg hat))
                    go_roundg k2
                    case measure => have := HK1.out; have := HK2.out; omega
                    case rel => exact ⟨(y118), (wrap64 (x4_1 + 3)), (by first | rfl | (simp; done) | (simp [*]; done)), H', ⟨by have := HK1.out; have := HK2.out; omega⟩, ⟨by (with_reducible repeat (first | apply Kd.R_alloc | apply Kd.R_drewN | apply Kd.R_drew)); exact Kd.R_mono HO120.out (fun _ hk => trivial)⟩, ⟨by repeat (first | (with_reducible first | exact HB.out | apply below_alloc | apply pw_below_drewN | apply below_drew1) | exact HB.out)⟩⟩
                  · rw [if_neg c14] at H
                    exact absurd H (by simp)
                · rw [if_neg c13] at H
                  exact absurd H (by simp)
              · rw [if_neg c12] at H
                exact absurd H (by simp)
      · rw [if_neg c2] at H
        have c2b0 : decide (x4_1 < (a0.size : Int)) = false := decide_eq_false c2
        clear c2
        obtain rfl := Option.some.inj H
        have hcv20 := own_string (P := Try.prog) Try.underlying48 Try.underlying5 Try.underlying9 (Kd.own_of_R HO_3.out)
        go_wp2
        go_ret
        exact ⟨by first | rfl | (simp [errW_none, errW_some] <;> rfl) | (simp [*, errW_none, errW_some] <;> rfl), by repeat (first | (with_reducible first | exact HB.out | apply below_alloc | apply pw_below_drewN | apply below_drew1) | exact HB.out)⟩
mutual
def nuncioref03_Decode.l0 : Nat → ByteArray → List Int → Int → Option (ByteArray × Bool)
  | 0, _, _, _ => none
  | k + 1, x0, x4, x5 => if x5 < (x0.size : Int) then (nuncioref03_Decode.l1 k x0 x4 x5 0 0 x5) else ((nuncioref03_Encode.f k (strOfNums x4)).bind fun t121 => (if t121.toList = x0.toList then (some (strOfNums x4, true)) else (some ((⟨#[]⟩ : ByteArray), false))))
def nuncioref03_Decode.l1 : Nat → ByteArray → List Int → Int → Int → Int → Int → Option (ByteArray × Bool)
  | 0, _, _, _, _, _, _ => none
  | k + 1, x0, x4, x5, x6, x7, x8 => if x8 < (wrap64 (x5 + 4)) then (if x8 < (x0.size : Int) then (if 0 ≤ x8 then ((nuncioref03_number.f k (bt x0 x8)).bind fun t132 => (if t132 < 0 then (some ((⟨#[]⟩ : ByteArray), false)) else ((nuncioref03_number.f k (bt x0 x8)).bind fun t133 => (nuncioref03_Decode.l1 k x0 x4 x5 (wrap64 ((wrap64 (x6 * 64)) + t133)) (wrap64 (x7 + 1)) (wrap64 (x8 + 1)))))) else (none)) else (nuncioref03_Decode.l1 k x0 x4 x5 (wrap64 (x6 * 64)) x7 (wrap64 (x8 + 1)))) else ((some (([(wrap64 (Int.tdiv x6 65536)) % 256, (wrap64 (Int.tdiv x6 256)) % 256, (x6) % 256] : List Int) : List Int)).bind fun y122 => (if x7 < 2 then (some ((⟨#[]⟩ : ByteArray), false)) else (if 0 ≤ (wrap64 (x7 - 1)) then (if (wrap64 (x7 - 1)) ≤ (y122.length : Int) then ((some (y122.take ((wrap64 (x7 - 1)) : Int).toNat : List Int)).bind fun y125 => (if x4.length + y125.length < 140737488355328 then (nuncioref03_Decode.l0 k x0 (x4 ++ y125) (wrap64 (x5 + 4))) else (none))) else (none)) else (none))))
end
def nuncioref03_Decode.f (k : Nat) (a0 : ByteArray) : Option (ByteArray × Bool) := nuncioref03_Decode.l0 k a0 ([] : List Int) 0
theorem nuncioref03_Decode.mono_l : ∀ k, (∀ y0 y1 y2, LeO (nuncioref03_Decode.l0 k y0 y1 y2) (nuncioref03_Decode.l0 (k + 1) y0 y1 y2)) ∧ (∀ y0 y1 y2 y3 y4 y5, LeO (nuncioref03_Decode.l1 k y0 y1 y2 y3 y4 y5) (nuncioref03_Decode.l1 (k + 1) y0 y1 y2 y3 y4 y5))
  | 0 => ⟨fun _ _ _ r h => by simp [nuncioref03_Decode.l0] at h, fun _ _ _ _ _ _ r h => by simp [nuncioref03_Decode.l1] at h⟩
  | k + 1 => by
    obtain ⟨ih0, ih1⟩ := nuncioref03_Decode.mono_l k
    refine ⟨?_, ?_⟩
    · intro y0 y1 y2
      unfold nuncioref03_Decode.l0
      repeat' first
      | (with_reducible exact ih0 _ _ _)
      | (with_reducible exact ih1 _ _ _ _ _ _)
      | (with_reducible exact nuncioref03_Encode.mono _ _)
      | (with_reducible exact nuncioref03_number.mono _ _)
      | (with_reducible exact LeO.refl _)
      | (with_reducible exact LeO.none _)
      | (with_reducible refine LeO.ite ?_ ?_)
      | (with_reducible refine LeO.bind ?_ (fun _ => ?_))
      | exact ih0 _ _ _
      | exact ih1 _ _ _ _ _ _
      | exact nuncioref03_Encode.mono _ _
      | exact nuncioref03_number.mono _ _
      | exact LeO.none _
      | refine LeO.ite ?_ ?_
      | refine LeO.bind ?_ (fun _ => ?_)
    · intro y0 y1 y2 y3 y4 y5
      unfold nuncioref03_Decode.l1
      repeat' first
      | (with_reducible exact ih0 _ _ _)
      | (with_reducible exact ih1 _ _ _ _ _ _)
      | (with_reducible exact nuncioref03_Encode.mono _ _)
      | (with_reducible exact nuncioref03_number.mono _ _)
      | (with_reducible exact LeO.refl _)
      | (with_reducible exact LeO.none _)
      | (with_reducible refine LeO.ite ?_ ?_)
      | (with_reducible refine LeO.bind ?_ (fun _ => ?_))
      | exact ih0 _ _ _
      | exact ih1 _ _ _ _ _ _
      | exact nuncioref03_Encode.mono _ _
      | exact nuncioref03_number.mono _ _
      | exact LeO.none _
      | refine LeO.ite ?_ ?_
      | refine LeO.bind ?_ (fun _ => ?_)
theorem nuncioref03_Decode.mono : ∀ a0 k, LeO (nuncioref03_Decode.f k a0) (nuncioref03_Decode.f (k + 1) a0) := by
  intro a0 k
  obtain ⟨ih0, ih1⟩ := nuncioref03_Decode.mono_l k
  unfold nuncioref03_Decode.f
  repeat' first
      | (with_reducible exact ih0 _ _ _)
      | (with_reducible exact ih1 _ _ _ _ _ _)
      | (with_reducible exact nuncioref03_Encode.mono _ _)
      | (with_reducible exact nuncioref03_number.mono _ _)
      | (with_reducible exact LeO.refl _)
      | (with_reducible exact LeO.none _)
      | (with_reducible refine LeO.ite ?_ ?_)
      | (with_reducible refine LeO.bind ?_ (fun _ => ?_))
      | exact ih0 _ _ _
      | exact ih1 _ _ _ _ _ _
      | exact nuncioref03_Encode.mono _ _
      | exact nuncioref03_number.mono _ _
      | exact LeO.none _
      | refine LeO.ite ?_ ?_
      | refine LeO.bind ?_ (fun _ => ?_)
set_option maxHeartbeats 8000000 in
set_option maxRecDepth 100000 in
theorem nuncioref03_Decode.calls (k : Nat) (a0 : ByteArray) (r1 : ByteArray) (r2 : Bool) (w : World) (h : nuncioref03_Decode.f k a0 = some (r1, r2)) :
    Calls Try.prog 25 #[.string a0] w fun e w' => e = .returned (.tuple #[.string r1, .bool r2]) ∧ Below w.heap.size w w' := by
  have HB := Aside0.mk (Below.refl w.heap.size w)
  have H : (nuncioref03_Decode.l0 k a0 ([] : List Int) 0) = some (r1, r2) := h
  clear h
  have H' := Aside0.mk H
  clear H
  go_enter Try.func25, Try.ntmps25
  go_wp2
  go_loopg [4, 5] k (fun kq v4 v5 w' => ∃ (x4_1 : List Int) (x5_1 : Int), v5 = .int .i64 x5_1 ∧ Aside0 (nuncioref03_Decode.l0 kq a0 x4_1 x5_1 = some (r1, r2)) ∧ Aside0 (kq ≤ k) ∧ Aside0 (Kd.R (Kd.int .u8) 5 w' w.heap.size (fun _ => True) v4 x4_1) ∧ Aside0 (Below w.heap.size w w'))
  case atStart => exact ⟨(([] : List Int)), (0), (by first | rfl | (simp; done) | (simp [*]; done)), H', ⟨Nat.le_refl _⟩, ⟨by first | exact Kd.R_nil _ _ _ _ _ | exact Kd.N_nil _ _ _ _ _ | exact Kd.V_nil _ _ _ _ _ | exact Kd.Q_nil _ _ _ _ _ | exact Kd.S_nil _ _ _ _ _⟩, ⟨by repeat (first | (with_reducible first | exact HB.out | apply below_alloc | apply pw_below_drewN | apply below_drew1) | exact HB.out)⟩⟩
  case round =>
    clear H'
    try clear c1
    obtain ⟨x4_1, x5_1, rfl, HA, HK1, HO_4, HB⟩ := hrel
    cases gk with
    | zero => exact absurd HA.out (by simp [nuncioref03_Decode.l0])
    | succ k1 =>
      have H := HA.out
      clear HA
      simp only [nuncioref03_Decode.l0] at H
      by_cases c2 : x5_1 < (a0.size : Int)
      · rw [if_pos c2] at H
        have c2b0 : decide (x5_1 < (a0.size : Int)) = true := decide_eq_true c2
        clear c2
        have H' := Aside0.mk H
        clear H
        go_wp2
        go_loopg [6, 7, 8] k1 (fun kq v6 v7 v8 w' => ∃ (x6_2 : Int) (x7_2 : Int) (x8_2 : Int), v6 = .int .i64 x6_2 ∧ v7 = .int .i64 x7_2 ∧ v8 = .int .i64 x8_2 ∧ Aside0 (nuncioref03_Decode.l1 kq a0 x4_1 x5_1 x6_2 x7_2 x8_2 = some (r1, r2)) ∧ Aside0 (kq ≤ k1) ∧ Aside0 (Kd.R (Kd.int .u8) 5 w' w.heap.size (fun _ => True) u4 x4_1) ∧ Aside0 (Below w.heap.size w w'))
        case atStart => exact ⟨(0), (0), (x5_1), (by first | rfl | (simp; done) | (simp [*]; done)), (by first | rfl | (simp; done) | (simp [*]; done)), (by first | rfl | (simp; done) | (simp [*]; done)), H', ⟨Nat.le_refl _⟩, ⟨by (with_reducible repeat (first | apply Kd.R_alloc | apply Kd.R_drewN | apply Kd.R_drew)); exact HO_4.out⟩, ⟨by repeat (first | (with_reducible first | exact HB.out | apply below_alloc | apply pw_below_drewN | apply below_drew1) | exact HB.out)⟩⟩
        case round =>
          clear H'
          try clear c1
          try clear c2
          try clear c2b0
          try clear p2
          obtain ⟨x6_2, x7_2, x8_2, rfl, rfl, rfl, HA, HK2, HO_4, HB⟩ := hrel
          cases gk with
          | zero => exact absurd HA.out (by simp [nuncioref03_Decode.l1])
          | succ k2 =>
            have H := HA.out
            clear HA
            simp only [nuncioref03_Decode.l1] at H
            by_cases c3 : x8_2 < (wrap64 (x5_1 + 4))
            · rw [if_pos c3] at H
              have c3b0 : decide (x8_2 < (wrap64 (x5_1 + 4))) = true := decide_eq_true c3
              clear c3
              by_cases c4 : x8_2 < (a0.size : Int)
              · rw [if_pos c4] at H
                have c4b0 : decide (x8_2 < (a0.size : Int)) = true := decide_eq_true c4
                clear c4
                by_cases c5 : 0 ≤ x8_2
                · rw [if_pos c5] at H
                  have c5b0 : decide (0 ≤ x8_2) = true := decide_eq_true c5
                  clear c5
                  replace H := Option.bind_eq_some_iff.mp H
                  obtain ⟨t132, A70, H⟩ := H
                  replace H : (if t132 < 0 then (some ((⟨#[]⟩ : ByteArray), false)) else ((nuncioref03_number.f k2 (bt a0 x8_2)).bind fun t133 => (nuncioref03_Decode.l1 k2 a0 x4_1 x5_1 (wrap64 ((wrap64 (x6_2 * 64)) + t133)) (wrap64 (x7_2 + 1)) (wrap64 (x8_2 + 1))))) = some (r1, r2) := H
                  have A7 := Aside0.mk A70
                  clear A70
                  by_cases c8 : t132 < 0
                  · rw [if_pos c8] at H
                    have c8b0 : decide (t132 < 0) = true := decide_eq_true c8
                    clear c8
                    simp only [Option.some.injEq, Prod.mk.injEq] at H
                    obtain ⟨rfl, rfl⟩ := H
                    have p6 : 0 ≤ (x8_2 : Int) := of_decide_eq_true (by first | (with_reducible assumption) | assumption)
                    have q6 : x8_2 < (a0.size : Int) := of_decide_eq_true (by first | (with_reducible assumption) | assumption)
                    have hx6 := bt_at a0 x8_2
                    replace p6 := eq_true p6
                    replace q6 := eq_true q6
                    go_wp2_with (first | ((with_reducible refine gate_callee (f := 37) rfl ?_); refine goesL_ (some 32) rfl rfl Try.func37 (by kernel_rfl) rfl #[.int .u8 (bt a0 x8_2)] rfl (by (try simp only [List.map_toArray, List.map_cons, List.map_nil]); first | done | rfl | (simp only [List.length_drop, List.length_take]; rfl)) ?_; (with_reducible refine (nuncioref03_number.calls k2 (bt a0 x8_2) t132 _ A7.out).mono ?_); rintro e w' ⟨rfl, ⟨nd, rfl⟩⟩; refine ⟨_, rfl, ?_⟩))
                    go_ret2
                    exact ⟨by first | rfl | (simp [errW_none, errW_some] <;> rfl) | (simp [*, errW_none, errW_some] <;> rfl), by repeat (first | (with_reducible first | exact HB.out | apply below_alloc | apply pw_below_drewN | apply below_drew1) | exact HB.out)⟩
                  · rw [if_neg c8] at H
                    have c8b0 : decide (t132 < 0) = false := decide_eq_false c8
                    clear c8
                    replace H := Option.bind_eq_some_iff.mp H
                    obtain ⟨t133, A100, H⟩ := H
                    replace H : (nuncioref03_Decode.l1 k2 a0 x4_1 x5_1 (wrap64 ((wrap64 (x6_2 * 64)) + t133)) (wrap64 (x7_2 + 1)) (wrap64 (x8_2 + 1))) = some (r1, r2) := H
                    have A10 := Aside0.mk A100
                    clear A100
                    have H' := Aside0.mk H
                    clear H
                    have p6 : 0 ≤ (x8_2 : Int) := of_decide_eq_true (by first | (with_reducible assumption) | assumption)
                    have q6 : x8_2 < (a0.size : Int) := of_decide_eq_true (by first | (with_reducible assumption) | assumption)
                    have hx6 := bt_at a0 x8_2
                    replace p6 := eq_true p6
                    replace q6 := eq_true q6
                    go_wp2_with (first | ((with_reducible refine gate_callee (f := 37) rfl ?_); refine goesL_ (some 32) rfl rfl Try.func37 (by kernel_rfl) rfl #[.int .u8 (bt a0 x8_2)] rfl (by (try simp only [List.map_toArray, List.map_cons, List.map_nil]); first | done | rfl | (simp only [List.length_drop, List.length_take]; rfl)) ?_; (with_reducible refine (nuncioref03_number.calls k2 (bt a0 x8_2) t132 _ A7.out).mono ?_); rintro e w' ⟨rfl, ⟨nd, rfl⟩⟩; refine ⟨_, rfl, ?_⟩; have p9 : 0 ≤ (x8_2 : Int) := of_decide_eq_true (by first | (with_reducible assumption) | assumption); have q9 : x8_2 < (a0.size : Int) := of_decide_eq_true (by first | (with_reducible assumption) | assumption); have hx9 := bt_at a0 x8_2; replace p9 := eq_true p9; replace q9 := eq_true q9) | ((with_reducible refine gate_callee (f := 37) rfl ?_); refine goesL_ (some 38) rfl rfl Try.func37 (by kernel_rfl) rfl #[.int .u8 (bt a0 x8_2)] rfl (by (try simp only [List.map_toArray, List.map_cons, List.map_nil]); first | done | rfl | (simp only [List.length_drop, List.length_take]; rfl)) ?_; (with_reducible refine (nuncioref03_number.calls k2 (bt a0 x8_2) t133 _ A10.out).mono ?_); rintro e w' ⟨rfl, ⟨nd, rfl⟩⟩; refine ⟨_, rfl, ?_⟩))
                    go_roundg k2
                    case measure => have := HK1.out; have := HK2.out; omega
                    case rel => exact ⟨(wrap64 ((wrap64 (x6_2 * 64)) + t133)), (wrap64 (x7_2 + 1)), (wrap64 (x8_2 + 1)), (by first | rfl | (simp; done) | (simp [*]; done)), (by first | rfl | (simp; done) | (simp [*]; done)), (by first | rfl | (simp; done) | (simp [*]; done)), H', ⟨by have := HK1.out; have := HK2.out; omega⟩, ⟨by (with_reducible repeat (first | apply Kd.R_alloc | apply Kd.R_drewN | apply Kd.R_drew)); exact HO_4.out⟩, ⟨by repeat (first | (with_reducible first | exact HB.out | apply below_alloc | apply pw_below_drewN | apply below_drew1) | exact HB.out)⟩⟩
                · rw [if_neg c5] at H
                  exact absurd H (by simp)
              · rw [if_neg c4] at H
                have c4b0 : decide (x8_2 < (a0.size : Int)) = false := decide_eq_false c4
                clear c4
                have H' := Aside0.mk H
                clear H
                go_wp2
                go_roundg k2
                case measure => have := HK1.out; have := HK2.out; omega
                case rel => exact ⟨(wrap64 (x6_2 * 64)), (x7_2), (wrap64 (x8_2 + 1)), (by first | rfl | (simp; done) | (simp [*]; done)), (by first | rfl | (simp; done) | (simp [*]; done)), (by first | rfl | (simp; done) | (simp [*]; done)), H', ⟨by have := HK1.out; have := HK2.out; omega⟩, ⟨by (with_reducible repeat (first | apply Kd.R_alloc | apply Kd.R_drewN | apply Kd.R_drew)); exact HO_4.out⟩, ⟨by repeat (first | (with_reducible first | exact HB.out | apply below_alloc | apply pw_below_drewN | apply below_drew1) | exact HB.out)⟩⟩
            · rw [if_neg c3] at H
              have c3b0 : decide (x8_2 < (wrap64 (x5_1 + 4))) = false := decide_eq_false c3
              clear c3
              obtain ⟨y122, hy122⟩ : ∃ y_ : List Int, y_ = (([(wrap64 (Int.tdiv x6_2 65536)) % 256, (wrap64 (Int.tdiv x6_2 256)) % 256, (x6_2) % 256] : List Int)) := ⟨_, rfl⟩
              replace H : (if x7_2 < 2 then (some ((⟨#[]⟩ : ByteArray), false)) else (if 0 ≤ (wrap64 (x7_2 - 1)) then (if (wrap64 (x7_2 - 1)) ≤ (y122.length : Int) then ((some (y122.take ((wrap64 (x7_2 - 1)) : Int).toNat : List Int)).bind fun y125 => (if x4_1.length + y125.length < 140737488355328 then (nuncioref03_Decode.l0 k2 a0 (x4_1 ++ y125) (wrap64 (x5_1 + 4))) else (none))) else (none)) else (none))) = some (r1, r2) := by first | (rw [hy122]; with_reducible exact H) | (have H2_ := (Option.bind_some _ _).symm.trans H; rw [hy122]; with_reducible exact H2_) | (have H2_ := (Option.bind_some _ _).symm.trans H; with_reducible exact H2_) | with_reducible exact H | (rw [hy122]; exact H) | exact H
              have Ny122 := Aside0.mk hy122
              clear hy122
              by_cases c11 : x7_2 < 2
              · rw [if_pos c11] at H
                have c11b0 : decide (x7_2 < 2) = true := decide_eq_true c11
                clear c11
                simp only [Option.some.injEq, Prod.mk.injEq] at H
                obtain ⟨rfl, rfl⟩ := H
                go_wp2_with (first | ((with_reducible refine gate_dst (N := 50) rfl ?_); refine Kd.R_lit (Kd.int .u8) _ 5 ?hg (N := 50) ?hd (xs := ([(wrap64 (Int.tdiv x6_2 65536)) % 256, (wrap64 (Int.tdiv x6_2 256)) % 256, (x6_2) % 256] : List Int)) (inner := [.int .u8 ((wrap64 (Int.tdiv x6_2 65536)) % 256), .int .u8 ((wrap64 (Int.tdiv x6_2 256)) % 256), .int .u8 ((x6_2) % 256)]) (ok := fun _ => True) (okp := fun _ => True) ?hr ?hp (fun _ hk => hk) trivial (Below.refl _ _) (Nat.le_refl _) (by simp) ?_; (case hd => rfl); (case hg => rfl); (case hr => first | (go_simp; done) | (go_simp; rfl)); (case hp => exact (Reps.one (show Kd.M (Kd.int .u8) _ _ _ ((wrap64 (Int.tdiv x6_2 65536)) % 256) [.int .u8 ((wrap64 (Int.tdiv x6_2 65536)) % 256)] from rfl) (Reps.one (show Kd.M (Kd.int .u8) _ _ _ ((wrap64 (Int.tdiv x6_2 256)) % 256) [.int .u8 ((wrap64 (Int.tdiv x6_2 256)) % 256)] from rfl) (Reps.one (show Kd.M (Kd.int .u8) _ _ _ ((x6_2) % 256) [.int .u8 ((x6_2) % 256)] from rfl) (Reps.none _ _))))); intro v123 w12 ho13 hb hg_ hnew_; clear hg_ hnew_; (first | rw [← Ny122.out] at ho13 | (simp only [Int.reduceToNat] at ho13; rw [← Ny122.out] at ho13)); have n0_ := Aside0.mk (Kd.R_elder' (by (with_reducible repeat (first | apply Kd.R_alloc | apply Kd.R_drewN | apply Kd.R_drew)); exact HO_4.out) (Kd.R_base ho13) hb); have n1_ := Aside0.mk (Kd.R_lower (Kd.R_new' ho13 (Kd.R_lt (by (with_reducible repeat (first | apply Kd.R_alloc | apply Kd.R_drewN | apply Kd.R_drew)); exact HO_4.out))) (below_size (by repeat (first | (with_reducible first | exact HB.out | apply below_alloc | apply pw_below_drewN | apply below_drew1) | exact HB.out)))); have n2_ := Aside0.mk (below_step (by repeat (first | (with_reducible first | exact HB.out | apply below_alloc | apply pw_below_drewN | apply below_drew1) | exact HB.out)) hb); clear HO_4; clear HB; have HO_4 := n0_; have HO124 := n1_; have HB := n2_; clear n0_ n1_ n2_; clear hb ho13))
                go_ret2
                exact ⟨by first | rfl | (simp [errW_none, errW_some] <;> rfl) | (simp [*, errW_none, errW_some] <;> rfl), by repeat (first | (with_reducible first | exact HB.out | apply below_alloc | apply pw_below_drewN | apply below_drew1) | exact HB.out)⟩
              · rw [if_neg c11] at H
                have c11b0 : decide (x7_2 < 2) = false := decide_eq_false c11
                clear c11
                obtain ⟨ji14, hji14⟩ : ∃ j_ : Int, (wrap64 (x7_2 - 1)) = j_ := ⟨_, rfl⟩
                replace H : (if 0 ≤ (ji14) then (if (ji14) ≤ (y122.length : Int) then ((some (y122.take ((ji14) : Int).toNat : List Int)).bind fun y125 => (if x4_1.length + y125.length < 140737488355328 then (nuncioref03_Decode.l0 k2 a0 (x4_1 ++ y125) (wrap64 (x5_1 + 4))) else (none))) else (none)) else (none)) = some (r1, r2) := by first | (rw [hji14] at H; exact H) | (simp only [hji14] at H ⊢; exact H)
                have hji14w : (IntKind.i64.wrap (x7_2 - 1)) = ji14 := (i64_w _).trans hji14
                by_cases c15 : 0 ≤ (ji14)
                · rw [if_pos c15] at H
                  have c15b0 := eq_true c15
                  have c15b1 : decide (0 ≤ (ji14)) = true := decide_eq_true c15
                  clear c15
                  by_cases c16 : (ji14) ≤ (y122.length : Int)
                  · rw [if_pos c16] at H
                    have c16b0 := eq_true c16
                    have c16b1 : decide ((ji14) ≤ (y122.length : Int)) = true := decide_eq_true c16
                    clear c16
                    obtain ⟨y125, hy125⟩ : ∃ y_ : List Int, y_ = (y122.take ((ji14) : Int).toNat) := ⟨_, rfl⟩
                    replace H : (if x4_1.length + y125.length < 140737488355328 then (nuncioref03_Decode.l0 k2 a0 (x4_1 ++ y125) (wrap64 (x5_1 + 4))) else (none)) = some (r1, r2) := by first | (rw [hy125]; with_reducible exact H) | (have H2_ := (Option.bind_some _ _).symm.trans H; rw [hy125]; with_reducible exact H2_) | (have H2_ := (Option.bind_some _ _).symm.trans H; with_reducible exact H2_) | with_reducible exact H | (rw [hy125]; exact H) | exact H
                    have Ny125 := Aside0.mk hy125
                    clear hy125
                    by_cases c17 : x4_1.length + y125.length < 140737488355328
                    · rw [if_pos c17] at H
                      have LMc17 := Aside0.mk c17
                      clear c17
                      obtain ⟨y129, hy129⟩ : ∃ y_ : List Int, y_ = (x4_1 ++ y125) := ⟨_, rfl⟩
                      replace H : (nuncioref03_Decode.l0 k2 a0 y129 (wrap64 (x5_1 + 4))) = some (r1, r2) := by first | (rw [hy129]; with_reducible exact H) | (have H2_ := (Option.bind_some _ _).symm.trans H; rw [hy129]; with_reducible exact H2_) | (have H2_ := (Option.bind_some _ _).symm.trans H; with_reducible exact H2_) | with_reducible exact H | (rw [hy129]; exact H) | exact H
                      have Ny129 := Aside0.mk hy129
                      clear hy129
                      have H' := Aside0.mk H
                      clear H
                      go_wp2_with (first | ((with_reducible refine gate_dst (N := 50) rfl ?_); refine Kd.R_lit (Kd.int .u8) _ 5 ?hg (N := 50) ?hd (xs := ([(wrap64 (Int.tdiv x6_2 65536)) % 256, (wrap64 (Int.tdiv x6_2 256)) % 256, (x6_2) % 256] : List Int)) (inner := [.int .u8 ((wrap64 (Int.tdiv x6_2 65536)) % 256), .int .u8 ((wrap64 (Int.tdiv x6_2 256)) % 256), .int .u8 ((x6_2) % 256)]) (ok := fun _ => True) (okp := fun _ => True) ?hr ?hp (fun _ hk => hk) trivial (Below.refl _ _) (Nat.le_refl _) (by simp) ?_; (case hd => rfl); (case hg => rfl); (case hr => first | (go_simp; done) | (go_simp; rfl)); (case hp => exact (Reps.one (show Kd.M (Kd.int .u8) _ _ _ ((wrap64 (Int.tdiv x6_2 65536)) % 256) [.int .u8 ((wrap64 (Int.tdiv x6_2 65536)) % 256)] from rfl) (Reps.one (show Kd.M (Kd.int .u8) _ _ _ ((wrap64 (Int.tdiv x6_2 256)) % 256) [.int .u8 ((wrap64 (Int.tdiv x6_2 256)) % 256)] from rfl) (Reps.one (show Kd.M (Kd.int .u8) _ _ _ ((x6_2) % 256) [.int .u8 ((x6_2) % 256)] from rfl) (Reps.none _ _))))); intro v123 w18 ho19 hb hg_ hnew_; clear hg_ hnew_; (first | rw [← Ny122.out] at ho19 | (simp only [Int.reduceToNat] at ho19; rw [← Ny122.out] at ho19)); have n0_ := Aside0.mk (Kd.R_elder' (by (with_reducible repeat (first | apply Kd.R_alloc | apply Kd.R_drewN | apply Kd.R_drew)); exact HO_4.out) (Kd.R_base ho19) hb); have n1_ := Aside0.mk (Kd.R_lower (Kd.R_new' ho19 (Kd.R_lt (by (with_reducible repeat (first | apply Kd.R_alloc | apply Kd.R_drewN | apply Kd.R_drew)); exact HO_4.out))) (below_size (by repeat (first | (with_reducible first | exact HB.out | apply below_alloc | apply pw_below_drewN | apply below_drew1) | exact HB.out)))); have n2_ := Aside0.mk (below_step (by repeat (first | (with_reducible first | exact HB.out | apply below_alloc | apply pw_below_drewN | apply below_drew1) | exact HB.out)) hb); clear HO_4; clear HB; have HO_4 := n0_; have HO124 := n1_; have HB := n2_; clear n0_ n1_ n2_; clear hb ho19; obtain ⟨Ao21, co21, eo21⟩ := Kd.R_slice HO124.out; subst eo21; have q20 : ((ji14) : Int) ≤ ((y122.length : Int) : Int) := of_decide_eq_true (by first | (with_reducible assumption) | assumption); obtain ⟨i020, hi020, _, hsz20, _⟩ := info_parts info5; have hroom20 : y122.length ≤ co21 := (Kd.R_reads' HO124.out).2.1; have hC20 : Kd.C (Kd.int .u8) _ Ao21 y122.length y122 := (Kd.R_reads' HO124.out).2.2; have hcut20 := cut_to (P := Try.prog) 48 5 .i64 Try.underlying48 hi020 Ao21 y122.length co21 (ji14) (of_decide_eq_true (by first | (with_reducible assumption) | assumption)) q20 hroom20; have hr20 := Kd.C_take (m := ((ji14) : Int).toNat) hC20 (by omega); have hy20 : y125.length = ((ji14) : Int).toNat := (by rw [Ny125.out, List.length_take]; omega); rw [← Ny125.out] at hr20; rw [← hy20] at hcut20; have HR128 := Aside0.mk hr20; have HC128 := Aside0.mk (show y125.length ≤ co21 from by omega); clear hr20 hC20 hroom20 hi020 hsz20; have KY20 := Aside0.mk hy20; clear hy20; have KL20 := Aside0.mk (show ((ji14) : Int).toNat ≤ y122.length from by omega); replace q20 := eq_true q20) | ((with_reducible refine gate_builtin (b := .append) (xs := #[.tmp 53, .tmp 57]) rfl ?_); at_builtin; refine Kd.R_append_rows (Kd.int .u8) (w0 := w) w.heap.size rfl (.tmp 53) (.tmp 57) 48 5 (.int .u8 0) 1 rfl Try.underlying48 info5 rfl (by decide) (by omega) u4 x4_1 y125 _ _ _ (fun k_ => some k_ ≠ (.slice Ao21 y122.length co21 : Value).ownBlock) (fun _ => False) rfl rfl ?aO ?aR (fun _ _ h => h) (fun _ h => h.elim) ?aF ?aB ?aS ?aL ?_; (case aR => repeat (first | exact (by repeat (first | (with_reducible exact HR128.out) | (with_reducible refine Kd.C_alloc ?_ _) | (with_reducible refine Kd.C_drewN ?_ _) | (with_reducible refine Kd.C_drew ?_) | exact HR128.out)) | (with_reducible refine Kd.C_alloc ?_ _) | (with_reducible refine Kd.C_drewN ?_ _) | (with_reducible refine Kd.C_drew ?_))); (case aB => exact (by repeat (first | (with_reducible first | exact HB.out | apply below_alloc | apply pw_below_drewN | apply below_drew1) | exact HB.out))); (case aF => exact (fun k_ hk => Kd.fresh' (Kd.R_lt (by (with_reducible repeat (first | apply Kd.R_alloc | apply Kd.R_drewN | apply Kd.R_drew)); exact HO124.out)) k_ hk)); (case aO => exact (by (with_reducible repeat (first | apply Kd.R_alloc | apply Kd.R_drewN | apply Kd.R_drew)); exact Kd.R_mono HO_4.out (fun _ hk => hk.2))); (case aS => exact (below_size (by repeat (first | (with_reducible first | exact HB.out | apply below_alloc | apply pw_below_drewN | apply below_drew1) | exact HB.out)))); (case aL => have := LMc17.out; omega); intro v130 w22 ho hb hg hat; rw [← Ny129.out] at ho; have n0_ := Aside0.mk (Kd.R_after (ok := (fun _ => True)) (by (with_reducible repeat (first | apply Kd.R_alloc | apply Kd.R_drewN | apply Kd.R_drew)); exact HO124.out) hg hat); have n1_ := Aside0.mk (hb); have n2_ := Aside0.mk ((show Kd.C (Kd.int .u8) w22 Ao21 y125.length y125 from by rw [Ny125.out]; exact Kd.C_take (m := ((ji14) : Int).toNat) ((Kd.R_reads' (Kd.R_after (ok := (fun _ => True)) (by (with_reducible repeat (first | apply Kd.R_alloc | apply Kd.R_drewN | apply Kd.R_drew)); exact HO124.out) hg hat)).2.2) KL20.out)); have n3_ := Aside0.mk (ho); clear HO124; clear HB; clear HR128; clear HO_4; have HO124 := n0_; have HB := n1_; have HR128 := n2_; have HO131 := n3_; clear n0_ n1_ n2_ n3_; clear ho hb hg hat))
                      go_roundg k2
                      case measure => have := HK1.out; have := HK2.out; omega
                      case rel => exact ⟨(y129), (wrap64 (x5_1 + 4)), (by first | rfl | (simp; done) | (simp [*]; done)), H', ⟨by have := HK1.out; have := HK2.out; omega⟩, ⟨by (with_reducible repeat (first | apply Kd.R_alloc | apply Kd.R_drewN | apply Kd.R_drew)); exact Kd.R_mono HO131.out (fun _ hk => trivial)⟩, ⟨by repeat (first | (with_reducible first | exact HB.out | apply below_alloc | apply pw_below_drewN | apply below_drew1) | exact HB.out)⟩⟩
                    · rw [if_neg c17] at H
                      exact absurd H (by simp)
                  · rw [if_neg c16] at H
                    exact absurd H (by simp)
                · rw [if_neg c15] at H
                  exact absurd H (by simp)
      · rw [if_neg c2] at H
        have c2b0 : decide (x5_1 < (a0.size : Int)) = false := decide_eq_false c2
        clear c2
        replace H := Option.bind_eq_some_iff.mp H
        obtain ⟨t121, A230, H⟩ := H
        replace H : (if t121.toList = a0.toList then (some (strOfNums x4_1, true)) else (some ((⟨#[]⟩ : ByteArray), false))) = some (r1, r2) := H
        have A23 := Aside0.mk A230
        clear A230
        by_cases c24 : t121.toList = a0.toList
        · rw [if_pos c24] at H
          have c24b0 : (t121.toList == a0.toList) = true := beq_iff_eq.mpr c24
          have c24b1 : (t121.toList != a0.toList) = false := bne_eq_false_iff_eq.mpr c24
          clear c24
          simp only [Option.some.injEq, Prod.mk.injEq] at H
          obtain ⟨rfl, rfl⟩ := H
          have hcv25 := own_string (P := Try.prog) Try.underlying48 Try.underlying5 Try.underlying9 (Kd.own_of_R HO_4.out)
          go_wp2_with (first | ((with_reducible refine gate_callee (f := 23) rfl ?_); refine goesL_ (some 61) rfl rfl Try.func23 (by kernel_rfl) rfl #[.string (strOfNums x4_1)] rfl (by (try simp only [List.map_toArray, List.map_cons, List.map_nil]); first | done | rfl | (simp only [List.length_drop, List.length_take]; rfl)) ?_; (with_reducible refine (nuncioref03_Encode.calls k1 (strOfNums x4_1) t121 _ A23.out).mono ?_); rintro e w26 ⟨rfl, hb⟩; refine ⟨_, rfl, ?_⟩; have n0_ := Aside0.mk (Kd.R_below (by (with_reducible repeat (first | apply Kd.R_alloc | apply Kd.R_drewN | apply Kd.R_drew)); exact HO_4.out) hb); have n1_ := Aside0.mk (below_step (by repeat (first | (with_reducible first | exact HB.out | apply below_alloc | apply pw_below_drewN | apply below_drew1) | exact HB.out)) hb); clear HO_4; clear HB; have HO_4 := n0_; have HB := n1_; clear n0_ n1_; (try clear hb); (try clear hb2); (try clear hk); (try clear hi); have hcv27 := own_string (P := Try.prog) Try.underlying48 Try.underlying5 Try.underlying9 (Kd.own_of_R HO_4.out)))
          go_ret2
          exact ⟨by first | rfl | (simp [errW_none, errW_some] <;> rfl) | (simp [*, errW_none, errW_some] <;> rfl), by repeat (first | (with_reducible first | exact HB.out | apply below_alloc | apply pw_below_drewN | apply below_drew1) | exact HB.out)⟩
        · rw [if_neg c24] at H
          have c24b0 : (t121.toList == a0.toList) = false := beq_eq_false_iff_ne.mpr c24
          have c24b1 : (t121.toList != a0.toList) = true := bne_iff_ne.mpr c24
          simp only [Option.some.injEq, Prod.mk.injEq] at H
          obtain ⟨rfl, rfl⟩ := H
          have hcv28 := own_string (P := Try.prog) Try.underlying48 Try.underlying5 Try.underlying9 (Kd.own_of_R HO_4.out)
          go_wp2_with (first | ((with_reducible refine gate_callee (f := 23) rfl ?_); refine goesL_ (some 61) rfl rfl Try.func23 (by kernel_rfl) rfl #[.string (strOfNums x4_1)] rfl (by (try simp only [List.map_toArray, List.map_cons, List.map_nil]); first | done | rfl | (simp only [List.length_drop, List.length_take]; rfl)) ?_; (with_reducible refine (nuncioref03_Encode.calls k1 (strOfNums x4_1) t121 _ A23.out).mono ?_); rintro e w29 ⟨rfl, hb⟩; refine ⟨_, rfl, ?_⟩; have n0_ := Aside0.mk (Kd.R_below (by (with_reducible repeat (first | apply Kd.R_alloc | apply Kd.R_drewN | apply Kd.R_drew)); exact HO_4.out) hb); have n1_ := Aside0.mk (below_step (by repeat (first | (with_reducible first | exact HB.out | apply below_alloc | apply pw_below_drewN | apply below_drew1) | exact HB.out)) hb); clear HO_4; clear HB; have HO_4 := n0_; have HB := n1_; clear n0_ n1_; (try clear hb); (try clear hb2); (try clear hk); (try clear hi)))
          go_ret2
          exact ⟨by first | rfl | (simp [errW_none, errW_some] <;> rfl) | (simp [*, errW_none, errW_some] <;> rfl), by repeat (first | (with_reducible first | exact HB.out | apply below_alloc | apply pw_below_drewN | apply below_drew1) | exact HB.out)⟩
end Go.Proofs.Ytfoflodgegehfaa.B64
set_option linter.unusedVariables false
set_option linter.unusedSimpArgs false
namespace Go.Proofs.Ytfoflodgegehfaa.B64
open Go.RowKit Go.Proofs.YtfoflodgegehfaaW.PrintWords Go.Proofs.YtfoflodgegehfaaW.PrintLast Go.Proofs.YtfoflodgegehfaaW.PrintMore
attribute [local go_sem] max2_int min2_int max_two min_two max_three min_three max_four min_four
theorem bytes_range (s : ByteArray) : ∀ x ∈ bytesOf s, 0 ≤ x ∧ x ≤ 255 := by
  intro x hx
  unfold bytesOf at hx
  obtain ⟨b, _, rfl⟩ := List.mem_map.1 hx
  have := b.toNat_lt
  omega
theorem str_bytes (s : ByteArray) : strOfNums (bytesOf s) = s := by
  have : (strOfNums (bytesOf s)).data = s.data := by
    apply Array.toList_inj.1
    rw [strOfNums_data]
    unfold bytesOf
    rw [List.map_map]
    conv => rhs; rw [← List.map_id s.data.toList]
    apply List.map_congr_left
    intro b _
    simp
  cases s
  exact congrArg ByteArray.mk this
theorem bytes_str (l : List Int) (h : ∀ x ∈ l, 0 ≤ x ∧ x ≤ 255) : bytesOf (strOfNums l) = l := by
  unfold bytesOf
  rw [strOfNums_data, List.map_map]
  conv => rhs; rw [← List.map_id l]
  apply List.map_congr_left
  intro x hx
  have := h x hx
  simp only [Function.comp, id, UInt8.toNat_ofNat']
  omega
theorem str_app (a b : List Int) : strOfNums a ++ strOfNums b = strOfNums (a ++ b) := by
  have : (strOfNums a ++ strOfNums b).data = (strOfNums (a ++ b)).data := by
    apply Array.toList_inj.1
    rw [ByteArray.data_append, Array.toList_append, strOfNums_data, strOfNums_data, strOfNums_data, List.map_append]
  cases h1 : strOfNums a ++ strOfNums b
  cases h2 : strOfNums (a ++ b)
  rw [h1, h2] at this
  exact congrArg ByteArray.mk this
theorem sgn_all : ∀ n ∈ List.range 64, 0 ≤ b64h_sgn (n : Int) ∧ b64h_sgn (n : Int) ≤ 255 ∧ b64h_val (b64h_sgn (n : Int)) = (n : Int) := by decide +kernel
theorem sgn_one (v : Int) (h0 : 0 ≤ v) (h1 : v < 64) : 0 ≤ b64h_sgn v ∧ b64h_sgn v ≤ 255 ∧ b64h_val (b64h_sgn v) = v := by
  obtain ⟨n, rfl⟩ := Int.eq_ofNat_of_zero_le h0
  exact sgn_all n (List.mem_range.2 (by omega))
theorem val_all : ∀ n ∈ List.range 256, b64h_val (n : Int) ≠ 64 → b64h_sgn (b64h_val (n : Int)) = (n : Int) := by decide +kernel
theorem val_one (c : Int) (h0 : 0 ≤ c) (h1 : c ≤ 255) (hv : b64h_val c ≠ 64) : b64h_sgn (b64h_val c) = c := by
  obtain ⟨n, rfl⟩ := Int.eq_ofNat_of_zero_le h0
  exact val_all n (List.mem_range.2 (by omega)) hv
theorem enc3 (a b c : Int) (t : List Int) : b64h_encGo (a :: b :: c :: t) 0 0 = b64h_sgn (a / 4 % 64) :: b64h_sgn ((a % 4 * 256 + b) / 16 % 64) :: b64h_sgn (((a % 4 * 256 + b) % 16 * 256 + c) / 64 % 64) :: b64h_sgn (((a % 4 * 256 + b) % 16 * 256 + c) % 64) :: b64h_encGo t 0 0 := by
  simp [b64h_encGo]
theorem enc1 (a : Int) : b64h_encGo [a] 0 0 = [b64h_sgn (a / 4 % 64), b64h_sgn (a % 4 * 16 % 64)] := by simp [b64h_encGo]
theorem enc2 (a b : Int) : b64h_encGo [a, b] 0 0 = [b64h_sgn (a / 4 % 64), b64h_sgn ((a % 4 * 256 + b) / 16 % 64), b64h_sgn ((a % 4 * 256 + b) % 16 * 4 % 64)] := by simp [b64h_encGo]
theorem dec4 (p q r s : Int) (t : List Int) (hp : b64h_val p ≠ 64) (hq : b64h_val q ≠ 64) (hr : b64h_val r ≠ 64) (hs : b64h_val s ≠ 64) :
    b64h_decGo (p :: q :: r :: s :: t) 0 0 = (b64h_decGo t 0 0).map ([(b64h_val p * 64 + b64h_val q) / 16, ((b64h_val p * 64 + b64h_val q) % 16 * 64 + b64h_val r) / 4, ((b64h_val p * 64 + b64h_val q) % 16 * 64 + b64h_val r) % 4 * 64 + b64h_val s] ++ ·) := by
  simp only [b64h_decGo, hp, hq, hr, hs, if_false, Int.zero_mul, Int.zero_add]
  cases b64h_decGo t 0 0 <;> simp
theorem dec2 (p q : Int) (hp : b64h_val p ≠ 64) (hq : b64h_val q ≠ 64) : b64h_decGo [p, q] 0 0 = if (b64h_val p * 64 + b64h_val q) % 16 = 0 then some [(b64h_val p * 64 + b64h_val q) / 16] else none := by
  by_cases h : (b64h_val p * 64 + b64h_val q) % 16 = 0 <;> simp [b64h_decGo, hp, hq, h]
theorem dec3 (p q r : Int) (hp : b64h_val p ≠ 64) (hq : b64h_val q ≠ 64) (hr : b64h_val r ≠ 64) : b64h_decGo [p, q, r] 0 0 = if ((b64h_val p * 64 + b64h_val q) % 16 * 64 + b64h_val r) % 4 = 0 then some [(b64h_val p * 64 + b64h_val q) / 16, ((b64h_val p * 64 + b64h_val q) % 16 * 64 + b64h_val r) / 4] else none := by
  by_cases h : ((b64h_val p * 64 + b64h_val q) % 16 * 64 + b64h_val r) % 4 = 0 <;> simp [b64h_decGo, hp, hq, hr, h]
theorem dec1 (p : Int) : b64h_decGo [p] 0 0 = none := by
  by_cases h : b64h_val p = 64 <;> simp [b64h_decGo, h]
theorem dec_bad (p q r s : Int) (t : List Int) (h : b64h_val p = 64 ∨ b64h_val q = 64 ∨ b64h_val r = 64 ∨ b64h_val s = 64) : b64h_decGo (p :: q :: r :: s :: t) 0 0 = none := by
  by_cases hp : b64h_val p = 64
  · simp [b64h_decGo, hp]
  · by_cases hq : b64h_val q = 64
    · simp [b64h_decGo, hp, hq]
    · by_cases hr : b64h_val r = 64
      · simp [b64h_decGo, hp, hq, hr]
      · have hs : b64h_val s = 64 := by simpa [hp, hq, hr] using h
        simp [b64h_decGo, hp, hq, hr, hs]
theorem dec_bad3 (p q r : Int) (h : b64h_val p = 64 ∨ b64h_val q = 64 ∨ b64h_val r = 64) : b64h_decGo [p, q, r] 0 0 = none := by
  by_cases hp : b64h_val p = 64
  · simp [b64h_decGo, hp]
  · by_cases hq : b64h_val q = 64
    · simp [b64h_decGo, hp, hq]
    · have hr : b64h_val r = 64 := by simpa [hp, hq] using h
      simp [b64h_decGo, hp, hq, hr]
theorem dec_bad2 (p q : Int) (h : b64h_val p = 64 ∨ b64h_val q = 64) : b64h_decGo [p, q] 0 0 = none := by
  by_cases hp : b64h_val p = 64
  · simp [b64h_decGo, hp]
  · have hq : b64h_val q = 64 := by simpa [hp] using h
    simp [b64h_decGo, hp, hq]
theorem sgn_ne (v : Int) (h0 : 0 ≤ v) (h1 : v < 64) : b64h_val (b64h_sgn v) ≠ 64 := by rw [(sgn_one v h0 h1).2.2]; omega
theorem dec_enc (n : Nat) : ∀ l : List Int, l.length ≤ n → (∀ x ∈ l, 0 ≤ x ∧ x ≤ 255) → b64h_decGo (b64h_encGo l 0 0) 0 0 = some l ∧ (∀ y ∈ b64h_encGo l 0 0, 0 ≤ y ∧ y ≤ 255) ∧ ((b64h_encGo l 0 0).length : Int) = (l.length * 8 + 5) / 6 := by
  induction n using Nat.strongRecOn with
  | _ n ih =>
    intro l hl hr
    match l, hl, hr with
    | [], _, _ => exact ⟨by simp [b64h_encGo, b64h_decGo], by simp [b64h_encGo], by simp [b64h_encGo]⟩
    | [a], _, hr =>
      have ha := hr a (by simp)
      have v1 := sgn_one (a / 4 % 64) (by omega) (by omega)
      have v2 := sgn_one (a % 4 * 16 % 64) (by omega) (by omega)
      rw [enc1, dec2 _ _ (sgn_ne _ (by omega) (by omega)) (sgn_ne _ (by omega) (by omega)), v1.2.2, v2.2.2, if_pos (by omega)]
      refine ⟨by congr 2; omega, ?_, by simp⟩
      intro y hy
      simp only [List.mem_cons, List.mem_nil_iff, or_false] at hy
      rcases hy with rfl | rfl
      · exact ⟨v1.1, v1.2.1⟩
      · exact ⟨v2.1, v2.2.1⟩
    | [a, b], _, hr =>
      have ha := hr a (by simp)
      have hb := hr b (by simp)
      have v1 := sgn_one (a / 4 % 64) (by omega) (by omega)
      have v2 := sgn_one ((a % 4 * 256 + b) / 16 % 64) (by omega) (by omega)
      have v3 := sgn_one ((a % 4 * 256 + b) % 16 * 4 % 64) (by omega) (by omega)
      rw [enc2, dec3 _ _ _ (sgn_ne _ (by omega) (by omega)) (sgn_ne _ (by omega) (by omega)) (sgn_ne _ (by omega) (by omega)), v1.2.2, v2.2.2, v3.2.2, if_pos (by omega)]
      refine ⟨?_, ?_, by simp⟩
      · have e1 : (a / 4 % 64 * 64 + (a % 4 * 256 + b) / 16 % 64) / 16 = a := by omega
        have e2 : ((a / 4 % 64 * 64 + (a % 4 * 256 + b) / 16 % 64) % 16 * 64 + (a % 4 * 256 + b) % 16 * 4 % 64) / 4 = b := by omega
        rw [e1, e2]
      · intro y hy
        simp only [List.mem_cons, List.mem_nil_iff, or_false] at hy
        rcases hy with rfl | rfl | rfl
        · exact ⟨v1.1, v1.2.1⟩
        · exact ⟨v2.1, v2.2.1⟩
        · exact ⟨v3.1, v3.2.1⟩
    | a :: b :: c :: t, hl, hr =>
      have ha := hr a (by simp)
      have hb := hr b (by simp)
      have hc := hr c (by simp)
      simp only [List.length_cons] at hl
      obtain ⟨i1, i2, i3⟩ := ih t.length (by omega) t (Nat.le_refl _) (fun x hx => hr x (by simp [hx]))
      have v1 := sgn_one (a / 4 % 64) (by omega) (by omega)
      have v2 := sgn_one ((a % 4 * 256 + b) / 16 % 64) (by omega) (by omega)
      have v3 := sgn_one (((a % 4 * 256 + b) % 16 * 256 + c) / 64 % 64) (by omega) (by omega)
      have v4 := sgn_one (((a % 4 * 256 + b) % 16 * 256 + c) % 64) (by omega) (by omega)
      rw [enc3, dec4 _ _ _ _ _ (sgn_ne _ (by omega) (by omega)) (sgn_ne _ (by omega) (by omega)) (sgn_ne _ (by omega) (by omega)) (sgn_ne _ (by omega) (by omega)), v1.2.2, v2.2.2, v3.2.2, v4.2.2, i1]
      refine ⟨?_, ?_, by simp only [List.length_cons]; omega⟩
      · have e1 : (a / 4 % 64 * 64 + (a % 4 * 256 + b) / 16 % 64) / 16 = a := by omega
        have e2 : ((a / 4 % 64 * 64 + (a % 4 * 256 + b) / 16 % 64) % 16 * 64 + ((a % 4 * 256 + b) % 16 * 256 + c) / 64 % 64) / 4 = b := by omega
        have e3 : ((a / 4 % 64 * 64 + (a % 4 * 256 + b) / 16 % 64) % 16 * 64 + ((a % 4 * 256 + b) % 16 * 256 + c) / 64 % 64) % 4 * 64 + ((a % 4 * 256 + b) % 16 * 256 + c) % 64 = c := by omega
        rw [e1, e2, e3]
        rfl
      · intro y hy
        simp only [List.mem_cons] at hy
        rcases hy with rfl | rfl | rfl | rfl | hy
        · exact ⟨v1.1, v1.2.1⟩
        · exact ⟨v2.1, v2.2.1⟩
        · exact ⟨v3.1, v3.2.1⟩
        · exact ⟨v4.1, v4.2.1⟩
        · exact i2 y hy
theorem enc_dec (n : Nat) : ∀ l x : List Int, l.length ≤ n → (∀ y ∈ l, 0 ≤ y ∧ y ≤ 255) → b64h_decGo l 0 0 = some x → b64h_encGo x 0 0 = l ∧ (∀ y ∈ x, 0 ≤ y ∧ y ≤ 255) ∧ x.length ≤ l.length := by
  induction n using Nat.strongRecOn with
  | _ n ih =>
    intro l x hl hr hd
    match l, hl, hr, hd with
    | [], _, _, hd =>
      have : x = [] := by simpa [b64h_decGo] using hd.symm
      subst this
      simp [b64h_encGo]
    | [p], _, _, hd => rw [dec1] at hd; exact absurd hd (by simp)
    | [p, q], _, hr, hd =>
      by_cases hb : b64h_val p = 64 ∨ b64h_val q = 64
      · rw [dec_bad2 _ _ hb] at hd; exact absurd hd (by simp)
      · have hp : b64h_val p ≠ 64 := fun e => hb (.inl e)
        have hq : b64h_val q ≠ 64 := fun e => hb (.inr e)
        have rp := b64h_val_range p
        have rq := b64h_val_range q
        rw [dec2 p q hp hq] at hd
        by_cases hz : (b64h_val p * 64 + b64h_val q) % 16 = 0
        · rw [if_pos hz] at hd
          obtain rfl := Option.some.inj hd
          have e1 : (b64h_val p * 64 + b64h_val q) / 16 / 4 % 64 = b64h_val p := by omega
          have e2 : (b64h_val p * 64 + b64h_val q) / 16 % 4 * 16 % 64 = b64h_val q := by omega
          refine ⟨?_, ?_, by simp⟩
          · rw [enc1, e1, e2, val_one p (hr p (by simp)).1 (hr p (by simp)).2 hp, val_one q (hr q (by simp)).1 (hr q (by simp)).2 hq]
          · intro y hy
            simp only [List.mem_cons, List.mem_nil_iff, or_false] at hy
            subst hy
            omega
        · rw [if_neg hz] at hd; exact absurd hd (by simp)
    | [p, q, r], _, hr, hd =>
      by_cases hb : b64h_val p = 64 ∨ b64h_val q = 64 ∨ b64h_val r = 64
      · rw [dec_bad3 _ _ _ hb] at hd; exact absurd hd (by simp)
      · have hp : b64h_val p ≠ 64 := fun e => hb (.inl e)
        have hq : b64h_val q ≠ 64 := fun e => hb (.inr (.inl e))
        have hv : b64h_val r ≠ 64 := fun e => hb (.inr (.inr e))
        have rp := b64h_val_range p
        have rq := b64h_val_range q
        have rr := b64h_val_range r
        rw [dec3 p q r hp hq hv] at hd
        by_cases hz : ((b64h_val p * 64 + b64h_val q) % 16 * 64 + b64h_val r) % 4 = 0
        · rw [if_pos hz] at hd
          obtain rfl := Option.some.inj hd
          have e1 : (b64h_val p * 64 + b64h_val q) / 16 / 4 % 64 = b64h_val p := by omega
          have e2 : ((b64h_val p * 64 + b64h_val q) / 16 % 4 * 256 + ((b64h_val p * 64 + b64h_val q) % 16 * 64 + b64h_val r) / 4) / 16 % 64 = b64h_val q := by omega
          have e3 : ((b64h_val p * 64 + b64h_val q) / 16 % 4 * 256 + ((b64h_val p * 64 + b64h_val q) % 16 * 64 + b64h_val r) / 4) % 16 * 4 % 64 = b64h_val r := by omega
          refine ⟨?_, ?_, by simp⟩
          · rw [enc2, e1, e2, e3, val_one p (hr p (by simp)).1 (hr p (by simp)).2 hp, val_one q (hr q (by simp)).1 (hr q (by simp)).2 hq, val_one r (hr r (by simp)).1 (hr r (by simp)).2 hv]
          · intro y hy
            simp only [List.mem_cons, List.mem_nil_iff, or_false] at hy
            rcases hy with rfl | rfl <;> omega
        · rw [if_neg hz] at hd; exact absurd hd (by simp)
    | p :: q :: r :: s :: t, hl, hr, hd =>
      by_cases hb : b64h_val p = 64 ∨ b64h_val q = 64 ∨ b64h_val r = 64 ∨ b64h_val s = 64
      · rw [dec_bad _ _ _ _ _ hb] at hd; exact absurd hd (by simp)
      · have hp : b64h_val p ≠ 64 := fun e => hb (.inl e)
        have hq : b64h_val q ≠ 64 := fun e => hb (.inr (.inl e))
        have hv : b64h_val r ≠ 64 := fun e => hb (.inr (.inr (.inl e)))
        have hw : b64h_val s ≠ 64 := fun e => hb (.inr (.inr (.inr e)))
        have rp := b64h_val_range p
        have rq := b64h_val_range q
        have rr := b64h_val_range r
        have rs := b64h_val_range s
        rw [dec4 p q r s t hp hq hv hw] at hd
        obtain ⟨y, hy, rfl⟩ := Option.map_eq_some_iff.1 hd
        simp only [List.length_cons] at hl
        obtain ⟨i1, i2, i3⟩ := ih t.length (by omega) t y (Nat.le_refl _) (fun x hx => hr x (by simp [hx])) hy
        have e1 : (b64h_val p * 64 + b64h_val q) / 16 / 4 % 64 = b64h_val p := by omega
        have e2 : ((b64h_val p * 64 + b64h_val q) / 16 % 4 * 256 + ((b64h_val p * 64 + b64h_val q) % 16 * 64 + b64h_val r) / 4) / 16 % 64 = b64h_val q := by omega
        have e3 : (((b64h_val p * 64 + b64h_val q) / 16 % 4 * 256 + ((b64h_val p * 64 + b64h_val q) % 16 * 64 + b64h_val r) / 4) % 16 * 256 + (((b64h_val p * 64 + b64h_val q) % 16 * 64 + b64h_val r) % 4 * 64 + b64h_val s)) / 64 % 64 = b64h_val r := by omega
        have e4 : (((b64h_val p * 64 + b64h_val q) / 16 % 4 * 256 + ((b64h_val p * 64 + b64h_val q) % 16 * 64 + b64h_val r) / 4) % 16 * 256 + (((b64h_val p * 64 + b64h_val q) % 16 * 64 + b64h_val r) % 4 * 64 + b64h_val s)) % 64 = b64h_val s := by omega
        refine ⟨?_, ?_, by simp only [List.cons_append, List.nil_append, List.length_cons]; omega⟩
        · show b64h_encGo (_ :: _ :: _ :: y) 0 0 = _
          rw [enc3, e1, e2, e3, e4, i1, val_one p (hr p (by simp)).1 (hr p (by simp)).2 hp, val_one q (hr q (by simp)).1 (hr q (by simp)).2 hq, val_one r (hr r (by simp)).1 (hr r (by simp)).2 hv, val_one s (hr s (by simp)).1 (hr s (by simp)).2 hw]
        · intro z hz
          simp only [List.cons_append, List.nil_append, List.mem_cons] at hz
          rcases hz with rfl | rfl | rfl | hz
          · omega
          · omega
          · omega
          · exact i2 z hz
theorem sign_all : ∀ n ∈ List.range 64, nuncioref03_sign.f (n : Int) = some (b64h_sgn (n : Int)) := by decide +kernel
theorem sign_one (n : Int) (h0 : 0 ≤ n) (h1 : n < 64) : nuncioref03_sign.f n = some (b64h_sgn n) := by
  obtain ⟨m, rfl⟩ := Int.eq_ofNat_of_zero_le h0
  exact sign_all m (List.mem_range.2 (by omega))
theorem w64 (n : Int) (h0 : 0 ≤ n) (h1 : n < 4611686018427387904) : wrap64 n = n := by
  unfold wrap64
  omega
theorem drop_byte (s : ByteArray) (i : Int) (h0 : 0 ≤ i) (h : i < (s.size : Int)) : (bytesOf s).drop i.toNat = bt s i :: (bytesOf s).drop (i + 1).toNat := by
  have hl : i.toNat < (bytesOf s).length := by rw [bytesOf_length]; omega
  have hr := rd_bytesOf s i
  unfold rd at hr
  rw [List.getD_eq_getElem?_getD, List.getElem?_eq_getElem hl, Option.getD_some] at hr
  rw [List.drop_eq_getElem_cons hl, hr, show (i + 1).toNat = i.toNat + 1 by omega]
theorem enc_in (s : ByteArray) (out : List Int) (k : Nat) (i n h x : Int) (hx : x < i + 3) (h0 : 0 ≤ x) (hs : x < (s.size : Int)) (hz : s.size ≤ 100000) (n0 : 0 ≤ n) (n1 : n < 65536) (g0 : 0 ≤ h) (g1 : h < 5) (i1 : i < 100000) :
    nuncioref03_Encode.l1 (k + 1) s out i n h x = nuncioref03_Encode.l1 k s out i (n * 256 + bt s x) (h + 1) (x + 1) := by
  have hb := bt_range s x
  simp only [nuncioref03_Encode.l1]
  rw [w64 (i + 3) (by omega) (by omega), if_pos hx, if_pos hs, if_pos h0, w64 (bt s x) (by omega) (by omega), w64 (n * 256) (by omega) (by omega), w64 _ (by omega) (by omega), w64 (h + 1) (by omega) (by omega), w64 (x + 1) (by omega) (by omega)]
theorem enc_out (s : ByteArray) (out : List Int) (k : Nat) (i n h x : Int) (hx : x < i + 3) (h0 : 0 ≤ x) (hs : ¬ x < (s.size : Int)) (hz : s.size ≤ 100000) (n0 : 0 ≤ n) (n1 : n < 65536) (i1 : i < 100000) :
    nuncioref03_Encode.l1 (k + 1) s out i n h x = nuncioref03_Encode.l1 k s out i (n * 256) h (x + 1) := by
  simp only [nuncioref03_Encode.l1]
  rw [w64 (i + 3) (by omega) (by omega), if_pos hx, if_neg hs, w64 (n * 256) (by omega) (by omega), w64 (x + 1) (by omega) (by omega)]
theorem enc_end (s : ByteArray) (out : List Int) (k : Nat) (i n h : Int) (i0 : 0 ≤ i) (i1 : i < 100000) (n0 : 0 ≤ n) (n1 : n < 16777216) (g0 : 1 ≤ h) (g1 : h ≤ 3) (ho : out.length ≤ 200000) :
    nuncioref03_Encode.l1 (k + 1) s out i n h (i + 3) = nuncioref03_Encode.l0 k s (out ++ [b64h_sgn (n / 262144), b64h_sgn (n / 4096 % 64), b64h_sgn (n / 64 % 64), b64h_sgn (n % 64)].take (h + 1).toNat) (i + 3) := by
  simp only [nuncioref03_Encode.l1]
  rw [w64 (i + 3) (by omega) (by omega), if_neg (by omega), Int.tdiv_eq_ediv_of_nonneg n0, Int.tdiv_eq_ediv_of_nonneg n0, Int.tdiv_eq_ediv_of_nonneg n0, w64 (n / 262144) (by omega) (by omega), w64 (n / 4096) (by omega) (by omega), w64 (n / 64) (by omega) (by omega),
    Int.tmod_eq_emod_of_nonneg (by omega), Int.tmod_eq_emod_of_nonneg (by omega), Int.tmod_eq_emod_of_nonneg (by omega), sign_one _ (by omega) (by omega), sign_one _ (by omega) (by omega), sign_one _ (by omega) (by omega), sign_one _ (by omega) (by omega)]
  simp only [Option.bind_some]
  rw [w64 (h + 1) (by omega) (by omega), if_pos (by omega), if_pos (by simp only [List.length_cons, List.length_nil]; omega), if_pos (by rw [List.length_take]; omega)]
theorem ref_enc (s : ByteArray) (hz : s.size ≤ 100000) (m : Nat) : ∀ (k : Nat) (out : List Int) (i : Int), 0 ≤ i → i ≤ (s.size : Int) + 2 → (s.size : Int) - i ≤ 3 * m → out.length ≤ 2 * i.toNat → 5 * m < k →
    nuncioref03_Encode.l0 k s out i = some (strOfNums (out ++ b64h_encGo ((bytesOf s).drop i.toNat) 0 0)) := by
  induction m with
  | zero =>
    intro k out i h0 h1 hm ho hk
    obtain ⟨k, rfl⟩ : ∃ q, k = q + 1 := ⟨k - 1, by omega⟩
    simp only [nuncioref03_Encode.l0]
    rw [if_neg (by omega), List.drop_of_length_le (by rw [bytesOf_length]; omega)]
    simp [b64h_encGo]
  | succ m ih =>
    intro k out i h0 h1 hm ho hk
    by_cases hi : i < (s.size : Int)
    · obtain ⟨k, rfl⟩ : ∃ q, k = q + 1 + 1 + 1 + 1 + 1 := ⟨k - 5, by omega⟩
      have c1 := bt_range s i
      have c2 := bt_range s (i + 1)
      have c3 := bt_range s (i + 1 + 1)
      have hstep : nuncioref03_Encode.l0 (k + 1 + 1 + 1 + 1 + 1) s out i = nuncioref03_Encode.l1 (k + 1 + 1 + 1 + 1) s out i 0 0 i := by
        rw [nuncioref03_Encode.l0, if_pos hi]
      rw [hstep, enc_in s out _ i 0 0 i (by omega) h0 hi hz (by omega) (by omega) (by omega) (by omega) (by omega), drop_byte s i h0 hi]
      by_cases hi2 : i + 1 < (s.size : Int)
      · rw [enc_in s out _ i _ _ (i + 1) (by omega) (by omega) hi2 hz (by omega) (by omega) (by omega) (by omega) (by omega), drop_byte s (i + 1) (by omega) hi2]
        by_cases hi3 : i + 1 + 1 < (s.size : Int)
        · rw [enc_in s out _ i _ _ (i + 1 + 1) (by omega) (by omega) hi3 hz (by omega) (by omega) (by omega) (by omega) (by omega), drop_byte s (i + 1 + 1) (by omega) hi3, show i + 1 + 1 + 1 = i + 3 by omega, enc_end s out _ i _ _ h0 (by omega) (by omega) (by omega) (by omega) (by omega) (by omega)]
          rw [ih k _ (i + 3) (by omega) (by omega) (by omega) (by simp only [List.length_append, List.length_take, List.length_cons, List.length_nil]; omega) (by omega), enc3]
          have e1 : ((0 * 256 + bt s i) * 256 + bt s (i + 1)) * 256 + bt s (i + 1 + 1) = bt s i * 65536 + bt s (i + 1) * 256 + bt s (i + 1 + 1) := by omega
          rw [e1, show ((0 : Int) + 1 + 1 + 1 + 1).toNat = 4 from rfl]
          have a1 : (bt s i * 65536 + bt s (i + 1) * 256 + bt s (i + 1 + 1)) / 262144 = bt s i / 4 % 64 := by omega
          have a2 : (bt s i * 65536 + bt s (i + 1) * 256 + bt s (i + 1 + 1)) / 4096 % 64 = (bt s i % 4 * 256 + bt s (i + 1)) / 16 % 64 := by omega
          have a3 : (bt s i * 65536 + bt s (i + 1) * 256 + bt s (i + 1 + 1)) / 64 % 64 = ((bt s i % 4 * 256 + bt s (i + 1)) % 16 * 256 + bt s (i + 1 + 1)) / 64 % 64 := by omega
          have a4 : (bt s i * 65536 + bt s (i + 1) * 256 + bt s (i + 1 + 1)) % 64 = ((bt s i % 4 * 256 + bt s (i + 1)) % 16 * 256 + bt s (i + 1 + 1)) % 64 := by omega
          rw [a1, a2, a3, a4]
          simp
        · rw [enc_out s out _ i _ _ (i + 1 + 1) (by omega) (by omega) hi3 hz (by omega) (by omega) (by omega), show i + 1 + 1 + 1 = i + 3 by omega, enc_end s out _ i _ _ h0 (by omega) (by omega) (by omega) (by omega) (by omega) (by omega)]
          rw [ih k _ (i + 3) (by omega) (by omega) (by omega) (by simp only [List.length_append, List.length_take, List.length_cons, List.length_nil]; omega) (by omega), List.drop_of_length_le (i := (i + 1 + 1).toNat) (by rw [bytesOf_length]; omega), List.drop_of_length_le (i := (i + 3).toNat) (by rw [bytesOf_length]; omega), enc2]
          have e1 : ((0 * 256 + bt s i) * 256 + bt s (i + 1)) * 256 = bt s i * 65536 + bt s (i + 1) * 256 := by omega
          rw [e1, show ((0 : Int) + 1 + 1 + 1).toNat = 3 from rfl]
          have a1 : (bt s i * 65536 + bt s (i + 1) * 256) / 262144 = bt s i / 4 % 64 := by omega
          have a2 : (bt s i * 65536 + bt s (i + 1) * 256) / 4096 % 64 = (bt s i % 4 * 256 + bt s (i + 1)) / 16 % 64 := by omega
          have a3 : (bt s i * 65536 + bt s (i + 1) * 256) / 64 % 64 = (bt s i % 4 * 256 + bt s (i + 1)) % 16 * 4 % 64 := by omega
          rw [a1, a2, a3]
          simp [b64h_encGo]
      · rw [enc_out s out _ i _ _ (i + 1) (by omega) (by omega) hi2 hz (by omega) (by omega) (by omega), enc_out s out _ i _ _ (i + 1 + 1) (by omega) (by omega) (by omega) hz (by omega) (by omega) (by omega), show i + 1 + 1 + 1 = i + 3 by omega, enc_end s out _ i _ _ h0 (by omega) (by omega) (by omega) (by omega) (by omega) (by omega)]
        rw [ih k _ (i + 3) (by omega) (by omega) (by omega) (by simp only [List.length_append, List.length_take, List.length_cons, List.length_nil]; omega) (by omega), List.drop_of_length_le (i := (i + 1).toNat) (by rw [bytesOf_length]; omega), List.drop_of_length_le (i := (i + 3).toNat) (by rw [bytesOf_length]; omega), enc1]
        have e1 : (0 * 256 + bt s i) * 256 * 256 = bt s i * 65536 := by omega
        rw [e1, show ((0 : Int) + 1 + 1).toNat = 2 from rfl]
        have a1 : (bt s i * 65536) / 262144 = bt s i / 4 % 64 := by omega
        have a2 : (bt s i * 65536) / 4096 % 64 = bt s i % 4 * 16 % 64 := by omega
        rw [a1, a2]
        simp [b64h_encGo]
    · obtain ⟨k, rfl⟩ : ∃ q, k = q + 1 := ⟨k - 1, by omega⟩
      rw [nuncioref03_Encode.l0, if_neg hi, List.drop_of_length_le (by rw [bytesOf_length]; omega)]
      simp [b64h_encGo]
theorem ref_encode (s : ByteArray) (hz : s.size ≤ 100000) (k : Nat) (hk : 5 * s.size + 10 < k) : nuncioref03_Encode.f k s = some (strOfNums (b64h_encGo (bytesOf s) 0 0)) := by
  unfold nuncioref03_Encode.f
  rw [ref_enc s hz (s.size + 1) k [] 0 (by omega) (by omega) (by omega) (by simp) (by omega)]
  simp
def num (c : Int) : Int := if b64h_val c = 64 then -1 else b64h_val c
theorem num_all : ∀ n ∈ List.range 256, nuncioref03_number.f 70 (n : Int) = some (num (n : Int)) := by decide +kernel
theorem num_one (s : ByteArray) (x : Int) (k : Nat) (hk : 70 ≤ k) : nuncioref03_number.f k (bt s x) = some (num (bt s x)) := by
  have hb := bt_range s x
  obtain ⟨n, hn⟩ := Int.eq_ofNat_of_zero_le hb.1
  rw [hn]
  exact at_rounds (nuncioref03_number.mono _) hk (num_all n (List.mem_range.2 (by omega)))
def refGo : List Int → Option (List Int)
  | [] => some []
  | [_] => none
  | [p, q] => if b64h_val p = 64 ∨ b64h_val q = 64 then none else some [(b64h_val p * 64 + b64h_val q) / 16]
  | [p, q, r] => if b64h_val p = 64 ∨ b64h_val q = 64 ∨ b64h_val r = 64 then none else some [(b64h_val p * 64 + b64h_val q) / 16, ((b64h_val p * 64 + b64h_val q) % 16 * 64 + b64h_val r) / 4]
  | p :: q :: r :: s :: t => if b64h_val p = 64 ∨ b64h_val q = 64 ∨ b64h_val r = 64 ∨ b64h_val s = 64 then none else
    (refGo t).map ([(b64h_val p * 64 + b64h_val q) / 16, ((b64h_val p * 64 + b64h_val q) % 16 * 64 + b64h_val r) / 4, ((b64h_val p * 64 + b64h_val q) % 16 * 64 + b64h_val r) % 4 * 64 + b64h_val s] ++ ·)
theorem ref_of_dec (n : Nat) : ∀ l x : List Int, l.length ≤ n → b64h_decGo l 0 0 = some x → refGo l = some x := by
  induction n using Nat.strongRecOn with
  | _ n ih =>
    intro l x hl hd
    match l, hl, hd with
    | [], _, hd => simpa [b64h_decGo, refGo] using hd
    | [p], _, hd => rw [dec1] at hd; exact absurd hd (by simp)
    | [p, q], _, hd =>
      by_cases hb : b64h_val p = 64 ∨ b64h_val q = 64
      · rw [dec_bad2 _ _ hb] at hd; exact absurd hd (by simp)
      · rw [dec2 p q (fun e => hb (.inl e)) (fun e => hb (.inr e))] at hd
        simp only [refGo, hb, if_false]
        split at hd
        · exact hd
        · exact absurd hd (by simp)
    | [p, q, r], _, hd =>
      by_cases hb : b64h_val p = 64 ∨ b64h_val q = 64 ∨ b64h_val r = 64
      · rw [dec_bad3 _ _ _ hb] at hd; exact absurd hd (by simp)
      · rw [dec3 p q r (fun e => hb (.inl e)) (fun e => hb (.inr (.inl e))) (fun e => hb (.inr (.inr e)))] at hd
        simp only [refGo, hb, if_false]
        split at hd
        · exact hd
        · exact absurd hd (by simp)
    | p :: q :: r :: s :: t, hl, hd =>
      by_cases hb : b64h_val p = 64 ∨ b64h_val q = 64 ∨ b64h_val r = 64 ∨ b64h_val s = 64
      · rw [dec_bad _ _ _ _ _ hb] at hd; exact absurd hd (by simp)
      · rw [dec4 p q r s t (fun e => hb (.inl e)) (fun e => hb (.inr (.inl e))) (fun e => hb (.inr (.inr (.inl e)))) (fun e => hb (.inr (.inr (.inr e))))] at hd
        obtain ⟨y, hy, rfl⟩ := Option.map_eq_some_iff.1 hd
        simp only [List.length_cons] at hl
        simp only [refGo, hb, if_false, ih t.length (by omega) t y (Nat.le_refl _) hy, Option.map_some]
theorem ref_range (n : Nat) : ∀ l x : List Int, l.length ≤ n → refGo l = some x → (∀ y ∈ x, 0 ≤ y ∧ y ≤ 255) ∧ x.length ≤ l.length := by
  induction n using Nat.strongRecOn with
  | _ n ih =>
    intro l x hl hd
    match l, hl, hd with
    | [], _, hd =>
      have : x = [] := by simpa [refGo] using hd.symm
      subst this
      simp
    | [p], _, hd => simp [refGo] at hd
    | [p, q], _, hd =>
      have rp := b64h_val_range p
      have rq := b64h_val_range q
      by_cases hb : b64h_val p = 64 ∨ b64h_val q = 64
      · simp [refGo, hb] at hd
      · simp only [refGo, hb, if_false] at hd
        obtain rfl := Option.some.inj hd
        refine ⟨?_, by simp⟩
        intro y hy
        simp only [List.mem_cons, List.mem_nil_iff, or_false] at hy
        subst hy
        omega
    | [p, q, r], _, hd =>
      have rp := b64h_val_range p
      have rq := b64h_val_range q
      have rr := b64h_val_range r
      by_cases hb : b64h_val p = 64 ∨ b64h_val q = 64 ∨ b64h_val r = 64
      · simp [refGo, hb] at hd
      · simp only [refGo, hb, if_false] at hd
        obtain rfl := Option.some.inj hd
        refine ⟨?_, by simp⟩
        intro y hy
        simp only [List.mem_cons, List.mem_nil_iff, or_false] at hy
        rcases hy with rfl | rfl <;> omega
    | p :: q :: r :: s :: t, hl, hd =>
      have rp := b64h_val_range p
      have rq := b64h_val_range q
      have rr := b64h_val_range r
      have rs := b64h_val_range s
      by_cases hb : b64h_val p = 64 ∨ b64h_val q = 64 ∨ b64h_val r = 64 ∨ b64h_val s = 64
      · simp [refGo, hb] at hd
      · simp only [refGo, hb, if_false] at hd
        obtain ⟨y, hy, rfl⟩ := Option.map_eq_some_iff.1 hd
        simp only [List.length_cons] at hl
        obtain ⟨i1, i2⟩ := ih t.length (by omega) t y (Nat.le_refl _) hy
        refine ⟨?_, by simp only [List.cons_append, List.nil_append, List.length_cons]; omega⟩
        intro z hz
        simp only [List.cons_append, List.nil_append, List.mem_cons] at hz
        rcases hz with rfl | rfl | rfl | hz
        · omega
        · omega
        · omega
        · exact i1 z hz
def close (s : ByteArray) (y : List Int) : ByteArray × Bool := if b64h_encGo y 0 0 = bytesOf s then (strOfNums y, true) else ((⟨#[]⟩ : ByteArray), false)
theorem dec_in (s : ByteArray) (out : List Int) (k : Nat) (hk : 70 ≤ k) (i n h x : Int) (hx : x < i + 4) (h0 : 0 ≤ x) (hs : x < (s.size : Int)) (hz : s.size ≤ 100000) (n0 : 0 ≤ n) (n1 : n < 262144) (g0 : 0 ≤ h) (g1 : h < 5) (i1 : i < 100000) :
    nuncioref03_Decode.l1 (k + 1) s out i n h x = if b64h_val (bt s x) = 64 then some ((⟨#[]⟩ : ByteArray), false) else nuncioref03_Decode.l1 k s out i (n * 64 + b64h_val (bt s x)) (h + 1) (x + 1) := by
  have hb := b64h_val_range (bt s x)
  simp only [nuncioref03_Decode.l1]
  rw [w64 (i + 4) (by omega) (by omega), if_pos hx, if_pos hs, if_pos h0, num_one s x k hk]
  simp only [Option.bind_some]
  unfold num
  by_cases hv : b64h_val (bt s x) = 64
  · rw [if_pos hv, if_pos hv, if_pos (by omega)]
  · rw [if_neg hv, if_neg hv, if_neg (by omega), w64 (n * 64) (by omega) (by omega), w64 _ (by omega) (by omega), w64 (h + 1) (by omega) (by omega), w64 (x + 1) (by omega) (by omega)]
theorem dec_out (s : ByteArray) (out : List Int) (k : Nat) (i n h x : Int) (hx : x < i + 4) (h0 : 0 ≤ x) (hs : ¬ x < (s.size : Int)) (n0 : 0 ≤ n) (n1 : n < 262144) (i1 : i < 100000) :
    nuncioref03_Decode.l1 (k + 1) s out i n h x = nuncioref03_Decode.l1 k s out i (n * 64) h (x + 1) := by
  simp only [nuncioref03_Decode.l1]
  rw [w64 (i + 4) (by omega) (by omega), if_pos hx, if_neg hs, w64 (n * 64) (by omega) (by omega), w64 (x + 1) (by omega) (by omega)]
theorem dec_end (s : ByteArray) (out : List Int) (k : Nat) (i n h : Int) (i0 : 0 ≤ i) (i1 : i < 100000) (n0 : 0 ≤ n) (n1 : n < 16777216) (g0 : 1 ≤ h) (g1 : h ≤ 4) (ho : out.length ≤ 200000) :
    nuncioref03_Decode.l1 (k + 1) s out i n h (i + 4) = if h < 2 then some ((⟨#[]⟩ : ByteArray), false) else nuncioref03_Decode.l0 k s (out ++ [n / 65536, n / 256 % 256, n % 256].take (h - 1).toNat) (i + 4) := by
  simp only [nuncioref03_Decode.l1]
  rw [w64 (i + 4) (by omega) (by omega), if_neg (by omega), Int.tdiv_eq_ediv_of_nonneg n0, Int.tdiv_eq_ediv_of_nonneg n0, w64 (n / 65536) (by omega) (by omega), w64 (n / 256) (by omega) (by omega)]
  simp only [Option.bind_some]
  by_cases h2 : h < 2
  · rw [if_pos h2, if_pos h2]
  · rw [if_neg h2, if_neg h2, w64 (h - 1) (by omega) (by omega), if_pos (by omega), if_pos (by simp only [List.length_cons, List.length_nil]; omega), if_pos (by rw [List.length_take]; omega), show n / 65536 % 256 = n / 65536 by omega]
theorem ref_close (s : ByteArray) (hz : s.size ≤ 30000) (y : List Int) (hy : ∀ x ∈ y, 0 ≤ x ∧ x ≤ 255) (hl : y.length ≤ 30000) (k : Nat) (hk : 200000 ≤ k) :
    ((nuncioref03_Encode.f k (strOfNums y)).bind fun t122 => (if t122.toList = s.toList then (some (strOfNums y, true)) else (some ((⟨#[]⟩ : ByteArray), false)))) = some (close s y) := by
  rw [ref_encode _ (by rw [strOfNums_size]; omega) k (by rw [strOfNums_size]; omega), bytes_str y hy]
  simp only [Option.bind_some]
  unfold close
  have hr := (dec_enc _ y (Nat.le_refl _) hy).2.1
  by_cases h : b64h_encGo y 0 0 = bytesOf s
  · rw [h, str_bytes, if_pos rfl, if_pos rfl]
  · have hne : ¬ (strOfNums (b64h_encGo y 0 0)).toList = s.toList := by
      intro e
      rw [ByteArray.toList_eq, ByteArray.toList_eq] at e
      apply h
      have := congrArg (List.map fun b : UInt8 => (b.toNat : Int)) e
      rw [← bytes_str _ hr]
      exact this
    rw [if_neg hne, if_neg h]
theorem ref_dec (s : ByteArray) (hz : s.size ≤ 30000) (m : Nat) : ∀ (k : Nat) (out : List Int) (i : Int), 0 ≤ i → i ≤ (s.size : Int) + 3 → (s.size : Int) - i ≤ 4 * m → (out.length : Int) ≤ i → (∀ x ∈ out, 0 ≤ x ∧ x ≤ 255) → out.length ≤ s.size → 6 * m + 200000 < k →
    nuncioref03_Decode.l0 k s out i = some (match refGo ((bytesOf s).drop i.toNat) with | none => ((⟨#[]⟩ : ByteArray), false) | some x => close s (out ++ x)) := by
  induction m with
  | zero =>
    intro k out i h0 h1 hm ho hr hos hk
    obtain ⟨k, rfl⟩ : ∃ q, k = q + 1 := ⟨k - 1, by omega⟩
    simp only [nuncioref03_Decode.l0]
    rw [if_neg (by omega), List.drop_of_length_le (by rw [bytesOf_length]; omega), ref_close s hz out hr (by omega) k (by omega)]
    simp [refGo]
  | succ m ih =>
    intro k out i h0 h1 hm ho hr hos hk
    by_cases hi : i < (s.size : Int)
    · obtain ⟨k, rfl⟩ : ∃ q, k = q + 1 + 1 + 1 + 1 + 1 + 1 := ⟨k - 6, by omega⟩
      have hstep : nuncioref03_Decode.l0 (k + 1 + 1 + 1 + 1 + 1 + 1) s out i = nuncioref03_Decode.l1 (k + 1 + 1 + 1 + 1 + 1) s out i 0 0 i := by
        rw [nuncioref03_Decode.l0, if_pos hi]
      have r1 := b64h_val_range (bt s i)
      have r2 := b64h_val_range (bt s (i + 1))
      have r3 := b64h_val_range (bt s (i + 1 + 1))
      have r4 := b64h_val_range (bt s (i + 1 + 1 + 1))
      rw [hstep, dec_in s out _ (by omega) i 0 0 i (by omega) h0 hi (by omega) (by omega) (by omega) (by omega) (by omega) (by omega), drop_byte s i h0 hi]
      by_cases v1 : b64h_val (bt s i) = 64
      · rw [if_pos v1]
        generalize (bytesOf s).drop (i + 1).toNat = l
        match l with
        | [] => simp [refGo]
        | [q] => simp [refGo, v1]
        | [q, r] => simp [refGo, v1]
        | q :: r :: u :: t => simp [refGo, v1]
      · rw [if_neg v1]
        by_cases hi2 : i + 1 < (s.size : Int)
        · rw [dec_in s out _ (by omega) i _ _ (i + 1) (by omega) (by omega) hi2 (by omega) (by omega) (by omega) (by omega) (by omega) (by omega), drop_byte s (i + 1) (by omega) hi2]
          by_cases v2 : b64h_val (bt s (i + 1)) = 64
          · rw [if_pos v2]
            generalize (bytesOf s).drop (i + 1 + 1).toNat = l
            match l with
            | [] => simp [refGo, v2]
            | [r] => simp [refGo, v2]
            | r :: u :: t => simp [refGo, v2]
          · rw [if_neg v2]
            by_cases hi3 : i + 1 + 1 < (s.size : Int)
            · rw [dec_in s out _ (by omega) i _ _ (i + 1 + 1) (by omega) (by omega) hi3 (by omega) (by omega) (by omega) (by omega) (by omega) (by omega), drop_byte s (i + 1 + 1) (by omega) hi3]
              by_cases v3 : b64h_val (bt s (i + 1 + 1)) = 64
              · rw [if_pos v3]
                generalize (bytesOf s).drop (i + 1 + 1 + 1).toNat = l
                match l with
                | [] => simp [refGo, v3]
                | u :: t => simp [refGo, v3]
              · rw [if_neg v3]
                by_cases hi4 : i + 1 + 1 + 1 < (s.size : Int)
                · rw [dec_in s out _ (by omega) i _ _ (i + 1 + 1 + 1) (by omega) (by omega) hi4 (by omega) (by omega) (by omega) (by omega) (by omega) (by omega), drop_byte s (i + 1 + 1 + 1) (by omega) hi4]
                  by_cases v4 : b64h_val (bt s (i + 1 + 1 + 1)) = 64
                  · rw [if_pos v4]
                    simp [refGo, v4]
                  · rw [if_neg v4, show i + 1 + 1 + 1 + 1 = i + 4 by omega, dec_end s out _ i _ _ h0 (by omega) (by omega) (by omega) (by omega) (by omega) (by omega), if_neg (by omega), show ((0 : Int) + 1 + 1 + 1 + 1 - 1).toNat = 3 from rfl]
                    have a1 : (((0 * 64 + b64h_val (bt s i)) * 64 + b64h_val (bt s (i + 1))) * 64 + b64h_val (bt s (i + 1 + 1))) * 64 + b64h_val (bt s (i + 1 + 1 + 1)) = b64h_val (bt s i) * 262144 + b64h_val (bt s (i + 1)) * 4096 + b64h_val (bt s (i + 1 + 1)) * 64 + b64h_val (bt s (i + 1 + 1 + 1)) := by omega
                    rw [a1]
                    have e1 : (b64h_val (bt s i) * 262144 + b64h_val (bt s (i + 1)) * 4096 + b64h_val (bt s (i + 1 + 1)) * 64 + b64h_val (bt s (i + 1 + 1 + 1))) / 65536 = (b64h_val (bt s i) * 64 + b64h_val (bt s (i + 1))) / 16 := by omega
                    have e2 : (b64h_val (bt s i) * 262144 + b64h_val (bt s (i + 1)) * 4096 + b64h_val (bt s (i + 1 + 1)) * 64 + b64h_val (bt s (i + 1 + 1 + 1))) / 256 % 256 = ((b64h_val (bt s i) * 64 + b64h_val (bt s (i + 1))) % 16 * 64 + b64h_val (bt s (i + 1 + 1))) / 4 := by omega
                    have e3 : (b64h_val (bt s i) * 262144 + b64h_val (bt s (i + 1)) * 4096 + b64h_val (bt s (i + 1 + 1)) * 64 + b64h_val (bt s (i + 1 + 1 + 1))) % 256 = ((b64h_val (bt s i) * 64 + b64h_val (bt s (i + 1))) % 16 * 64 + b64h_val (bt s (i + 1 + 1))) % 4 * 64 + b64h_val (bt s (i + 1 + 1 + 1)) := by omega
                    rw [e1, e2, e3, show (List.take 3 [(b64h_val (bt s i) * 64 + b64h_val (bt s (i + 1))) / 16, ((b64h_val (bt s i) * 64 + b64h_val (bt s (i + 1))) % 16 * 64 + b64h_val (bt s (i + 1 + 1))) / 4, ((b64h_val (bt s i) * 64 + b64h_val (bt s (i + 1))) % 16 * 64 + b64h_val (bt s (i + 1 + 1))) % 4 * 64 + b64h_val (bt s (i + 1 + 1 + 1))]) = [(b64h_val (bt s i) * 64 + b64h_val (bt s (i + 1))) / 16, ((b64h_val (bt s i) * 64 + b64h_val (bt s (i + 1))) % 16 * 64 + b64h_val (bt s (i + 1 + 1))) / 4, ((b64h_val (bt s i) * 64 + b64h_val (bt s (i + 1))) % 16 * 64 + b64h_val (bt s (i + 1 + 1))) % 4 * 64 + b64h_val (bt s (i + 1 + 1 + 1))] from rfl]
                    rw [ih k _ (i + 4) (by omega) (by omega) (by omega) (by simp only [List.length_append, List.length_cons, List.length_nil]; omega) (by
                      intro x hx
                      rcases List.mem_append.1 hx with hx | hx
                      · exact hr x hx
                      · simp only [List.mem_cons, List.mem_nil_iff, or_false] at hx
                        rcases hx with rfl | rfl | rfl <;> omega) (by simp only [List.length_append, List.length_cons, List.length_nil]; omega) (by omega)]
                    simp only [refGo, v1, v2, v3, v4, or_self, if_false]
                    cases refGo ((bytesOf s).drop (i + 4).toNat) <;> simp
                · rw [dec_out s out _ i _ _ (i + 1 + 1 + 1) (by omega) (by omega) hi4 (by omega) (by omega) (by omega), show i + 1 + 1 + 1 + 1 = i + 4 by omega, dec_end s out _ i _ _ h0 (by omega) (by omega) (by omega) (by omega) (by omega) (by omega), if_neg (by omega), show ((0 : Int) + 1 + 1 + 1 - 1).toNat = 2 from rfl]
                  have a1 : (((0 * 64 + b64h_val (bt s i)) * 64 + b64h_val (bt s (i + 1))) * 64 + b64h_val (bt s (i + 1 + 1))) * 64 = b64h_val (bt s i) * 262144 + b64h_val (bt s (i + 1)) * 4096 + b64h_val (bt s (i + 1 + 1)) * 64 := by omega
                  rw [a1]
                  have e1 : (b64h_val (bt s i) * 262144 + b64h_val (bt s (i + 1)) * 4096 + b64h_val (bt s (i + 1 + 1)) * 64) / 65536 = (b64h_val (bt s i) * 64 + b64h_val (bt s (i + 1))) / 16 := by omega
                  have e2 : (b64h_val (bt s i) * 262144 + b64h_val (bt s (i + 1)) * 4096 + b64h_val (bt s (i + 1 + 1)) * 64) / 256 % 256 = ((b64h_val (bt s i) * 64 + b64h_val (bt s (i + 1))) % 16 * 64 + b64h_val (bt s (i + 1 + 1))) / 4 := by omega
                  rw [e1, e2]
                  rw [ih k _ (i + 4) (by omega) (by omega) (by omega) (by simp only [List.length_append, List.length_take, List.length_cons, List.length_nil]; omega) (by
                      intro x hx
                      rcases List.mem_append.1 hx with hx | hx
                      · exact hr x hx
                      · simp only [List.take_succ_cons, List.take_zero, List.mem_cons, List.mem_nil_iff, or_false] at hx
                        rcases hx with rfl | rfl <;> omega) (by simp only [List.length_append, List.length_take, List.length_cons, List.length_nil]; omega) (by omega)]
                  rw [List.drop_of_length_le (i := (i + 1 + 1 + 1).toNat) (by rw [bytesOf_length]; omega), List.drop_of_length_le (i := (i + 4).toNat) (by rw [bytesOf_length]; omega)]
                  simp [refGo, v1, v2, v3]
            · rw [dec_out s out _ i _ _ (i + 1 + 1) (by omega) (by omega) hi3 (by omega) (by omega) (by omega), dec_out s out _ i _ _ (i + 1 + 1 + 1) (by omega) (by omega) (by omega) (by omega) (by omega) (by omega), show i + 1 + 1 + 1 + 1 = i + 4 by omega, dec_end s out _ i _ _ h0 (by omega) (by omega) (by omega) (by omega) (by omega) (by omega), if_neg (by omega), show ((0 : Int) + 1 + 1 - 1).toNat = 1 from rfl]
              have a1 : ((0 * 64 + b64h_val (bt s i)) * 64 + b64h_val (bt s (i + 1))) * 64 * 64 = b64h_val (bt s i) * 262144 + b64h_val (bt s (i + 1)) * 4096 := by omega
              rw [a1]
              have e1 : (b64h_val (bt s i) * 262144 + b64h_val (bt s (i + 1)) * 4096) / 65536 = (b64h_val (bt s i) * 64 + b64h_val (bt s (i + 1))) / 16 := by omega
              rw [e1]
              rw [ih k _ (i + 4) (by omega) (by omega) (by omega) (by simp only [List.length_append, List.length_take, List.length_cons, List.length_nil]; omega) (by
                      intro x hx
                      rcases List.mem_append.1 hx with hx | hx
                      · exact hr x hx
                      · simp only [List.take_succ_cons, List.take_zero, List.mem_cons, List.mem_nil_iff, or_false] at hx
                        subst hx
                        omega) (by simp only [List.length_append, List.length_take, List.length_cons, List.length_nil]; omega) (by omega)]
              rw [List.drop_of_length_le (i := (i + 1 + 1).toNat) (by rw [bytesOf_length]; omega), List.drop_of_length_le (i := (i + 4).toNat) (by rw [bytesOf_length]; omega)]
              simp [refGo, v1, v2]
        · rw [dec_out s out _ i _ _ (i + 1) (by omega) (by omega) hi2 (by omega) (by omega) (by omega), dec_out s out _ i _ _ (i + 1 + 1) (by omega) (by omega) (by omega) (by omega) (by omega) (by omega), dec_out s out _ i _ _ (i + 1 + 1 + 1) (by omega) (by omega) (by omega) (by omega) (by omega) (by omega), show i + 1 + 1 + 1 + 1 = i + 4 by omega, dec_end s out _ i _ _ h0 (by omega) (by omega) (by omega) (by omega) (by omega) (by omega), if_pos (by omega)]
          rw [List.drop_of_length_le (i := (i + 1).toNat) (by rw [bytesOf_length]; omega)]
          simp [refGo]
    · obtain ⟨k, rfl⟩ : ∃ q, k = q + 1 := ⟨k - 1, by omega⟩
      simp only [nuncioref03_Decode.l0]
      rw [if_neg hi, List.drop_of_length_le (by rw [bytesOf_length]; omega), ref_close s hz out hr (by omega) k (by omega)]
      simp [refGo]
end Go.Proofs.Ytfoflodgegehfaa.B64
