/- The base of our walks: rows of bytes, short words for the walk's steps. -/
import Derived.Test.YtdpoookgmckclaaDoorProg
import Derived.Below
import Derived.Deep.Draws
import Derived.Deep.AppendLies
import Derived.Maps.AppendAt
import Derived.OwnWalk
import Derived.Laws.BytesArg
import Derived.Laws.MakeOwn
import Derived.Laws.OwnMore
import Derived.Deep.OwnRows
import Derived.Tactics
import Derived.Lib.ConvBytes
import Derived.Laws.Slices
import Derived.WalkKit
import Derived.KernelRfl
import Derived.RowKit3
import Derived.Deep.LoopGhost
import Derived.Deep.QuietTactic
import Derived.BigQuiet
import Derived.WideLaws
import Derived.Deep.DeepCutAuto
import Derived.Deep.CutBlock
import Derived.Deep.RegionHeld3
import Derived.Laws.Rows
import Derived.Lib.AppendStr
import Derived.ArgAppend
import Derived.Laws.IdiomCopy
import Derived.OrdersHeld
import Derived.Laws.BitsLemmas
import Derived.RowKit
import Derived.Test.YtdpoookgmckclaaDoorWWords
import Derived.Test.YtdpoookgmckclaaDoorWLast
import Derived.Test.YtdpoookgmckclaaDoorWKept
import Derived.Test.YtdpoookgmckclaaDoorWMore
import Derived.Test.YtdpoookgmckclaaDoorWMine
import Derived.Outline
import Derived.Lib.Hide
set_option linter.unusedVariables false
set_option linter.unusedSimpArgs false
namespace Go.Proofs.YtdpoookgmckclaaDoor.M
open Go.RowKit Go.Proofs.YtdpoookgmckclaaDoorW.PrintWords Go.Proofs.YtdpoookgmckclaaDoorW.PrintLast Go.Proofs.YtdpoookgmckclaaDoorW.PrintMore

theorem info8 : (Tryd.prog.info? 5).map (fun i => (i.zero, i.size, i.bytes)) = some (some (.int .u8 0), 1, 1) := by kernel_rfl
theorem info8s : (Tryd.prog.info? 5).map (·.size) = some 1 := by kernel_rfl
/-- A row of bytes of the call's own. -/
abbrev B8 (w : World) (base : Nat) (ok : Nat → Prop) (v : Value) (xs : List Int) : Prop := Kd.R (Kd.int .u8) 5 w base ok v xs
section
variable {ops : Array Oper} {rest : List Oper} {o : Oper} {a : Act} {Q : Exit → Act → World → Prop}
/-- append(v, p), p one element. -/
theorem app8 {w0 W : World} {base : Nat} (hgd : o.guard = none) (s x : Operand) (ho : o.op = .call { callee := .builtin .append, args := #[s, x], argTypes := #[63, 63] })
    {v : Value} {xs : List (Int)} {p : Int} {ok : Nat → Prop} (hs : a.eval s = v) (hx : a.eval x = .slice (some ⟨W.heap.size, 0, none⟩) 1 1)
    (HO : Kd.R (Kd.int .u8) 5 W base ok v xs) (HB : Below base w0 W) (hfresh : ∀ k, base ≤ k → W.heap.size ≤ k → ok k) (hbase : base ≤ W.heap.size) (hl : (xs.length + 1) * 1 ≤ 140737488355328)
    (h : ∀ v1 w1, Kd.R (Kd.int .u8) 5 w1 base ok v1 (xs ++ [p]) → Below base w0 w1 → W.grownBy w1 v.ownBlock → (v1.ownBlock = v.ownBlock ∨ ∃ b, v1.ownBlock = some b ∧ W.heap.size ≤ b) → wpList Tryd.prog ops Q rest (a.put o.dst v1) w1) :
    wpList Tryd.prog ops Q (o :: rest) a (W.alloc (.cells #[.int .u8 p] 5)) :=
  Kd.R_append (Kd.int .u8) (w0 := w0) base hgd s x 63 5 (.int .u8 0) 1 ho Tryd.underlying63 info8 rfl (by decide) (by omega) v xs p [.int .u8 p] ok (fun _ => False) hs hx rfl (fun _ hk => hk.elim) (fun k hk => hfresh k (Nat.le_trans hbase hk) hk) HO HB hbase hl h
end
section
variable {ops : Array Oper} {rest : List Oper} {o : Oper} {a : Act} {Q : Exit → Act → World → Prop}
/-- append(v, y...), y a text. -/
theorem app8s {w0 W : World} {base : Nat} (hgd : o.guard = none) (s x : Operand) (ho : o.op = .call { callee := .builtin .append, args := #[s, x], argTypes := #[63, 9] })
    {v : Value} {xs : List Int} {y : ByteArray} (hs : a.eval s = v) (hx : a.eval x = .string y)
    (HO : B8 W base (fun _ => True) v xs) (HB : Below base w0 W) (hbase : base ≤ W.heap.size) (hl : xs.length + y.size ≤ 140737488355328)
    (h : ∀ v1 w1, B8 w1 base (fun _ => True) v1 (xs ++ bytesOf y) → Below base w0 w1 → W.grownBy w1 v.ownBlock → wpList Tryd.prog ops Q rest (a.put o.dst v1) w1) :
    wpList Tryd.prog ops Q (o :: rest) a W :=
  print_append_str (w0 := w0) base hgd s x 63 9 5 ho Tryd.underlying63 Tryd.underlying9 info8 v xs y hs hx (Kd.own_of_R HO) HB hbase hl
    (fun v1 w1 h1 h2 h3 => h v1 w1 (Kd.R_of_own h1 (fun _ _ => trivial)) h2 h3)
/-- append(v, y...), y a row of bytes. -/
theorem app8r {w0 W : World} {base : Nat} (hgd : o.guard = none) (s x : Operand) (ho : o.op = .call { callee := .builtin .append, args := #[s, x], argTypes := #[63, 63] })
    {v : Value} {xs ys : List Int} {A : Option Addr} {m c : Nat} (hs : a.eval s = v) (hx : a.eval x = .slice A m c)
    (HO : B8 W base (fun _ => True) v xs) (HR : (Kd.int .u8).C W A m ys) (HB : Below base w0 W) (hbase : base ≤ W.heap.size) (hl : (xs.length + m) * 1 ≤ 140737488355328)
    (h : ∀ v1 w1, B8 w1 base (fun _ => True) v1 (xs ++ ys) → Below base w0 w1 → W.grownBy w1 v.ownBlock → wpList Tryd.prog ops Q rest (a.put o.dst v1) w1) :
    wpList Tryd.prog ops Q (o :: rest) a W :=
  Kd.R_append_row (Value.int .u8) (0 : Int) (h1 := fun _ => rfl) (w0 := w0) base hgd s x 63 5 (.int .u8 0) 1 ho Tryd.underlying63 info8 rfl (by decide) v xs ys A m c (fun _ => True) hs hx (fun _ _ => trivial) HO HR HB hbase hl
    (fun v1 w1 h1 h2 h3 _ => h v1 w1 h1 h2 h3)
end
theorem strOf {W : World} {base : Nat} {ok : Nat → Prop} {v : Value} {xs : List Int} (h : B8 W base ok v xs) : (convert 63 9 v).run Tryd.prog W = .ok (.string (strOfNums xs)) W :=
  own_string (P := Tryd.prog) Tryd.underlying63 Tryd.underlying5 Tryd.underlying9 (Kd.own_of_R h)
/-- What was, reads as it did. -/
theorem bcell {W w1 : World} (hb : Below W.heap.size W w1) : (∀ b o, b < W.heap.size → w1.cell? ⟨b, o, none⟩ = W.cell? ⟨b, o, none⟩) ∧ (∀ b o, b < W.heap.size → w1.frozen? ⟨b, o, none⟩ = W.frozen? ⟨b, o, none⟩) :=
  ⟨fun b o h => hb.cell (p := ⟨b, o, none⟩) h, fun b o h => hb.frozen (p := ⟨b, o, none⟩) h⟩
theorem bt_range (s : ByteArray) (j : Nat) : 0 ≤ bt s (j : Int) ∧ bt s (j : Int) < 256 := by
  have := rd_bytesOf s (j : Int)
  rw [← this]
  unfold rd
  rw [List.getD_eq_getElem?_getD]
  cases h : (bytesOf s)[((j : Int)).toNat]? with
  | none => simp
  | some x =>
    obtain ⟨hl, rfl⟩ := List.getElem?_eq_some_iff.1 h
    have hm : (bytesOf s)[((j : Int)).toNat] ∈ bytesOf s := List.getElem_mem hl
    rw [Option.getD_some]
    generalize (bytesOf s)[((j : Int)).toNat] = x at hm
    unfold bytesOf at hm
    obtain ⟨b, _, rfl⟩ := List.mem_map.1 hm
    have := b.toNat_lt
    omega
theorem text_ne {s t : ByteArray} (h : ¬ s = t) : (s.toList == t.toList) = false := by
  rw [← beq_toListBytes]
  rw [Bool.eq_false_iff]
  exact fun e => h ((MapKept.bytes_beq s t).1 e)
theorem text_eq (s : ByteArray) : (s.toList == s.toList) = true := by simp
theorem text_dec (s t : ByteArray) : (s.toList == t.toList) = decide (s = t) := by
  by_cases h : s = t
  · rw [h, text_eq, decide_eq_true rfl]
  · rw [text_ne h, decide_eq_false h]
theorem drop_bytes (s : ByteArray) (j : Nat) (hj : j < s.size) : (bytesOf s).drop j = bt s (j : Int) :: (bytesOf s).drop (j + 1) := by
  have hl : j < (bytesOf s).length := by rw [bytesOf_length]; exact hj
  have hr := rd_bytesOf s (j : Int)
  unfold rd at hr
  rw [List.getD_eq_getElem?_getD, Int.toNat_natCast, List.getElem?_eq_getElem hl, Option.getD_some] at hr
  rw [List.drop_eq_getElem_cons hl, hr]
theorem tb_data (l : List Int) : (strOfNums l).data.toList = l.map fun n => UInt8.ofNat n.toNat := by
  simp [strOfNums]
theorem tb_str (s : ByteArray) : strOfNums (bytesOf s) = s := by
  apply ByteArray.ext
  apply Array.toList_inj.1
  rw [tb_data]
  unfold bytesOf
  rw [List.map_map]
  conv => rhs; rw [← List.map_id s.data.toList]
  apply List.map_congr_left
  intro b _
  simp
theorem tb_take (s : ByteArray) (k : Nat) : bytesOf (s.extract 0 k) = (bytesOf s).take k := by
  simp [bytesOf, List.map_take, List.extract_eq_take_drop]
theorem tb_drop (s : ByteArray) (k : Nat) : bytesOf (s.extract k s.size) = (bytesOf s).drop k := by
  have h : (bytesOf s).length = s.size := bytesOf_length s
  simp only [bytesOf] at h ⊢
  simp [List.extract_eq_take_drop]
  rw [List.take_of_length_le]
  simp
theorem tb_mid (s : ByteArray) (i j : Nat) : bytesOf (s.extract i j) = ((bytesOf s).drop i).take (j - i) := by
  simp [bytesOf, List.extract_eq_take_drop, List.map_take]
theorem tb_app (s t : ByteArray) : bytesOf (s ++ t) = bytesOf s ++ bytesOf t := by
  simp [bytesOf]
theorem tb_byt {l : List Int} (h : ∀ x ∈ l, 0 ≤ x ∧ x < 256) : bytesOf (strOfNums l) = l := by
  unfold bytesOf
  rw [tb_data, List.map_map]
  induction l with
  | nil => rfl
  | cons a l ih =>
    rw [List.map_cons, ih (fun x hx => h x (by simp [hx]))]
    have := h a (by simp)
    congr 1
    simp only [Function.comp]
    rw [UInt8.toNat_ofNat']
    omega
theorem tb_inj {s t : ByteArray} (h : bytesOf s = bytesOf t) : s = t := by rw [← tb_str s, ← tb_str t, h]
theorem tb_range (s : ByteArray) : ∀ x ∈ bytesOf s, 0 ≤ x ∧ x < 256 := by
  intro x hx
  unfold bytesOf at hx
  obtain ⟨b, _, rfl⟩ := List.mem_map.1 hx
  have := b.toNat_lt
  omega
end Go.Proofs.YtdpoookgmckclaaDoor.M
