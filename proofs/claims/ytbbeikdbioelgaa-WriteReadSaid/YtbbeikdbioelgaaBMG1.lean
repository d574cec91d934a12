/- Joined texts: walks and plain laws. -/
import Derived.Test.YtbbeikdbioelgaaProg
import Derived.Below
import Derived.Deep.Draws
import Derived.Deep.AppendLies
import Derived.Maps.AppendAt
import Derived.OwnWalk
import Derived.Laws.BytesArg
import Derived.Laws.MakeOwn
import Derived.Laws.OwnMore
import Derived.Deep.OwnRows
import Derived.Tactics
import Derived.Lib.ConvBytes
import Derived.Laws.Slices
import Derived.WalkKit
import Derived.KernelRfl
import Derived.RowKit3
import Derived.Deep.LoopGhost
import Derived.Deep.QuietTactic
import Derived.BigQuiet
import Derived.WideLaws
import Derived.Deep.DeepCutAuto
import Derived.Deep.CutBlock
import Derived.Deep.RegionHeld3
import Derived.Laws.Rows
import Derived.Lib.AppendStr
import Derived.ArgAppend
import Derived.Laws.IdiomCopy
import Derived.OrdersHeld
import Derived.Laws.BitsLemmas
import Derived.RowKit
import Derived.Test.YtbbeikdbioelgaaBWWords
import Derived.Test.YtbbeikdbioelgaaBWLast
import Derived.Test.YtbbeikdbioelgaaBWKept
import Derived.Test.YtbbeikdbioelgaaBWMore
import Derived.Test.YtbbeikdbioelgaaBWMine
import Derived.Outline
import Derived.Lib.Hide
import Derived.Deep.DrawnRows
import Derived.Maps.OwnSet
import Derived.Maps.Ext
import Derived.StringKeys
import Derived.StillTailTactics
import Derived.Deep.RegionLaw
import Derived.Deep.DeepMust
set_option linter.unusedVariables false
set_option linter.unusedSimpArgs false
namespace Go.Proofs.Ytbbeikdbioelgaa.M
open Go.RowKit Go.Proofs.YtbbeikdbioelgaaW.PrintWords Go.Proofs.YtbbeikdbioelgaaW.PrintLast Go.Proofs.YtbbeikdbioelgaaW.PrintMore
theorem info8 : (Try.prog.info? 5).map (fun i => (i.zero, i.size, i.bytes)) = some (some (.int .u8 0), 1, 1) := by kernel_rfl
theorem info8s : (Try.prog.info? 5).map (·.size) = some 1 := by kernel_rfl
abbrev B8 (w : World) (base : Nat) (ok : Nat → Prop) (v : Value) (xs : List Int) : Prop := Kd.R (Kd.int .u8) 5 w base ok v xs
section
variable {ops : Array Oper} {rest : List Oper} {o : Oper} {a : Act} {Q : Exit → Act → World → Prop}
theorem app8 {w0 W : World} {base : Nat} (hgd : o.guard = none) (s x : Operand) (ho : o.op = .call { callee := .builtin .append, args := #[s, x], argTypes := #[57, 57] })
    {v : Value} {xs : List (Int)} {p : Int} {ok : Nat → Prop} (hs : a.eval s = v) (hx : a.eval x = .slice (some ⟨W.heap.size, 0, none⟩) 1 1)
    (HO : Kd.R (Kd.int .u8) 5 W base ok v xs) (HB : Below base w0 W) (hfresh : ∀ k, base ≤ k → W.heap.size ≤ k → ok k) (hbase : base ≤ W.heap.size) (hl : (xs.length + 1) * 1 ≤ 140737488355328)
    (h : ∀ v1 w1, Kd.R (Kd.int .u8) 5 w1 base ok v1 (xs ++ [p]) → Below base w0 w1 → W.grownBy w1 v.ownBlock → (v1.ownBlock = v.ownBlock ∨ ∃ b, v1.ownBlock = some b ∧ W.heap.size ≤ b) → wpList Try.prog ops Q rest (a.put o.dst v1) w1) :
    wpList Try.prog ops Q (o :: rest) a (W.alloc (.cells #[.int .u8 p] 5)) :=
  Kd.R_append (Kd.int .u8) (w0 := w0) base hgd s x 57 5 (.int .u8 0) 1 ho Try.underlying57 info8 rfl (by decide) (by omega) v xs p [.int .u8 p] ok (fun _ => False) hs hx rfl (fun _ hk => hk.elim) (fun k hk => hfresh k (Nat.le_trans hbase hk) hk) HO HB hbase hl h
end
section
variable {ops : Array Oper} {rest : List Oper} {o : Oper} {a : Act} {Q : Exit → Act → World → Prop}
theorem app8s {w0 W : World} {base : Nat} (hgd : o.guard = none) (s x : Operand) (ho : o.op = .call { callee := .builtin .append, args := #[s, x], argTypes := #[57, 9] })
    {v : Value} {xs : List Int} {y : ByteArray} (hs : a.eval s = v) (hx : a.eval x = .string y)
    (HO : B8 W base (fun _ => True) v xs) (HB : Below base w0 W) (hbase : base ≤ W.heap.size) (hl : xs.length + y.size ≤ 140737488355328)
    (h : ∀ v1 w1, B8 w1 base (fun _ => True) v1 (xs ++ bytesOf y) → Below base w0 w1 → W.grownBy w1 v.ownBlock → wpList Try.prog ops Q rest (a.put o.dst v1) w1) :
    wpList Try.prog ops Q (o :: rest) a W :=
  print_append_str (w0 := w0) base hgd s x 57 9 5 ho Try.underlying57 Try.underlying9 info8 v xs y hs hx (Kd.own_of_R HO) HB hbase hl
    (fun v1 w1 h1 h2 h3 => h v1 w1 (Kd.R_of_own h1 (fun _ _ => trivial)) h2 h3)
end
theorem strOf {W : World} {base : Nat} {ok : Nat → Prop} {v : Value} {xs : List Int} (h : B8 W base ok v xs) : (convert 57 9 v).run Try.prog W = .ok (.string (strOfNums xs)) W :=
  own_string (P := Try.prog) Try.underlying57 Try.underlying5 Try.underlying9 (Kd.own_of_R h)
theorem bt_range (s : ByteArray) (j : Nat) : 0 ≤ bt s (j : Int) ∧ bt s (j : Int) < 256 := by
  have := rd_bytesOf s (j : Int)
  rw [← this]
  unfold rd
  rw [List.getD_eq_getElem?_getD]
  cases h : (bytesOf s)[((j : Int)).toNat]? with
  | none => simp
  | some x =>
    obtain ⟨hl, rfl⟩ := List.getElem?_eq_some_iff.1 h
    have hm : (bytesOf s)[((j : Int)).toNat] ∈ bytesOf s := List.getElem_mem hl
    rw [Option.getD_some]
    generalize (bytesOf s)[((j : Int)).toNat] = x at hm
    unfold bytesOf at hm
    obtain ⟨b, _, rfl⟩ := List.mem_map.1 hm
    have := b.toNat_lt
    omega
theorem text_ne {s t : ByteArray} (h : ¬ s = t) : (s.toList == t.toList) = false := by
  rw [← beq_toListBytes]
  rw [Bool.eq_false_iff]
  exact fun e => h ((MapKept.bytes_beq s t).1 e)
theorem text_eq (s : ByteArray) : (s.toList == s.toList) = true := by simp
theorem drop_bytes (s : ByteArray) (j : Nat) (hj : j < s.size) : (bytesOf s).drop j = bt s (j : Int) :: (bytesOf s).drop (j + 1) := by
  have hl : j < (bytesOf s).length := by rw [bytesOf_length]; exact hj
  have hr := rd_bytesOf s (j : Int)
  unfold rd at hr
  rw [List.getD_eq_getElem?_getD, Int.toNat_natCast, List.getElem?_eq_getElem hl, Option.getD_some] at hr
  rw [List.drop_eq_getElem_cons hl, hr]
theorem tb_data (l : List Int) : (strOfNums l).data.toList = l.map fun n => UInt8.ofNat n.toNat := by
  simp [strOfNums]
theorem tb_str (s : ByteArray) : strOfNums (bytesOf s) = s := by
  apply ByteArray.ext
  apply Array.toList_inj.1
  rw [tb_data]
  unfold bytesOf
  rw [List.map_map]
  conv => rhs; rw [← List.map_id s.data.toList]
  apply List.map_congr_left
  intro b _
  simp
theorem tb_inj {s t : ByteArray} (h : bytesOf s = bytesOf t) : s = t := by rw [← tb_str s, ← tb_str t, h]
end Go.Proofs.Ytbbeikdbioelgaa.M
set_option linter.unusedVariables false
set_option linter.unusedSimpArgs false
namespace Go.Proofs.Ytbbeikdbioelgaa.M
open Go.RowKit Go.Proofs.YtbbeikdbioelgaaW.PrintWords Go.Proofs.YtbbeikdbioelgaaW.PrintLast Go.Proofs.YtbbeikdbioelgaaW.PrintMore
theorem infoS : (Try.prog.info? 9).map (fun i => (i.zero, i.size, i.bytes)) = some (some (.string ⟨#[]⟩), 1, 16) := by kernel_rfl
theorem info32 : (Try.prog.info? 41).map (fun i => (i.zero, i.size, i.bytes)) = some (some (.int .u32 0), 1, 4) := by kernel_rfl
theorem infoRec : (Try.prog.info? 44).map (fun i => (i.zero, i.size, i.bytes)) = some (some (.agg #[(.string ⟨#[]⟩), (.int .u16 0), (.int .u16 0), (.int .u32 0), (.slice none 0 0), (.slice none 0 0), (.slice none 0 0)]), 7, 96) := by kernel_rfl
theorem infoQues : (Try.prog.info? 39).map (fun i => (i.zero, i.size, i.bytes)) = some (some (.agg #[(.string ⟨#[]⟩), (.int .u16 0), (.int .u16 0)]), 3, 24) := by kernel_rfl
section
variable {ops : Array Oper} {rest : List Oper} {o : Oper} {a : Act} {Q : Exit → Act → World → Prop}
theorem app32 {w0 W : World} {base : Nat} (hgd : o.guard = none) (s x : Operand) (ho : o.op = .call { callee := .builtin .append, args := #[s, x], argTypes := #[42, 42] })
    {v : Value} {xs : List (Int)} {p : Int} {ok : Nat → Prop} (hs : a.eval s = v) (hx : a.eval x = .slice (some ⟨W.heap.size, 0, none⟩) 1 1)
    (HO : Kd.R (Kd.int .u32) 41 W base ok v xs) (HB : Below base w0 W) (hfresh : ∀ k, base ≤ k → W.heap.size ≤ k → ok k) (hbase : base ≤ W.heap.size) (hl : (xs.length + 1) * 4 ≤ 140737488355328)
    (h : ∀ v1 w1, Kd.R (Kd.int .u32) 41 w1 base ok v1 (xs ++ [p]) → Below base w0 w1 → W.grownBy w1 v.ownBlock → (v1.ownBlock = v.ownBlock ∨ ∃ b, v1.ownBlock = some b ∧ W.heap.size ≤ b) → wpList Try.prog ops Q rest (a.put o.dst v1) w1) :
    wpList Try.prog ops Q (o :: rest) a (W.alloc (.cells #[.int .u32 p] 41)) :=
  Kd.R_append (Kd.int .u32) (w0 := w0) base hgd s x 42 41 (.int .u32 0) 4 ho Try.underlying42 info32 rfl (by decide) (by omega) v xs p [.int .u32 p] ok (fun _ => False) hs hx rfl (fun _ hk => hk.elim) (fun k hk => hfresh k (Nat.le_trans hbase hk) hk) HO HB hbase hl h
end
section
variable {ops : Array Oper} {rest : List Oper} {o : Oper} {a : Act} {Q : Exit → Act → World → Prop}
theorem appS {w0 W : World} {base : Nat} (hgd : o.guard = none) (s x : Operand) (ho : o.op = .call { callee := .builtin .append, args := #[s, x], argTypes := #[40, 40] })
    {v : Value} {xs : List (ByteArray)} {p : ByteArray} {ok : Nat → Prop} (hs : a.eval s = v) (hx : a.eval x = .slice (some ⟨W.heap.size, 0, none⟩) 1 1)
    (HO : Kd.R Kd.string 9 W base ok v xs) (HB : Below base w0 W) (hfresh : ∀ k, base ≤ k → W.heap.size ≤ k → ok k) (hbase : base ≤ W.heap.size) (hl : (xs.length + 1) * 16 ≤ 140737488355328)
    (h : ∀ v1 w1, Kd.R Kd.string 9 w1 base ok v1 (xs ++ [p]) → Below base w0 w1 → W.grownBy w1 v.ownBlock → (v1.ownBlock = v.ownBlock ∨ ∃ b, v1.ownBlock = some b ∧ W.heap.size ≤ b) → wpList Try.prog ops Q rest (a.put o.dst v1) w1) :
    wpList Try.prog ops Q (o :: rest) a (W.alloc (.cells #[.string p] 9)) :=
  Kd.R_append Kd.string (w0 := w0) base hgd s x 40 9 (.string ⟨#[]⟩) 16 ho Try.underlying40 infoS rfl (by decide) (by omega) v xs p [.string p] ok (fun _ => False) hs hx rfl (fun _ hk => hk.elim) (fun k hk => hfresh k (Nat.le_trans hbase hk) hk) HO HB hbase hl h
end
structure Rec where
  f0 : ByteArray
  f1 : Int
  f2 : Int
  f3 : Int
  f4 : (List ByteArray)
  f5 : (List Int)
  f6 : (List ByteArray)
def zRec : Rec := ⟨(⟨#[]⟩ : ByteArray), (0 : Int), (0 : Int), (0 : Int), ([] : List ByteArray), ([] : List Int), ([] : List ByteArray)⟩
def kRec : Kd Rec := Kd.iso (Kd.pair Kd.string (Kd.pair (Kd.int .u16) (Kd.pair (Kd.int .u16) (Kd.pair (Kd.int .u32) (Kd.pair (Kd.slice 9 Kd.string) (Kd.pair (Kd.slice 41 (Kd.int .u32)) (Kd.slice 9 Kd.string))))))) (fun x : Rec => (x.f0, x.f1, x.f2, x.f3, x.f4, x.f5, x.f6))
theorem kRec_open {w : World} {x : Rec} {cs : List Value} (h : kRec.K w x cs) : ∃ A4 c4 A5 c5 A6 c6, cs = [.string x.f0, .int .u16 x.f1, .int .u16 x.f2, .int .u32 x.f3, .slice A4 x.f4.length c4, .slice A5 x.f5.length c5, .slice A6 x.f6.length c6] ∧ x.f4.length ≤ c4 ∧ Kd.string.C w A4 x.f4.length x.f4 ∧ x.f5.length ≤ c5 ∧ (Kd.int .u32).C w A5 x.f5.length x.f5 ∧ x.f6.length ≤ c6 ∧ Kd.string.C w A6 x.f6.length x.f6 := by
  obtain ⟨_, _, rfl, rfl, ⟨_, _, rfl, rfl, ⟨_, _, rfl, rfl, ⟨_, _, rfl, rfl, ⟨_, _, rfl, ⟨A4, c4, rfl, l4, g4⟩, ⟨_, _, rfl, ⟨A5, c5, rfl, l5, g5⟩, ⟨A6, c6, rfl, l6, g6⟩⟩⟩⟩⟩⟩⟩ := h
  exact ⟨A4, c4, A5, c5, A6, c6, rfl, l4, g4, l5, g5, l6, g6⟩
theorem kRec_mk (w : World) (x : Rec) {A4 : Option Addr} {c4 : Nat} (l4 : x.f4.length ≤ c4) (g4 : Kd.string.C w A4 x.f4.length x.f4) {A5 : Option Addr} {c5 : Nat} (l5 : x.f5.length ≤ c5) (g5 : (Kd.int .u32).C w A5 x.f5.length x.f5) {A6 : Option Addr} {c6 : Nat} (l6 : x.f6.length ≤ c6) (g6 : Kd.string.C w A6 x.f6.length x.f6) : kRec.K w x [.string x.f0, .int .u16 x.f1, .int .u16 x.f2, .int .u32 x.f3, .slice A4 x.f4.length c4, .slice A5 x.f5.length c5, .slice A6 x.f6.length c6] := ⟨[.string x.f0], [.int .u16 x.f1, .int .u16 x.f2, .int .u32 x.f3, .slice A4 x.f4.length c4, .slice A5 x.f5.length c5, .slice A6 x.f6.length c6], rfl, rfl, ⟨[.int .u16 x.f1], [.int .u16 x.f2, .int .u32 x.f3, .slice A4 x.f4.length c4, .slice A5 x.f5.length c5, .slice A6 x.f6.length c6], rfl, rfl, ⟨[.int .u16 x.f2], [.int .u32 x.f3, .slice A4 x.f4.length c4, .slice A5 x.f5.length c5, .slice A6 x.f6.length c6], rfl, rfl, ⟨[.int .u32 x.f3], [.slice A4 x.f4.length c4, .slice A5 x.f5.length c5, .slice A6 x.f6.length c6], rfl, rfl, ⟨[.slice A4 x.f4.length c4], [.slice A5 x.f5.length c5, .slice A6 x.f6.length c6], rfl, ⟨A4, c4, rfl, l4, g4⟩, ⟨[.slice A5 x.f5.length c5], [.slice A6 x.f6.length c6], rfl, ⟨A5, c5, rfl, l5, g5⟩, ⟨A6, c6, rfl, l6, g6⟩⟩⟩⟩⟩⟩⟩
theorem kRec_mkM (w : World) (base : Nat) (ok : Nat → Prop) (x : Rec) {v4 : Value} (g4 : Kd.string.R 9 w base ok v4 x.f4) {v5 : Value} (g5 : (Kd.int .u32).R 41 w base ok v5 x.f5) {v6 : Value} (g6 : Kd.string.R 9 w base ok v6 x.f6) : kRec.M w base ok x [.string x.f0, .int .u16 x.f1, .int .u16 x.f2, .int .u32 x.f3, v4, v5, v6] := ⟨[.string x.f0], [.int .u16 x.f1, .int .u16 x.f2, .int .u32 x.f3, v4, v5, v6], rfl, rfl, ⟨[.int .u16 x.f1], [.int .u16 x.f2, .int .u32 x.f3, v4, v5, v6], rfl, rfl, ⟨[.int .u16 x.f2], [.int .u32 x.f3, v4, v5, v6], rfl, rfl, ⟨[.int .u32 x.f3], [v4, v5, v6], rfl, rfl, ⟨[v4], [v5, v6], rfl, ⟨v4, rfl, g4⟩, ⟨[v5], [v6], rfl, ⟨v5, rfl, g5⟩, ⟨v6, rfl, g6⟩⟩⟩⟩⟩⟩⟩
def rd_TRec (xs : List Rec) (i : Int) : Rec := xs.getD i.toNat zRec
theorem at_TRec {w : World} {A : Option Addr} {n : Nat} {xs : List Rec} (h : Kd.C kRec w A n xs) (i : Int) (h0 : 0 ≤ i) (h1 : i < n) : ∃ ad A4 c4 A5 c5 A6 c6, A = some ad ∧ w.cell? (ad.add (i.toNat * 7)) = some (.string (rd_TRec xs i).f0) ∧ w.cell? ⟨(ad.add (i.toNat * 7)).block, (ad.add (i.toNat * 7)).off + 1, none⟩ = some (.int .u16 (rd_TRec xs i).f1) ∧ w.cell? ⟨(ad.add (i.toNat * 7)).block, (ad.add (i.toNat * 7)).off + 2, none⟩ = some (.int .u16 (rd_TRec xs i).f2) ∧ w.cell? ⟨(ad.add (i.toNat * 7)).block, (ad.add (i.toNat * 7)).off + 3, none⟩ = some (.int .u32 (rd_TRec xs i).f3) ∧ w.cell? ⟨(ad.add (i.toNat * 7)).block, (ad.add (i.toNat * 7)).off + 4, none⟩ = some (.slice A4 (rd_TRec xs i).f4.length c4) ∧ w.cell? ⟨(ad.add (i.toNat * 7)).block, (ad.add (i.toNat * 7)).off + 5, none⟩ = some (.slice A5 (rd_TRec xs i).f5.length c5) ∧ w.cell? ⟨(ad.add (i.toNat * 7)).block, (ad.add (i.toNat * 7)).off + 6, none⟩ = some (.slice A6 (rd_TRec xs i).f6.length c6) ∧ (rd_TRec xs i).f4.length ≤ c4 ∧ Kd.string.C w A4 (rd_TRec xs i).f4.length (rd_TRec xs i).f4 ∧ (rd_TRec xs i).f5.length ≤ c5 ∧ (Kd.int .u32).C w A5 (rd_TRec xs i).f5.length (rd_TRec xs i).f5 ∧ (rd_TRec xs i).f6.length ≤ c6 ∧ Kd.string.C w A6 (rd_TRec xs i).f6.length (rd_TRec xs i).f6 := by
  obtain ⟨ad, c, e, _, hK, hc0⟩ := Kd.C_get h zRec i h0 h1
  have hc : ∀ j u, c[j]? = some u → w.cell? (ad.add (i.toNat * 7 + j)) = some u := hc0
  obtain ⟨A4, c4, A5, c5, A6, c6, rfl, l4, g4, l5, g5, l6, g6⟩ := kRec_open hK
  exact ⟨ad, A4, c4, A5, c5, A6, c6, e, hc 0 _ rfl, by rw [← add_field _ _ 1 (by omega)]; exact hc 1 _ rfl, by rw [← add_field _ _ 2 (by omega)]; exact hc 2 _ rfl, by rw [← add_field _ _ 3 (by omega)]; exact hc 3 _ rfl, by rw [← add_field _ _ 4 (by omega)]; exact hc 4 _ rfl, by rw [← add_field _ _ 5 (by omega)]; exact hc 5 _ rfl, by rw [← add_field _ _ 6 (by omega)]; exact hc 6 _ rfl, l4, g4, l5, g5, l6, g6⟩
structure Ques where
  f0 : ByteArray
  f1 : Int
  f2 : Int
def zQues : Ques := ⟨(⟨#[]⟩ : ByteArray), (0 : Int), (0 : Int)⟩
def kQues : Kd Ques := Kd.iso (Kd.pair Kd.string (Kd.pair (Kd.int .u16) (Kd.int .u16))) (fun x : Ques => (x.f0, x.f1, x.f2))
theorem kQues_open {w : World} {x : Ques} {cs : List Value} (h : kQues.K w x cs) : cs = [.string x.f0, .int .u16 x.f1, .int .u16 x.f2] := by
  obtain ⟨_, _, rfl, rfl, ⟨_, _, rfl, rfl, rfl⟩⟩ := h
  exact rfl
theorem kQues_mk (w : World) (x : Ques)  : kQues.K w x [.string x.f0, .int .u16 x.f1, .int .u16 x.f2] := ⟨[.string x.f0], [.int .u16 x.f1, .int .u16 x.f2], rfl, rfl, ⟨[.int .u16 x.f1], [.int .u16 x.f2], rfl, rfl, rfl⟩⟩
theorem kQues_mkM (w : World) (base : Nat) (ok : Nat → Prop) (x : Ques)  : kQues.M w base ok x [.string x.f0, .int .u16 x.f1, .int .u16 x.f2] := ⟨[.string x.f0], [.int .u16 x.f1, .int .u16 x.f2], rfl, rfl, ⟨[.int .u16 x.f1], [.int .u16 x.f2], rfl, rfl, rfl⟩⟩
def rd_TQues (xs : List Ques) (i : Int) : Ques := xs.getD i.toNat zQues
theorem at_TQues {w : World} {A : Option Addr} {n : Nat} {xs : List Ques} (h : Kd.C kQues w A n xs) (i : Int) (h0 : 0 ≤ i) (h1 : i < n) : ∃ ad , A = some ad ∧ w.cell? (ad.add (i.toNat * 3)) = some (.string (rd_TQues xs i).f0) ∧ w.cell? ⟨(ad.add (i.toNat * 3)).block, (ad.add (i.toNat * 3)).off + 1, none⟩ = some (.int .u16 (rd_TQues xs i).f1) ∧ w.cell? ⟨(ad.add (i.toNat * 3)).block, (ad.add (i.toNat * 3)).off + 2, none⟩ = some (.int .u16 (rd_TQues xs i).f2) := by
  obtain ⟨ad, c, e, _, hK, hc0⟩ := Kd.C_get h zQues i h0 h1
  have hc : ∀ j u, c[j]? = some u → w.cell? (ad.add (i.toNat * 3 + j)) = some u := hc0
  obtain rfl := kQues_open hK
  exact ⟨ad, e, hc 0 _ rfl, by rw [← add_field _ _ 1 (by omega)]; exact hc 1 _ rfl, by rw [← add_field _ _ 2 (by omega)]; exact hc 2 _ rfl⟩
structure Msg where
  id : Int
  flags : Int
  qs : List Ques
  ans : List Rec
  auth : List Rec
  add : List Rec
def RecAt (w : World) (v : Value) (x : Rec) : Prop := ∃ A4 c4 A5 c5 A6 c6, v = .agg #[.string x.f0, .int .u16 x.f1, .int .u16 x.f2, .int .u32 x.f3, .slice A4 x.f4.length c4, .slice A5 x.f5.length c5, .slice A6 x.f6.length c6] ∧ x.f4.length ≤ c4 ∧ Kd.string.C w A4 x.f4.length x.f4 ∧ x.f5.length ≤ c5 ∧ (Kd.int .u32).C w A5 x.f5.length x.f5 ∧ x.f6.length ≤ c6 ∧ Kd.string.C w A6 x.f6.length x.f6
theorem RecAt.below {w w1 : World} {v : Value} {x : Rec} (h : RecAt w v x) (hb : Below w.heap.size w w1) : RecAt w1 v x := by
  obtain ⟨A4, c4, A5, c5, A6, c6, rfl, l4, g4, l5, g5, l6, g6⟩ := h
  exact ⟨A4, c4, A5, c5, A6, c6, rfl, l4, Kd.C_below g4 hb, l5, Kd.C_below g5 hb, l6, Kd.C_below g6 hb⟩
def MsgAt (w : World) (v : Value) (m : Msg) : Prop := ∃ A2 c2 A3 c3 A4 c4 A5 c5, v = .agg #[.int .u16 m.id, .int .u16 m.flags, .slice A2 m.qs.length c2, .slice A3 m.ans.length c3, .slice A4 m.auth.length c4, .slice A5 m.add.length c5] ∧
  m.qs.length ≤ c2 ∧ kQues.C w A2 m.qs.length m.qs ∧ m.ans.length ≤ c3 ∧ kRec.C w A3 m.ans.length m.ans ∧ m.auth.length ≤ c4 ∧ kRec.C w A4 m.auth.length m.auth ∧ m.add.length ≤ c5 ∧ kRec.C w A5 m.add.length m.add
theorem MsgAt.below {w w1 : World} {v : Value} {m : Msg} (h : MsgAt w v m) (hb : Below w.heap.size w w1) : MsgAt w1 v m := by
  obtain ⟨A2, c2, A3, c3, A4, c4, A5, c5, rfl, l2, g2, l3, g3, l4, g4, l5, g5⟩ := h
  exact ⟨A2, c2, A3, c3, A4, c4, A5, c5, rfl, l2, Kd.C_below g2 hb, l3, Kd.C_below g3 hb, l4, Kd.C_below g4 hb, l5, Kd.C_below g5 hb⟩
theorem at_str {w : World} {A : Option Addr} {n : Nat} {xs : List ByteArray} (h : Kd.string.C w A n xs) (k : Nat) (h1 : k < n) : ∃ ad, A = some ad ∧ w.cell? (ad.add k) = some (.string (xs.getD k ⟨#[]⟩)) := by
  obtain ⟨ad, c, e, _, hK, hc⟩ := Kd.C_get h (⟨#[]⟩ : ByteArray) k (by omega) (by omega)
  obtain rfl : c = [.string (xs.getD k ⟨#[]⟩)] := hK
  exact ⟨ad, e, by have := hc 0 _ rfl; simpa [Kd.string, Kd.scalar] using this⟩
theorem at_int {κ : IntKind} {w : World} {A : Option Addr} {n : Nat} {xs : List Int} (h : (Kd.int κ).C w A n xs) (k : Nat) (h1 : k < n) : ∃ ad, A = some ad ∧ w.cell? (ad.add k) = some (.int κ (xs.getD k 0)) := by
  obtain ⟨ad, c, e, _, hK, hc⟩ := Kd.C_get h (0 : Int) k (by omega) (by omega)
  obtain rfl : c = [.int κ (xs.getD k 0)] := hK
  exact ⟨ad, e, by have := hc 0 _ rfl; simpa [Kd.int, Kd.scalar] using this⟩
theorem at_rec {w : World} {A : Option Addr} {n : Nat} {xs : List Rec} (h : kRec.C w A n xs) (k : Nat) (h1 : k < n) : ∃ ad A4 c4 A5 c5 A6 c6 r, A = some ad ∧ xs.getD k zRec = r ∧ w.cell? (ad.add (k * 7)) = some (.string r.f0) ∧ w.cell? ⟨(ad.add (k * 7)).block, (ad.add (k * 7)).off + 1, none⟩ = some (.int .u16 r.f1) ∧ w.cell? ⟨(ad.add (k * 7)).block, (ad.add (k * 7)).off + 2, none⟩ = some (.int .u16 r.f2) ∧ w.cell? ⟨(ad.add (k * 7)).block, (ad.add (k * 7)).off + 3, none⟩ = some (.int .u32 r.f3) ∧
    w.cell? ⟨(ad.add (k * 7)).block, (ad.add (k * 7)).off + 4, none⟩ = some (.slice A4 r.f4.length c4) ∧ w.cell? ⟨(ad.add (k * 7)).block, (ad.add (k * 7)).off + 5, none⟩ = some (.slice A5 r.f5.length c5) ∧ w.cell? ⟨(ad.add (k * 7)).block, (ad.add (k * 7)).off + 6, none⟩ = some (.slice A6 r.f6.length c6) ∧ RecAt w (.agg #[.string r.f0, .int .u16 r.f1, .int .u16 r.f2, .int .u32 r.f3, .slice A4 r.f4.length c4, .slice A5 r.f5.length c5, .slice A6 r.f6.length c6]) r := by
  obtain ⟨ad, A4, c4, A5, c5, A6, c6, e, h0, h1, h2, h3, h4, h5, h6, l4, g4, l5, g5, l6, g6⟩ := at_TRec h k (by omega) (by omega)
  rw [Int.toNat_natCast] at h0 h1 h2 h3 h4 h5 h6
  exact ⟨ad, A4, c4, A5, c5, A6, c6, _, e, rfl, h0, h1, h2, h3, h4, h5, h6, A4, c4, A5, c5, A6, c6, rfl, l4, g4, l5, g5, l6, g6⟩
theorem at_ques {w : World} {A : Option Addr} {n : Nat} {xs : List Ques} (h : kQues.C w A n xs) (k : Nat) (h1 : k < n) : ∃ ad q, A = some ad ∧ xs.getD k zQues = q ∧ w.cell? (ad.add (k * 3)) = some (.string q.f0) ∧ w.cell? ⟨(ad.add (k * 3)).block, (ad.add (k * 3)).off + 1, none⟩ = some (.int .u16 q.f1) ∧ w.cell? ⟨(ad.add (k * 3)).block, (ad.add (k * 3)).off + 2, none⟩ = some (.int .u16 q.f2) := by
  obtain ⟨ad, e, h0, h1, h2⟩ := at_TQues h k (by omega) (by omega)
  rw [Int.toNat_natCast] at h0 h1 h2
  exact ⟨ad, _, e, rfl, h0, h1, h2⟩
end Go.Proofs.Ytbbeikdbioelgaa.M
set_option linter.unusedVariables false
set_option linter.unusedSimpArgs false
namespace Go.Proofs.Ytbbeikdbioelgaa.M
open Go.RowKit Go.Proofs.YtbbeikdbioelgaaW.PrintWords Go.Proofs.YtbbeikdbioelgaaW.PrintLast Go.Proofs.YtbbeikdbioelgaaW.PrintMore
attribute [local go_sem] max2_int min2_int max_two min_two max_three min_three max_four min_four
def nb (s : ByteArray) (i : Nat) : Nat := if h : i < s.size then (s[i]'h).toNat else 0
theorem nb_lt (s : ByteArray) (i : Nat) : nb s i < 256 := by
  unfold nb
  split
  · exact UInt8.toNat_lt _
  · omega
theorem nb_at (s : ByteArray) (i : Nat) : ∀ h : i < s.size, ((s[i]'h).toNat : Int) = (nb s i : Int) := by
  intro h
  unfold nb
  rw [dif_pos h]
def splitF : Nat → ByteArray → List ByteArray → List ByteArray × Bool
  | 0, _, _ => ([], false)
  | k + 1, s, out => if s.size = 0 then ([], false) else if nb s 0 = 0 then (out, s.size == 1) else if 63 < nb s 0 ∨ s.size ≤ nb s 0 then ([], false)
    else splitF k (s.extract (nb s 0 + 1) s.size) (out ++ [s.extract 1 (nb s 0 + 1)])
def split (s : ByteArray) : List ByteArray × Bool := if 255 < s.size then ([], false) else splitF (s.size + 1) s []
def isName (s : ByteArray) : Bool := (split s).2
theorem one_beq (a : Nat) : ((a : Int) == 1) = (a == 1) := by
  rw [Bool.eq_iff_iff]
  simp only [beq_iff_eq]
  omega
set_option maxHeartbeats 2000000 in
set_option maxRecDepth 100000 in
theorem split_calls (s : ByteArray) (w : World) :
    Calls Try.prog 59 #[.string s] w fun e w' => ∃ v, e = .returned (.tuple #[v, .bool (split s).2]) ∧ Kd.R Kd.string 9 w' w.heap.size (fun _ => True) v (split s).1 ∧ Below w.heap.size w w' := by
  have HB := Aside0.mk (Below.refl w.heap.size w)
  obtain ⟨r, hr⟩ : ∃ r, split s = r := ⟨_, rfl⟩
  rw [hr]
  by_cases hl : 255 < s.size
  · obtain rfl : r = ([], false) := by rw [← hr]; unfold split; rw [if_pos hl]
    have h1 : decide ((255 : Int) < (s.size : Int)) = true := decide_eq_true (by omega)
    have h2 : decide (255 < s.size) = true := decide_eq_true hl
    clear hl hr
    go_enter Try.func59, Try.ntmps59
    go_wp2
    go_ret2
    exact ⟨_, rfl, Kd.R_nil _ _ _ _ _, HB.out⟩
  · have h1 : decide ((255 : Int) < (s.size : Int)) = false := decide_eq_false (by omega)
    have h2 : decide (255 < s.size) = false := decide_eq_false hl
    have HR := Aside0.mk (show splitF (s.size + 1) s [] = r by rw [← hr]; unfold split; rw [if_neg hl])
    have HS := Aside0.mk (show s.size ≤ 255 by omega)
    clear hl hr
    go_enter Try.func59, Try.ntmps59
    go_wp2
    go_loopg [0, 4] (s.size + 1) (fun kq v0 v4 w' => ∃ (x : ByteArray) (out : List ByteArray), v0 = .string x ∧ Aside0 (splitF kq x out = r) ∧ Aside0 (x.size < kq) ∧ Aside0 (x.size ≤ 255) ∧ Aside0 (out.length + x.size ≤ 255) ∧ Aside0 (Kd.R Kd.string 9 w' w.heap.size (fun _ => True) v4 out) ∧ Aside0 (Below w.heap.size w w'))
    case atStart => exact ⟨s, [], rfl, HR, ⟨Nat.lt_succ_self _⟩, HS, ⟨by simpa using HS.out⟩, ⟨Kd.R_nil _ _ _ _ _⟩, HB⟩
    case round =>
      clear HR HB h1 h2
      obtain ⟨x, out, rfl, HR, HK, HX, HL, HO, HB⟩ := hrel
      obtain ⟨k, rfl⟩ : ∃ k, gk = k + 1 := ⟨gk - 1, by have := HK.out; omega⟩
      have hr := HR.out
      simp only [splitF] at hr
      clear HR
      by_cases c1 : x.size = 0
      · rw [if_pos c1] at hr
        subst hr
        have d1 : decide ((0 : Int) < (x.size : Int)) = false := decide_eq_false (by omega)
        have d2 : decide (0 < x.size) = false := decide_eq_false (by omega)
        clear c1
        go_wp2
        go_ret2
        exact ⟨_, rfl, Kd.R_nil _ _ _ _ _, HB.out⟩
      · rw [if_neg c1] at hr
        have q1 : 0 < x.size := by omega
        have d1 : decide ((0 : Int) < (x.size : Int)) = true := decide_eq_true (by omega)
        have d2 : decide (0 < x.size) = true := decide_eq_true (by omega)
        have hx := nb_at x 0
        have hn := nb_lt x 0
        obtain ⟨n, hnb⟩ : ∃ n, nb x 0 = n := ⟨_, rfl⟩
        rw [hnb] at hx hn hr
        clear hnb c1
        by_cases c2 : n = 0
        · subst c2
          rw [if_pos rfl] at hr
          subst hr
          go_wp2
          go_ret2
          exact ⟨_, by rw [← one_beq]; rfl, HO.out, HB.out⟩
        · rw [if_neg c2] at hr
          have q2 : (0 : Int) < (n : Int) := by omega
          have q3 : (n : Int) ≤ 255 := by omega
          have e2 : ((n : Int) == 0) = false := beq_eq_false_iff_ne.mpr (by omega)
          clear c2
          by_cases c3 : 63 < n ∨ x.size ≤ n
          · rw [if_pos c3] at hr
            subst hr
            by_cases c4 : 63 < n
            · have e3 : decide ((63 : Int) < (n : Int)) = true := decide_eq_true (by omega)
              clear c3 c4
              go_wp2
              go_ret2
              exact ⟨_, rfl, Kd.R_nil _ _ _ _ _, HB.out⟩
            · have e3 : decide ((63 : Int) < (n : Int)) = false := decide_eq_false (by omega)
              have e4 : x.size ≤ n := by omega
              clear c3 c4
              go_wp2
              go_ret2
              exact ⟨_, rfl, Kd.R_nil _ _ _ _ _, HB.out⟩
          · rw [if_neg c3] at hr
            have HR := Aside0.mk hr
            clear hr
            have e3 : decide ((63 : Int) < (n : Int)) = false := decide_eq_false (by omega)
            have e4 : decide (x.size ≤ n) = false := decide_eq_false (by omega)
            have q4 : (n : Int) + 1 ≤ (x.size : Int) := by omega
            have q5 : (1 : Int) ≤ (n : Int) + 1 := by omega
            have q6 : (0 : Int) ≤ (n : Int) + 1 := by omega
            clear c3
            have HS2 := Aside0.mk (show (out.length + 1) * 16 ≤ 140737488355328 by have := HL.out; omega)
            go_wp2_with ((with_reducible refine gate_builtin (b := .append) (xs := #[.tmp 29, .tmp 34]) rfl ?_); at_builtin; refine appS rfl (.tmp 29) (.tmp 34) rfl rfl rfl HO.out HB.out (fun _ _ _ => trivial) (below_size HB.out) HS2.out ?_; intro v1 w1 ho1 hb1 hg1 hat1; have HO1 := Aside0.mk ho1; have HB1 := Aside0.mk hb1; clear ho1 hb1 hg1 hat1)
            go_roundg k
            case measure => omega
            case rel => exact ⟨_, _, rfl, HR, ⟨by have := HK.out; simp [ByteArray.size_extract]; omega⟩, ⟨by have := HX.out; simp [ByteArray.size_extract]; omega⟩, ⟨by have := HL.out; simp [ByteArray.size_extract]; omega⟩, HO1, HB1⟩
theorem isName_yes (s : ByteArray) (w : World) (h : isName s = true) : Calls Try.prog 40 #[.string s] w fun e w' => e = .returned (.bool true) ∧ Below w.heap.size w w' := by
  have h0 : (split s).2 = true := h
  have H := Lib.hid h0
  clear h h0
  go_enter Try.func40, Try.ntmps40
  go_wp2_with (go_at_call 59; refine (split_calls s _).mono ?_; rintro e w' ⟨v, rfl, _, hb⟩; rw [H.out]; have HB := Aside0.mk hb; clear hb)
  go_ret
  exact ⟨rfl, HB.out⟩
theorem isName_no (s : ByteArray) (w : World) (h : isName s = false) : Calls Try.prog 40 #[.string s] w fun e w' => e = .returned (.bool false) ∧ Below w.heap.size w w' := by
  have h0 : (split s).2 = false := h
  have H := Lib.hid h0
  clear h h0
  go_enter Try.func40, Try.ntmps40
  go_wp2_with (go_at_call 59; refine (split_calls s _).mono ?_; rintro e w' ⟨v, rfl, _, hb⟩; rw [H.out]; have HB := Aside0.mk hb; clear hb)
  go_ret
  exact ⟨rfl, HB.out⟩
end Go.Proofs.Ytbbeikdbioelgaa.M
set_option linter.unusedVariables false
set_option linter.unusedSimpArgs false
namespace Go.Proofs.Ytbbeikdbioelgaa.M
open Go.RowKit Go.Proofs.YtbbeikdbioelgaaW.PrintWords Go.Proofs.YtbbeikdbioelgaaW.PrintLast Go.Proofs.YtbbeikdbioelgaaW.PrintMore
attribute [local go_sem] max2_int min2_int max_two min_two max_three min_three max_four min_four
def idxOf (p : ByteArray → Bool) (xs : List ByteArray) : Int := match xs.findIdx? p with | some i => i | none => -1
theorem upto_succ {P : Nat → Prop} {k : Nat} (h : ∀ j, j < k → P j) (hk : P k) : ∀ j, j < k + 1 → P j := by
  intro j hj
  by_cases e : j = k
  · rw [e]; exact hk
  · exact h j (by omega)
theorem idxOf_yes {p : ByteArray → Bool} {xs : List ByteArray} {k : Nat} (h : ∀ j, j < k → p (xs.getD j ⟨#[]⟩) = false) (hk : k < xs.length) (hp : p (xs.getD k ⟨#[]⟩) = true) : idxOf p xs = k := by
  unfold idxOf
  have : xs.findIdx? p = some k := by
    rw [List.findIdx?_eq_some_iff_getElem]
    refine ⟨hk, ?_, fun j hj => ?_⟩
    · simpa [List.getD_eq_getElem?_getD, List.getElem?_eq_getElem hk] using hp
    · have := h j hj
      simpa [List.getD_eq_getElem?_getD, List.getElem?_eq_getElem (show j < xs.length by omega)] using this
  rw [this]
theorem idxOf_no {p : ByteArray → Bool} {xs : List ByteArray} (h : ∀ j, j < xs.length → p (xs.getD j ⟨#[]⟩) = false) : idxOf p xs = -1 := by
  unfold idxOf
  have : xs.findIdx? p = none := by
    rw [List.findIdx?_eq_none_iff]
    intro x hx
    obtain ⟨j, hj, rfl⟩ := List.getElem_of_mem hx
    have := h j hj
    simpa [List.getD_eq_getElem?_getD, List.getElem?_eq_getElem hj] using this
  rw [this]
def tooLong (s : ByteArray) : Bool := decide (255 < s.size)
theorem tooLong_yes (s : ByteArray) (w : World) (h : tooLong s = true) : Calls Try.prog 76 #[.string s] w fun e w' => e = .returned (.bool true) ∧ Below w.heap.size w w' := by
  have h1 : decide (255 < s.size) = true := h
  have h2 : decide ((255 : Int) < (s.size : Int)) = true := decide_eq_true (by have := of_decide_eq_true h1; omega)
  clear h
  go_enter Try.func76, Try.ntmps76
  go_wp2
  go_ret
  exact ⟨rfl, Below.refl _ _⟩
theorem tooLong_no (s : ByteArray) (w : World) (h : tooLong s = false) : Calls Try.prog 76 #[.string s] w fun e w' => e = .returned (.bool false) ∧ Below w.heap.size w w' := by
  have h1 : decide (255 < s.size) = false := h
  have h2 : decide ((255 : Int) < (s.size : Int)) = false := decide_eq_false (by have := of_decide_eq_false h1; omega)
  clear h
  go_enter Try.func76, Try.ntmps76
  go_wp2
  go_ret
  exact ⟨rfl, Below.refl _ _⟩
set_option maxHeartbeats 1000000 in
theorem IndexFunc_tooLong (A : Option Addr) (c : Nat) (xs : List ByteArray) (w : World) (hr : Kd.string.C w A xs.length xs) (hm : xs.length ≤ 1000000000000) :
    Calls Try.prog 74 #[.slice A xs.length c, .func (.func 76) #[] #[]] w fun e w' => e = .returned (.int .i64 (idxOf tooLong xs)) ∧ Below w.heap.size w w' := by
  have HC := Aside0.mk hr
  have HB := Aside0.mk (Below.refl w.heap.size w)
  clear hr
  go_enter Try.func74, Try.ntmps74
  go_wp2
  go_loopw [8] (fun t wr => ∃ k : Nat, t = .int .i64 k ∧ Aside0 (k ≤ xs.length) ∧ Aside0 (∀ j, j < k → tooLong (xs.getD j ⟨#[]⟩) = false) ∧ Aside0 (Below w.heap.size w wr)) (fun t _ => xs.length - (intOf t).toNat)
  case atStart => exact ⟨0, rfl, ⟨Nat.zero_le _⟩, ⟨fun j hj => absurd hj (by omega)⟩, HB⟩
  case round =>
    clear HB
    obtain ⟨k, rfl, HK, HN, HB⟩ := hrel
    by_cases hk : k < xs.length
    · obtain ⟨ad, rfl, hcell⟩ := at_str (Kd.C_below HC.out HB.out) k hk
      have q1 : (0 : Int) ≤ (k : Int) := by omega
      have q2 : (k : Int) < (xs.length : Int) := by omega
      obtain ⟨s, hs⟩ : ∃ s, xs.getD k ⟨#[]⟩ = s := ⟨_, rfl⟩
      rw [hs] at hcell
      have HS := Lib.hid hs
      clear hs
      by_cases hq : tooLong s = true
      · have HQ := Lib.hid hq
        clear hq
        go_wp2_with (go_at_call 76; refine (tooLong_yes s _ HQ.out).mono ?_; rintro e w' ⟨rfl, hb⟩; have HB' := Aside0.mk (HB.out.trans (hb.mono (below_size HB.out))); clear hb)
        go_ret
        exact ⟨by rw [idxOf_yes HN.out hk (by rw [HS.out]; exact HQ.out)]; rfl, HB'.out⟩
      · have HQ := Lib.hid (Bool.eq_false_iff.mpr hq)
        clear hq
        go_wp2_with (go_at_call 76; refine (tooLong_no s _ HQ.out).mono ?_; rintro e w' ⟨rfl, hb⟩; have HB' := Aside0.mk (HB.out.trans (hb.mono (below_size HB.out))); clear hb)
        go_roundw
        case rel => exact ⟨k + 1, by go_num, ⟨hk⟩, ⟨upto_succ HN.out (by rw [HS.out]; exact HQ.out)⟩, HB'⟩
        case measure => simp [intOf]; omega
    · go_wp2
      go_ret
      have := HK.out
      obtain rfl : k = xs.length := by omega
      exact ⟨by rw [idxOf_no HN.out]; rfl, HB.out⟩
def notName (s : ByteArray) : Bool := !isName s
theorem notName_yes (s : ByteArray) (w : World) (h : notName s = true) : Calls Try.prog 61 #[.string s] w fun e w' => e = .returned (.bool true) ∧ Below w.heap.size w w' := by
  have H := Lib.hid (show isName s = false by unfold notName at h; simpa using h)
  clear h
  go_enter Try.func61, Try.ntmps61
  go_wp2_with (go_at_call 40; refine (isName_no s _ H.out).mono ?_; rintro e w' ⟨rfl, hb⟩; have HB := Aside0.mk hb; clear hb)
  go_ret
  exact ⟨rfl, HB.out⟩
theorem notName_no (s : ByteArray) (w : World) (h : notName s = false) : Calls Try.prog 61 #[.string s] w fun e w' => e = .returned (.bool false) ∧ Below w.heap.size w w' := by
  have H := Lib.hid (show isName s = true by unfold notName at h; simpa using h)
  clear h
  go_enter Try.func61, Try.ntmps61
  go_wp2_with (go_at_call 40; refine (isName_yes s _ H.out).mono ?_; rintro e w' ⟨rfl, hb⟩; have HB := Aside0.mk hb; clear hb)
  go_ret
  exact ⟨rfl, HB.out⟩
set_option maxHeartbeats 1000000 in
theorem IndexFunc_notName (A : Option Addr) (c : Nat) (xs : List ByteArray) (w : World) (hr : Kd.string.C w A xs.length xs) (hm : xs.length ≤ 1000000000000) :
    Calls Try.prog 74 #[.slice A xs.length c, .func (.func 61) #[] #[]] w fun e w' => e = .returned (.int .i64 (idxOf notName xs)) ∧ Below w.heap.size w w' := by
  have HC := Aside0.mk hr
  have HB := Aside0.mk (Below.refl w.heap.size w)
  clear hr
  go_enter Try.func74, Try.ntmps74
  go_wp2
  go_loopw [8] (fun t wr => ∃ k : Nat, t = .int .i64 k ∧ Aside0 (k ≤ xs.length) ∧ Aside0 (∀ j, j < k → notName (xs.getD j ⟨#[]⟩) = false) ∧ Aside0 (Below w.heap.size w wr)) (fun t _ => xs.length - (intOf t).toNat)
  case atStart => exact ⟨0, rfl, ⟨Nat.zero_le _⟩, ⟨fun j hj => absurd hj (by omega)⟩, HB⟩
  case round =>
    clear HB
    obtain ⟨k, rfl, HK, HN, HB⟩ := hrel
    by_cases hk : k < xs.length
    · obtain ⟨ad, rfl, hcell⟩ := at_str (Kd.C_below HC.out HB.out) k hk
      have q1 : (0 : Int) ≤ (k : Int) := by omega
      have q2 : (k : Int) < (xs.length : Int) := by omega
      obtain ⟨s, hs⟩ : ∃ s, xs.getD k ⟨#[]⟩ = s := ⟨_, rfl⟩
      rw [hs] at hcell
      have HS := Lib.hid hs
      clear hs
      by_cases hq : notName s = true
      · have HQ := Lib.hid hq
        clear hq
        go_wp2_with (go_at_call 61; refine (notName_yes s _ HQ.out).mono ?_; rintro e w' ⟨rfl, hb⟩; have HB' := Aside0.mk (HB.out.trans (hb.mono (below_size HB.out))); clear hb)
        go_ret
        exact ⟨by rw [idxOf_yes HN.out hk (by rw [HS.out]; exact HQ.out)]; rfl, HB'.out⟩
      · have HQ := Lib.hid (Bool.eq_false_iff.mpr hq)
        clear hq
        go_wp2_with (go_at_call 61; refine (notName_no s _ HQ.out).mono ?_; rintro e w' ⟨rfl, hb⟩; have HB' := Aside0.mk (HB.out.trans (hb.mono (below_size HB.out))); clear hb)
        go_roundw
        case rel => exact ⟨k + 1, by go_num, ⟨hk⟩, ⟨upto_succ HN.out (by rw [HS.out]; exact HQ.out)⟩, HB'⟩
        case measure => simp [intOf]; omega
    · go_wp2
      go_ret
      have := HK.out
      obtain rfl : k = xs.length := by omega
      exact ⟨by rw [idxOf_no HN.out]; rfl, HB.out⟩
theorem idxOf_any {p : ByteArray → Bool} {xs : List ByteArray} : (0 ≤ idxOf p xs ↔ xs.any p = true) ∧ idxOf p xs ≤ xs.length ∧ -1 ≤ idxOf p xs := by
  unfold idxOf
  cases h : xs.findIdx? p with
  | none =>
    rw [List.findIdx?_eq_none_iff] at h
    refine ⟨⟨fun h0 => absurd h0 (by decide), fun h1 => ?_⟩, by simp, by simp⟩
    obtain ⟨x, hx, hp⟩ := List.any_eq_true.1 h1
    rw [h x hx] at hp
    exact absurd hp (by decide)
  | some i =>
    obtain ⟨hi, hp, _⟩ := List.findIdx?_eq_some_iff_getElem.1 h
    refine ⟨⟨fun _ => List.any_eq_true.2 ⟨_, List.getElem_mem hi, hp⟩, fun _ => by simp⟩, by simp; omega, by simp only []; omega⟩
theorem Contains_tooLong (A : Option Addr) (c : Nat) (xs : List ByteArray) (w : World) (hr : Kd.string.C w A xs.length xs) (hm : xs.length ≤ 1000000000000) (b : Bool) (hb : xs.any tooLong = b) :
    Calls Try.prog 60 #[.slice A xs.length c, .func (.func 76) #[] #[]] w fun e w' => e = .returned (.bool b) ∧ Below w.heap.size w w' := by
  obtain ⟨h1, h2, h3⟩ := @idxOf_any tooLong xs
  obtain ⟨i, hi⟩ : ∃ i, idxOf tooLong xs = i := ⟨_, rfl⟩
  rw [hi] at h1 h2 h3
  have HI := Lib.hid hi
  have HC := Aside0.mk hr
  have HF := Lib.hid (show decide (0 ≤ i) = b by rw [← hb, Bool.eq_iff_iff, decide_eq_true_iff]; exact h1)
  clear hi hb hr h1
  go_enter Try.func60, Try.ntmps60
  go_wp2_with (go_at_call 74; refine (IndexFunc_tooLong A c xs _ HC.out hm).mono ?_; rw [HI.out]; rintro e w' ⟨rfl, hb⟩; have HB := Aside0.mk hb; clear hb)
  go_ret
  exact ⟨by rw [← HF.out]; rfl, HB.out⟩
theorem Contains_notName (A : Option Addr) (c : Nat) (xs : List ByteArray) (w : World) (hr : Kd.string.C w A xs.length xs) (hm : xs.length ≤ 1000000000000) (b : Bool) (hb : xs.any notName = b) :
    Calls Try.prog 60 #[.slice A xs.length c, .func (.func 61) #[] #[]] w fun e w' => e = .returned (.bool b) ∧ Below w.heap.size w w' := by
  obtain ⟨h1, h2, h3⟩ := @idxOf_any notName xs
  obtain ⟨i, hi⟩ : ∃ i, idxOf notName xs = i := ⟨_, rfl⟩
  rw [hi] at h1 h2 h3
  have HI := Lib.hid hi
  have HC := Aside0.mk hr
  have HF := Lib.hid (show decide (0 ≤ i) = b by rw [← hb, Bool.eq_iff_iff, decide_eq_true_iff]; exact h1)
  clear hi hb hr h1
  go_enter Try.func60, Try.ntmps60
  go_wp2_with (go_at_call 74; refine (IndexFunc_notName A c xs _ HC.out hm).mono ?_; rw [HI.out]; rintro e w' ⟨rfl, hb⟩; have HB := Aside0.mk hb; clear hb)
  go_ret
  exact ⟨by rw [← HF.out]; rfl, HB.out⟩
end Go.Proofs.Ytbbeikdbioelgaa.M
set_option linter.unusedVariables false
set_option linter.unusedSimpArgs false
namespace Go.Proofs.Ytbbeikdbioelgaa.M
open Go.RowKit Go.Proofs.YtbbeikdbioelgaaW.PrintWords Go.Proofs.YtbbeikdbioelgaaW.PrintLast Go.Proofs.YtbbeikdbioelgaaW.PrintMore
attribute [local go_sem] max2_int min2_int max_two min_two max_three min_three max_four min_four
def shapeOf (k : Int) : Nat × Nat × Nat :=
  if k = 2 then (1, 0, 0) else if k = 5 then (1, 0, 0) else if k = 12 then (1, 0, 0) else if k = 6 then (2, 5, 0) else if k = 15 then (1, 1, 0) else if k = 33 then (1, 3, 0) else (0, 0, 1)
theorem shapeOf_le (k : Int) : (shapeOf k).1 ≤ 2 ∧ (shapeOf k).2.1 ≤ 5 ∧ (shapeOf k).2.2 ≤ 1 := by
  unfold shapeOf
  repeat' split
  all_goals decide
theorem Shape_calls (k : Int) (w : World) : Calls Try.prog 75 #[.int .u16 k] w fun e w' => e = .returned (.tuple #[.int .i64 (shapeOf k).1, .int .i64 (shapeOf k).2.1, .int .i64 (shapeOf k).2.2]) ∧ w = w' := by
  obtain ⟨x, hx⟩ : ∃ x, shapeOf k = x := ⟨_, rfl⟩
  rw [hx]
  unfold shapeOf at hx
  by_cases h1 : k = 2
  · subst h1; subst hx
    go_enter Try.func75, Try.ntmps75
    go_wp2
    go_ret3
    exact ⟨rfl, rfl⟩
  by_cases h2 : k = 5
  · subst h2; subst hx
    go_enter Try.func75, Try.ntmps75
    go_wp2
    go_ret3
    exact ⟨rfl, rfl⟩
  by_cases h3 : k = 12
  · subst h3; subst hx
    go_enter Try.func75, Try.ntmps75
    go_wp2
    go_ret3
    exact ⟨rfl, rfl⟩
  by_cases h4 : k = 6
  · subst h4; subst hx
    go_enter Try.func75, Try.ntmps75
    go_wp2
    go_ret3
    exact ⟨rfl, rfl⟩
  by_cases h5 : k = 15
  · subst h5; subst hx
    go_enter Try.func75, Try.ntmps75
    go_wp2
    go_ret3
    exact ⟨rfl, rfl⟩
  by_cases h6 : k = 33
  · subst h6; subst hx
    go_enter Try.func75, Try.ntmps75
    go_wp2
    go_ret3
    exact ⟨rfl, rfl⟩
  rw [if_neg h1, if_neg h2, if_neg h3, if_neg h4, if_neg h5, if_neg h6] at hx
  subst hx
  replace h1 : (k == 2) = false := beq_eq_false_iff_ne.mpr h1
  replace h2 : (k == 5) = false := beq_eq_false_iff_ne.mpr h2
  replace h3 : (k == 12) = false := beq_eq_false_iff_ne.mpr h3
  replace h4 : (k == 6) = false := beq_eq_false_iff_ne.mpr h4
  replace h5 : (k == 15) = false := beq_eq_false_iff_ne.mpr h5
  replace h6 : (k == 33) = false := beq_eq_false_iff_ne.mpr h6
  go_enter Try.func75, Try.ntmps75
  go_wp2
  go_ret3
  exact ⟨rfl, rfl⟩
theorem four_beq (a : Nat) : ((a : Int) == 4) = decide (a = 4) := by
  rw [Bool.eq_iff_iff]
  simp only [beq_iff_eq, decide_eq_true_eq]
  omega
theorem sixteen_beq (a : Nat) : ((a : Int) == 16) = decide (a = 16) := by
  rw [Bool.eq_iff_iff]
  simp only [beq_iff_eq, decide_eq_true_eq]
  omega
def shapedE (r : Rec) : Bool := if r.f1 = 1 then decide ((r.f6.getD 0 ⟨#[]⟩).size = 4) else if r.f1 = 28 then decide ((r.f6.getD 0 ⟨#[]⟩).size = 16) else if r.f1 = 16 then !(r.f6.any tooLong) else true
def shapedB (r : Rec) : Bool := decide (r.f4.length = (shapeOf r.f1).1 ∧ r.f5.length = (shapeOf r.f1).2.1 ∧ (r.f6.length = (shapeOf r.f1).2.2 ∨ r.f1 = 16 ∧ r.f6.length ≠ 0) ∧ (r.f1 = 6 ∨ r.f5.all fun n => decide (n ≤ 65535))) && shapedE r
set_option maxHeartbeats 2000000 in
set_option maxRecDepth 100000 in
theorem shaped_calls (r : Rec) (v : Value) (w : World) (hv : RecAt w v r) (hm : r.f6.length ≤ 1000000000) :
    Calls Try.prog 62 #[v] w fun e w' => e = .returned (.bool (shapedB r)) ∧ Below w.heap.size w w' := by
  obtain ⟨A4, c4, A5, c5, A6, c6, rfl, l4, g4, l5, g5, l6, g6⟩ := hv
  have G5 := Aside0.mk g5
  have G6 := Aside0.mk g6
  clear g4 g5 g6
  obtain ⟨s1, s2, s3⟩ := shapeOf_le r.f1
  obtain ⟨⟨a, b, c⟩, hs⟩ : ∃ x, shapeOf r.f1 = x := ⟨_, rfl⟩
  obtain ⟨R, hR⟩ : ∃ R, shapedB r = R := ⟨_, rfl⟩
  rw [hR]
  rw [hs] at s1 s2 s3
  have HR := Lib.hid hR
  have HS := Lib.hid hs
  clear hR hs
  by_cases k1 : r.f4.length = a
  case neg =>
    have HF := Lib.hid (show R = false by rw [← HR.out]; unfold shapedB; rw [HS.out]; simp [k1])
    have e1 : ((r.f4.length : Int) != (a : Int)) = true := by rw [bne_iff_ne]; omega
    clear k1
    go_enter Try.func62, Try.ntmps62
    go_wp2_with (first | (((with_reducible refine gate_dst (N := 1) rfl ?_); refine box_event rfl (N := 1) rfl (cs := #[.string r.f0, .int .u16 r.f1, .int .u16 r.f2, .int .u32 r.f3, .slice A4 r.f4.length c4, .slice A5 r.f5.length c5, .slice A6 r.f6.length c6]) (t := 44) (by first | (go_simp; done) | (go_simp; rfl)) ?_; intro g hg w1 hbox hb); obtain ⟨z0, z1⟩ : w1.cell? ⟨g, 1, none⟩ = some (.int .u16 r.f1) ∧ w1.cell? ⟨g, 4, none⟩ = some (.slice A4 r.f4.length c4) := ⟨(blk_cell hbox 1).trans rfl, (blk_cell hbox 4).trans rfl⟩; obtain ⟨z2, z3⟩ : w1.cell? ⟨g, 5, none⟩ = some (.slice A5 r.f5.length c5) ∧ w1.cell? ⟨g, 6, none⟩ = some (.slice A6 r.f6.length c6) := ⟨(blk_cell hbox 5).trans rfl, (blk_cell hbox 6).trans rfl⟩; have HB := Aside0.mk hb; have HX := Aside0.mk hbox; clear hb hbox hg) | (go_at_call 75; refine (Shape_calls r.f1 _).mono ?_; rw [HS.out]; rintro e w' ⟨rfl, rfl⟩))
    go_ret
    exact ⟨by rw [HF.out]; rfl, HB.out⟩
  by_cases k2 : r.f5.length = b
  case neg =>
    have HF := Lib.hid (show R = false by rw [← HR.out]; unfold shapedB; rw [HS.out]; simp [k2])
    have e1 : ((r.f4.length : Int) != (a : Int)) = false := by rw [bne_eq_false_iff_eq]; omega
    have e2 : ((r.f5.length : Int) != (b : Int)) = true := by rw [bne_iff_ne]; omega
    clear k1 k2
    go_enter Try.func62, Try.ntmps62
    go_wp2_with (first | (((with_reducible refine gate_dst (N := 1) rfl ?_); refine box_event rfl (N := 1) rfl (cs := #[.string r.f0, .int .u16 r.f1, .int .u16 r.f2, .int .u32 r.f3, .slice A4 r.f4.length c4, .slice A5 r.f5.length c5, .slice A6 r.f6.length c6]) (t := 44) (by first | (go_simp; done) | (go_simp; rfl)) ?_; intro g hg w1 hbox hb); obtain ⟨z0, z1⟩ : w1.cell? ⟨g, 1, none⟩ = some (.int .u16 r.f1) ∧ w1.cell? ⟨g, 4, none⟩ = some (.slice A4 r.f4.length c4) := ⟨(blk_cell hbox 1).trans rfl, (blk_cell hbox 4).trans rfl⟩; obtain ⟨z2, z3⟩ : w1.cell? ⟨g, 5, none⟩ = some (.slice A5 r.f5.length c5) ∧ w1.cell? ⟨g, 6, none⟩ = some (.slice A6 r.f6.length c6) := ⟨(blk_cell hbox 5).trans rfl, (blk_cell hbox 6).trans rfl⟩; have HB := Aside0.mk hb; have HX := Aside0.mk hbox; clear hb hbox hg) | (go_at_call 75; refine (Shape_calls r.f1 _).mono ?_; rw [HS.out]; rintro e w' ⟨rfl, rfl⟩))
    go_ret
    exact ⟨by rw [HF.out]; rfl, HB.out⟩
  have e1 : ((r.f4.length : Int) != (a : Int)) = false := by rw [bne_eq_false_iff_eq]; omega
  have e2 : ((r.f5.length : Int) != (b : Int)) = false := by rw [bne_eq_false_iff_eq]; omega
  by_cases k3 : r.f6.length = c ∨ r.f1 = 16 ∧ r.f6.length ≠ 0
  case neg =>
    have HF := Lib.hid (show R = false by rw [← HR.out]; unfold shapedB; rw [HS.out, decide_eq_false (fun h => k3 h.2.2.1)]; rfl)
    have e3 : ((r.f6.length : Int) != (c : Int)) = true := by rw [bne_iff_ne]; omega
    by_cases k4 : r.f1 = 16
    · have e5 : ((r.f6.length : Int) == 0) = true := beq_iff_eq.mpr (by omega)
      have e4 : (r.f1 != 16) = false := by rw [bne_eq_false_iff_eq]; exact k4
      clear k1 k2 k3 k4
      go_enter Try.func62, Try.ntmps62
      go_wp2_with (first | (((with_reducible refine gate_dst (N := 1) rfl ?_); refine box_event rfl (N := 1) rfl (cs := #[.string r.f0, .int .u16 r.f1, .int .u16 r.f2, .int .u32 r.f3, .slice A4 r.f4.length c4, .slice A5 r.f5.length c5, .slice A6 r.f6.length c6]) (t := 44) (by first | (go_simp; done) | (go_simp; rfl)) ?_; intro g hg w1 hbox hb); obtain ⟨z0, z1⟩ : w1.cell? ⟨g, 1, none⟩ = some (.int .u16 r.f1) ∧ w1.cell? ⟨g, 4, none⟩ = some (.slice A4 r.f4.length c4) := ⟨(blk_cell hbox 1).trans rfl, (blk_cell hbox 4).trans rfl⟩; obtain ⟨z2, z3⟩ : w1.cell? ⟨g, 5, none⟩ = some (.slice A5 r.f5.length c5) ∧ w1.cell? ⟨g, 6, none⟩ = some (.slice A6 r.f6.length c6) := ⟨(blk_cell hbox 5).trans rfl, (blk_cell hbox 6).trans rfl⟩; have HB := Aside0.mk hb; have HX := Aside0.mk hbox; clear hb hbox hg) | (go_at_call 75; refine (Shape_calls r.f1 _).mono ?_; rw [HS.out]; rintro e w' ⟨rfl, rfl⟩))
      go_ret
      exact ⟨by rw [HF.out]; rfl, HB.out⟩
    · have e4 : (r.f1 != 16) = true := by rw [bne_iff_ne]; exact k4
      clear k1 k2 k3 k4
      go_enter Try.func62, Try.ntmps62
      go_wp2_with (first | (((with_reducible refine gate_dst (N := 1) rfl ?_); refine box_event rfl (N := 1) rfl (cs := #[.string r.f0, .int .u16 r.f1, .int .u16 r.f2, .int .u32 r.f3, .slice A4 r.f4.length c4, .slice A5 r.f5.length c5, .slice A6 r.f6.length c6]) (t := 44) (by first | (go_simp; done) | (go_simp; rfl)) ?_; intro g hg w1 hbox hb); obtain ⟨z0, z1⟩ : w1.cell? ⟨g, 1, none⟩ = some (.int .u16 r.f1) ∧ w1.cell? ⟨g, 4, none⟩ = some (.slice A4 r.f4.length c4) := ⟨(blk_cell hbox 1).trans rfl, (blk_cell hbox 4).trans rfl⟩; obtain ⟨z2, z3⟩ : w1.cell? ⟨g, 5, none⟩ = some (.slice A5 r.f5.length c5) ∧ w1.cell? ⟨g, 6, none⟩ = some (.slice A6 r.f6.length c6) := ⟨(blk_cell hbox 5).trans rfl, (blk_cell hbox 6).trans rfl⟩; have HB := Aside0.mk hb; have HX := Aside0.mk hbox; clear hb hbox hg) | (go_at_call 75; refine (Shape_calls r.f1 _).mono ?_; rw [HS.out]; rintro e w' ⟨rfl, rfl⟩))
      go_ret
      exact ⟨by rw [HF.out]; rfl, HB.out⟩
  have HG := Lib.hid (show R = (decide (r.f1 = 6 ∨ r.f5.all fun n => decide (n ≤ 65535)) && shapedE r) by rw [← HR.out]; unfold shapedB; rw [HS.out]; congr 1; exact decide_eq_decide.mpr ⟨fun h => h.2.2.2, fun h => ⟨k1, k2, k3, h⟩⟩)
  have hways : (((r.f6.length : Int) != (c : Int)) = false) ∨ (((r.f6.length : Int) != (c : Int)) = true ∧ (r.f1 != 16) = false ∧ ((r.f6.length : Int) == 0) = false) := by
    by_cases k4 : r.f6.length = c
    · exact .inl (by rw [bne_eq_false_iff_eq]; omega)
    · rcases k3 with k3 | k3
      · exact absurd k3 k4
      · exact .inr ⟨by rw [bne_iff_ne]; omega, by rw [bne_eq_false_iff_eq]; exact k3.1, beq_eq_false_iff_ne.mpr (by omega)⟩
  have ht1 : r.f1 = 1 ∨ r.f1 = 28 → 0 < r.f6.length := by
    intro h
    have : c = 1 := by
      have e := HS.out
      rcases h with h | h <;> (rw [h] at e; simpa [shapeOf] using (congrArg (fun x => x.2.2) e).symm)
    omega
  have HT := Lib.hid ht1
  have k5 : r.f5.length ≤ 5 := by simp only at s2; omega
  clear k1 k2 k3 ht1
  rcases hways with e3 | ⟨e3, e4, e5⟩
  all_goals
    go_enter Try.func62, Try.ntmps62
    go_wp2_with (first | (((with_reducible refine gate_dst (N := 1) rfl ?_); refine box_event rfl (N := 1) rfl (cs := #[.string r.f0, .int .u16 r.f1, .int .u16 r.f2, .int .u32 r.f3, .slice A4 r.f4.length c4, .slice A5 r.f5.length c5, .slice A6 r.f6.length c6]) (t := 44) (by first | (go_simp; done) | (go_simp; rfl)) ?_; intro g hg w1 hbox hb); obtain ⟨z0, z1⟩ : w1.cell? ⟨g, 1, none⟩ = some (.int .u16 r.f1) ∧ w1.cell? ⟨g, 4, none⟩ = some (.slice A4 r.f4.length c4) := ⟨(blk_cell hbox 1).trans rfl, (blk_cell hbox 4).trans rfl⟩; obtain ⟨z2, z3⟩ : w1.cell? ⟨g, 5, none⟩ = some (.slice A5 r.f5.length c5) ∧ w1.cell? ⟨g, 6, none⟩ = some (.slice A6 r.f6.length c6) := ⟨(blk_cell hbox 5).trans rfl, (blk_cell hbox 6).trans rfl⟩; have HB := Aside0.mk hb; have HX := Aside0.mk hbox; clear hb hbox hg) | (go_at_call 75; refine (Shape_calls r.f1 _).mono ?_; rw [HS.out]; rintro e w' ⟨rfl, rfl⟩))
    go_loop [48] (fun t => ∃ k : Nat, t = .int .i64 k ∧ Aside0 (k ≤ r.f5.length) ∧ Aside0 (∀ j, j < k → r.f1 = 6 ∨ r.f5.getD j 0 ≤ 65535)) (fun t => r.f5.length - (intOf t).toNat)
    case atStart => exact ⟨0, rfl, ⟨Nat.zero_le _⟩, ⟨fun j hj => absurd hj (by omega)⟩⟩
    case round =>
      obtain ⟨k, rfl, HK, HN⟩ := hrel
      by_cases hk : k < r.f5.length
      · obtain ⟨ad, rfl, hcell⟩ := at_int (Kd.C_below G5.out HB.out) k hk
        have q1 : (0 : Int) ≤ (k : Int) := by omega
        have q2 : (k : Int) < (r.f5.length : Int) := by omega
        obtain ⟨n, hn⟩ : ∃ n, r.f5.getD k 0 = n := ⟨_, rfl⟩
        rw [hn] at hcell
        have HNn := Lib.hid hn
        clear hn
        by_cases t6 : r.f1 = 6
        · have e6 : (r.f1 != 6) = false := by rw [bne_eq_false_iff_eq]; exact t6
          have HN1 := Aside0.mk (upto_succ HN.out (.inl t6))
          clear t6
          go_wp2
          go_round
          case rel => exact ⟨k + 1, by go_num, ⟨hk⟩, HN1⟩
          case measure => simp [intOf]; omega
        · have e6 : (r.f1 != 6) = true := by rw [bne_iff_ne]; exact t6
          by_cases hb : 65535 < n
          · have HF := Lib.hid (show R = false by
              rw [HG.out, Bool.and_eq_false_iff]
              refine .inl (decide_eq_false ?_)
              rintro (h | h)
              · exact t6 h
              · rw [List.all_eq_true] at h
                have := h n (by rw [← HNn.out, List.getD_eq_getElem?_getD, List.getElem?_eq_getElem hk]; exact List.getElem_mem hk)
                simp at this
                omega)
            clear t6
            go_wp2
            go_ret
            exact ⟨by rw [HF.out]; rfl, HB.out⟩
          · have HN1 := Aside0.mk (upto_succ HN.out (.inr (by rw [HNn.out]; omega)))
            clear t6
            go_wp2
            go_round
            case rel => exact ⟨k + 1, by go_num, ⟨hk⟩, HN1⟩
            case measure => simp [intOf]; omega
      · have hk' : k = r.f5.length := by have := HK.out; omega
        have HE := Lib.hid (show R = shapedE r by
          rw [HG.out, decide_eq_true, Bool.true_and]
          by_cases t6 : r.f1 = 6
          · exact .inl t6
          · refine .inr ?_
            rw [List.all_eq_true]
            intro n hn
            obtain ⟨j, hj, rfl⟩ := List.getElem_of_mem hn
            rcases HN.out j (by omega) with h | h
            · exact absurd h t6
            · rw [List.getD_eq_getElem?_getD, List.getElem?_eq_getElem hj] at h
              exact decide_eq_true h)
        clear hk'
        have h0 : (0 : Int) ≤ 0 := by decide
        by_cases t1 : r.f1 = 1
        · have l0 := HT.out (.inl t1)
          obtain ⟨ad, rfl, hcell⟩ := at_str (Kd.C_below G6.out HB.out) 0 l0
          rw [show ad.add 0 = ad from rfl] at hcell
          have l1 : (0 : Int) < (r.f6.length : Int) := by omega
          have e7 : (r.f1 == 1) = true := beq_iff_eq.mpr t1
          have HF := Lib.hid (show R = decide ((r.f6.getD 0 ⟨#[]⟩).size = 4) by rw [HE.out]; unfold shapedE; rw [if_pos t1])
          obtain ⟨s, hs⟩ : ∃ s, r.f6.getD 0 ⟨#[]⟩ = s := ⟨_, rfl⟩
          rw [hs] at hcell HF
          clear t1 hs
          go_wp2
          go_ret
          exact ⟨by rw [HF.out]; exact congrArg (fun b => Ending.returned (.bool b)) (four_beq s.size), HB.out⟩
        have e7 : (r.f1 == 1) = false := beq_eq_false_iff_ne.mpr t1
        by_cases t2 : r.f1 = 28
        · have l0 := HT.out (.inr t2)
          obtain ⟨ad, rfl, hcell⟩ := at_str (Kd.C_below G6.out HB.out) 0 l0
          rw [show ad.add 0 = ad from rfl] at hcell
          have l1 : (0 : Int) < (r.f6.length : Int) := by omega
          have e8 : (r.f1 == 28) = true := beq_iff_eq.mpr t2
          have HF := Lib.hid (show R = decide ((r.f6.getD 0 ⟨#[]⟩).size = 16) by rw [HE.out]; unfold shapedE; rw [if_neg t1, if_pos t2])
          obtain ⟨s, hs⟩ : ∃ s, r.f6.getD 0 ⟨#[]⟩ = s := ⟨_, rfl⟩
          rw [hs] at hcell HF
          clear t1 t2 hs
          go_wp2
          go_ret
          exact ⟨by rw [HF.out]; exact congrArg (fun b => Ending.returned (.bool b)) (sixteen_beq s.size), HB.out⟩
        have e8 : (r.f1 == 28) = false := beq_eq_false_iff_ne.mpr t2
        by_cases t3 : r.f1 = 16
        · have e9 : (r.f1 == 16) = true := beq_iff_eq.mpr t3
          have HF := Lib.hid (show R = !(r.f6.any tooLong) by rw [HE.out]; unfold shapedE; rw [if_neg t1, if_neg t2, if_pos t3])
          obtain ⟨b, hb⟩ : ∃ b, r.f6.any tooLong = b := ⟨_, rfl⟩
          have HFb := Lib.hid hb
          rw [hb] at HF
          clear t1 t2 t3 hb
          go_wp2_with (go_at_call 60; refine (Contains_tooLong A6 c6 r.f6 _ (Kd.C_below G6.out HB.out) (by omega) b HFb.out).mono ?_; rintro e w' ⟨rfl, hb⟩; have HB1 := Aside0.mk (HB.out.trans (hb.mono (below_size HB.out))); clear hb)
          go_ret
          exact ⟨by rw [HF.out]; rfl, HB1.out⟩
        · have e9 : (r.f1 == 16) = false := beq_eq_false_iff_ne.mpr t3
          have HF := Lib.hid (show R = true by rw [HE.out]; unfold shapedE; rw [if_neg t1, if_neg t2, if_neg t3])
          clear t1 t2 t3
          go_wp2
          go_ret
          exact ⟨by rw [HF.out]; rfl, HB.out⟩
end Go.Proofs.Ytbbeikdbioelgaa.M
set_option linter.unusedVariables false
set_option linter.unusedSimpArgs false
namespace Go.Proofs.Ytbbeikdbioelgaa.M
open Go.RowKit Go.Proofs.YtbbeikdbioelgaaW.PrintWords Go.Proofs.YtbbeikdbioelgaaW.PrintLast Go.Proofs.YtbbeikdbioelgaaW.PrintMore
attribute [local go_sem] max2_int min2_int max_two min_two max_three min_three max_four min_four
def putL (n : Int) : Nat → List Int
  | 0 => []
  | k + 1 => n / 2 ^ (8 * k) % 256 :: putL n k
theorem copied (l : List Int) (z : Int) : l.take (min l.length (List.replicate ((l.length : Int)).toNat z).length) ++ (List.replicate ((l.length : Int)).toNat z).drop (min l.length (List.replicate ((l.length : Int)).toNat z).length) = l := by
  simp
set_option maxHeartbeats 2000000 in
set_option maxRecDepth 100000 in
theorem Put_calls (A0 : Option Addr) (c0 : Nat) (l0 : List Int) (a1 a2 : Int) (w : World) (hr0 : Kd.C (Kd.int .u8) w A0 l0.length l0) (hc0 : l0.length ≤ c0) (hl : l0.length ≤ 1000000000) (h1 : 0 ≤ a2) (h2 : a2 ≤ 8) :
    Calls Try.prog 56 #[.slice A0 l0.length c0, .int .u64 a1, .int .i64 a2] w fun e w' => ∃ v, e = .returned v ∧ Kd.R (Kd.int .u8) 5 w' w.heap.size (fun _ => True) v (l0 ++ putL a1 a2.toNat) ∧ Below w.heap.size w w' := by
  have HC := Aside0.mk hr0
  have HL := Aside0.mk hl
  have HB := Aside0.mk (Below.refl w.heap.size w)
  have p0 : (0 : Int) ≤ (l0.length : Int) := by omega
  have p1 : (l0.length : Int) ≤ (l0.length : Int) + 8 := by omega
  have p2 : ((l0.length : Int) + 8).toNat * 1 ≤ 281474976710656 := by omega
  have p3 : (l0.length : Int) ≤ 1000000000 := by omega
  obtain ⟨k, rfl⟩ := Int.eq_ofNat_of_zero_le h1
  have hk : k ≤ 8 := by omega
  have m1 : max (k : Int) 0 = k := by omega
  have m2 : min (k : Int) 8 = k := by omega
  clear hr0 hl h1
  go_enter Try.func56, Try.ntmps56
  go_wp2_with (first | ((with_reducible refine gate_dst (N := 14) rfl ?_); refine Kd.R_makeCap (Kd.int .u8) (w0 := w) w.heap.size 5 rfl (N := 14) rfl 57 _ _ rfl _ _ rfl rfl Try.underlying57 (.int .u8 0) 1 info8 rfl (by decide) (by omega) 0 (ok := fun _ => True) (okp := fun _ => False) rfl (fun _ h => h.elim) trivial p0 p1 p2 HB.out (Nat.le_refl _) ?_; intro v1 w1 ho1 hb1 hg1 hat1; have HO1 := Aside0.mk ho1; have HB1 := Aside0.mk hb1; have HC1 := Aside0.mk (Kd.C_below HC.out hb1); clear ho1 hb1 hg1 hat1) | ((with_reducible refine gate_dst (N := 17) rfl ?_); refine Kd.R_copy (enc := Value.int .u8) (h1 := fun _ => rfl) 0 (w0 := w) w.heap.size rfl (.tmp 15) (.tmp 16) 57 57 5 rfl Try.underlying57 info8s v1 _ l0 A0 l0.length c0 (fun _ => True) rfl rfl HO1.out HC1.out HB1.out (below_size HB1.out) ?_; intro w2 ho2 hb2 hg2; rw [copied] at ho2; have HO2 := Aside0.mk ho2; have HB2 := Aside0.mk hb2; clear ho2 hb2 hg2 HO1 HB1 HC1))
  go_loopg [7, 8] k (fun kq v7 v8 w' => ∃ out : List Int, v8 = .int .i64 ((kq : Int) - 1) ∧ Aside0 (kq ≤ k) ∧ Aside0 (out ++ putL a1 kq = l0 ++ putL a1 k) ∧ Aside0 (out.length + kq = l0.length + k) ∧ Aside0 (Kd.R (Kd.int .u8) 5 w' w.heap.size (fun _ => True) v7 out) ∧ Aside0 (Below w.heap.size w w'))
  case atStart => exact ⟨l0, rfl, ⟨Nat.le_refl _⟩, ⟨rfl⟩, ⟨rfl⟩, HO2, HB2⟩
  case round =>
    clear HO2 HB2
    obtain ⟨out, rfl, HK, HE, HLen, HO, HB⟩ := hrel
    cases gk with
    | zero =>
      have q0 : decide (((0 : Nat) : Int) - 1 ≥ 0) = false := by decide
      have HF := Lib.hid (show out = l0 ++ putL a1 k by have := HE.out; simpa [putL] using this)
      clear HE
      go_wp2_with fail
      go_ret
      exact ⟨_, rfl, by rw [Int.toNat_natCast, ← HF.out]; exact HO.out, HB.out⟩
    | succ j =>
      have hj : j < 8 := by have := HK.out; omega
      have q1 : ((j + 1 : Nat) : Int) - 1 = j := by omega
      rw [q1]
      clear q1
      have q2 : (0 : Int) ≤ (j : Int) := by omega
      have q3 : 0 ≤ 8 * (j : Int) := by omega
      have q4 : 8 * (j : Int) < 64 := by omega
      have HL2 := Aside0.mk (show (out.length + 1) * 1 ≤ 140737488355328 by have := HLen.out; have := HL.out; omega)
      go_wp2_with (first | ((with_reducible refine gate_builtin (b := .append) (xs := #[.tmp 26, .tmp 32]) rfl ?_); at_builtin; refine Kd.R_append (Kd.int .u8) (w0 := w) w.heap.size rfl (.tmp 26) (.tmp 32) 57 5 (.int .u8 0) 1 rfl Try.underlying57 info8 rfl (by decide) (by omega) u7 out (a1 / 2 ^ (8 * j) % 256) [.int .u8 (a1 / 2 ^ (8 * j) % 256)] (fun _ => True) (fun _ => False) rfl rfl ?aP (fun _ hk => hk.elim) ?aF ?aO ?aB ?aS ?aL ?_; (case aP => exact rfl); (case aB => exact HB.out); (case aF => exact fun _ _ => trivial); (case aO => exact HO.out); (case aS => exact below_size HB.out); (case aL => exact HL2.out); intro va1 wa1 ho1 hb1 hg1 hat1; have HO1 := Aside0.mk ho1; have HB1 := Aside0.mk hb1; clear ho1 hb1 hg1 hat1))
      go_roundg j
      case measure => omega
      case rel => exact ⟨out ++ [a1 / 2 ^ (8 * j) % 256], by first | rfl | (simp; done), ⟨by have := HK.out; omega⟩, ⟨by have e := HE.out; simpa [putL] using e⟩, ⟨by have := HLen.out; simp; omega⟩, HO1, HB1⟩
theorem putL_length (n : Int) (k : Nat) : (putL n k).length = k := by
  induction k with
  | zero => rfl
  | succ k ih => simp [putL, ih]
end Go.Proofs.Ytbbeikdbioelgaa.M
set_option linter.unusedVariables false
set_option linter.unusedSimpArgs false
namespace Go.Proofs.Ytbbeikdbioelgaa.M
open Go.RowKit Go.Proofs.YtbbeikdbioelgaaW.PrintWords Go.Proofs.YtbbeikdbioelgaaW.PrintLast Go.Proofs.YtbbeikdbioelgaaW.PrintMore
attribute [local go_sem] max2_int min2_int max_two min_two max_three min_three max_four min_four
def sumS (l : List ByteArray) : Nat := (l.map (·.size)).sum
theorem sumS_nil : sumS [] = 0 := rfl
theorem sumS_cons (s : ByteArray) (l : List ByteArray) : sumS (s :: l) = s.size + sumS l := by simp [sumS]
theorem drop_get {α : Type} (z : α) (l : List α) (k : Nat) (h : k < l.length) : l.drop k = l.getD k z :: l.drop (k + 1) := by
  rw [List.drop_eq_getElem_cons h, List.getD_eq_getElem?_getD, List.getElem?_eq_getElem h]
  rfl
def sizeGo : List ByteArray → Nat → Nat
  | [], n => n
  | s :: l, n => if 131070 < n + s.size + 1 then n + s.size + 1 else sizeGo l (n + s.size + 1)
def sizeF (r : Rec) : Nat := sizeGo r.f6 (4 * r.f5.length + sumS r.f4)
set_option maxHeartbeats 2000000 in
set_option maxRecDepth 100000 in
theorem size_calls (r : Rec) (v : Value) (w : World) (hv : RecAt w v r) (hm : 4 * r.f5.length + sumS r.f4 ≤ 1000000000) (ht : ∀ j, j < r.f6.length → (r.f6.getD j ⟨#[]⟩).size ≤ 1000000000) :
    Calls Try.prog 63 #[v] w fun e w' => e = .returned (.int .i64 (sizeF r : Nat)) ∧ Below w.heap.size w w' := by
  obtain ⟨A4, c4, A5, c5, A6, c6, rfl, l4, g4, l5, g5, l6, g6⟩ := hv
  have G4 := Aside0.mk g4
  have G6 := Aside0.mk g6
  have HT := Lib.hid ht
  have m5 : (r.f5.length : Int) ≤ 1000000000 := by omega
  have M6 := g6.2.1
  have M4 := g4.2.1
  have HM := Aside0.mk hm
  clear g4 g5 g6 ht hm
  obtain ⟨R, hR⟩ : ∃ R, sizeF r = R := ⟨_, rfl⟩
  rw [hR]
  have HR := Lib.hid hR
  clear hR
  go_enter Try.func63, Try.ntmps63
  go_wp2_with (((with_reducible refine gate_dst (N := 1) rfl ?_); refine box_event rfl (N := 1) rfl (cs := #[.string r.f0, .int .u16 r.f1, .int .u16 r.f2, .int .u32 r.f3, .slice A4 r.f4.length c4, .slice A5 r.f5.length c5, .slice A6 r.f6.length c6]) (t := 44) (by first | (go_simp; done) | (go_simp; rfl)) ?_; intro g hg w1 hbox hb); obtain ⟨z0, z1⟩ : w1.cell? ⟨g, 1, none⟩ = some (.int .u16 r.f1) ∧ w1.cell? ⟨g, 4, none⟩ = some (.slice A4 r.f4.length c4) := ⟨(blk_cell hbox 1).trans rfl, (blk_cell hbox 4).trans rfl⟩; obtain ⟨z2, z3⟩ : w1.cell? ⟨g, 5, none⟩ = some (.slice A5 r.f5.length c5) ∧ w1.cell? ⟨g, 6, none⟩ = some (.slice A6 r.f6.length c6) := ⟨(blk_cell hbox 5).trans rfl, (blk_cell hbox 6).trans rfl⟩; have HB := Aside0.mk hb; clear hb hbox hg)
  go_loop [3, 15] (fun n t => ∃ (k m : Nat), t = .int .i64 k ∧ n = .int .i64 m ∧ Aside0 (k ≤ r.f4.length) ∧ Aside0 (m + sumS (r.f4.drop k) = 4 * r.f5.length + sumS r.f4)) (fun _ t => r.f4.length - (intOf t).toNat)
  case atStart => exact ⟨0, 4 * r.f5.length, rfl, by simp, ⟨Nat.zero_le _⟩, ⟨by simp⟩⟩
  case round =>
    obtain ⟨k, m, rfl, rfl, HK, HS⟩ := hrel
    by_cases hk : k < r.f4.length
    · obtain ⟨ad, rfl, hcell⟩ := at_str (Kd.C_below G4.out HB.out) k hk
      have hs := HS.out
      rw [drop_get ⟨#[]⟩ r.f4 k hk, sumS_cons] at hs
      obtain ⟨s, hs'⟩ : ∃ s, r.f4.getD k ⟨#[]⟩ = s := ⟨_, rfl⟩
      rw [hs'] at hcell hs
      have HS1 := Aside0.mk (show (m + s.size) + sumS (r.f4.drop (k + 1)) = 4 * r.f5.length + sumS r.f4 by omega)
      have q1 : (0 : Int) ≤ (k : Int) := by omega
      have q2 : (k : Int) < (r.f4.length : Int) := by omega
      have q3 : (m : Int) + (s.size : Int) ≤ 1000000000 := by have := HM.out; omega
      clear hs hs' HS
      go_wp2
      go_round
      case rel => exact ⟨k + 1, m + s.size, by go_num, by go_num, ⟨hk⟩, HS1⟩
      case measure => simp [intOf]; omega
    · have hk' : k = r.f4.length := by have := HK.out; omega
      have hs := HS.out
      rw [hk', List.drop_length, sumS_nil] at hs
      have HR1 := Lib.hid (show sizeGo r.f6 m = R by rw [← HR.out, sizeF, ← hs]; rfl)
      have q3 : (m : Int) ≤ 1000000000 := by have := HM.out; omega
      clear hk' hs HS HR
      go_wp2
      go_loop [3, 27] (fun n t => ∃ (k m : Nat), t = .int .i64 k ∧ n = .int .i64 m ∧ Aside0 (k ≤ r.f6.length) ∧ Aside0 (m ≤ 1000000000) ∧ Aside0 (sizeGo (r.f6.drop k) m = R)) (fun _ t => r.f6.length - (intOf t).toNat)
      case atStart => exact ⟨0, m, rfl, rfl, ⟨Nat.zero_le _⟩, ⟨by omega⟩, ⟨HR1.out⟩⟩
      case round =>
        clear q3
        obtain ⟨k, m, rfl, rfl, HK, HM2, HS⟩ := hrel
        by_cases hk : k < r.f6.length
        · obtain ⟨ad, rfl, hcell⟩ := at_str (Kd.C_below G6.out HB.out) k hk
          have hs := HS.out
          have hl := HT.out k hk
          rw [drop_get ⟨#[]⟩ r.f6 k hk, sizeGo] at hs
          obtain ⟨s, hs'⟩ : ∃ s, r.f6.getD k ⟨#[]⟩ = s := ⟨_, rfl⟩
          rw [hs'] at hcell hs hl
          have q1 : (0 : Int) ≤ (k : Int) := by omega
          have q2 : (k : Int) < (r.f6.length : Int) := by omega
          have q4 : (s.size : Int) + 1 ≤ 1000000001 := by omega
          have q5 : (m : Int) + ((s.size : Int) + 1) ≤ 2000000001 := by have := HM2.out; omega
          by_cases hbig : 131070 < m + s.size + 1
          · rw [if_pos hbig] at hs
            have hbig' : (131070 : Int) < (m : Int) + ((s.size : Int) + 1) := by omega
            have HF := Lib.hid hs
            clear hs hs' HS hbig hl
            go_wp2
            go_ret
            exact ⟨by rw [← HF.out]; go_num, HB.out⟩
          · rw [if_neg hbig] at hs
            have hbig' : decide ((131070 : Int) < (m : Int) + ((s.size : Int) + 1)) = false := decide_eq_false (by omega)
            have HS1 := Aside0.mk hs
            clear hs hs' HS hbig hl
            go_wp2
            go_round
            case rel => exact ⟨k + 1, m + s.size + 1, by go_num, by go_num, ⟨hk⟩, ⟨by have := of_decide_eq_false hbig'; omega⟩, HS1⟩
            case measure => simp [intOf]; omega
        · have hk' : k = r.f6.length := by have := HK.out; omega
          have hs := HS.out
          rw [hk', List.drop_length, sizeGo] at hs
          have HF := Lib.hid hs
          clear hs HS hk'
          go_wp2
          go_ret
          exact ⟨by rw [← HF.out]; rfl, HB.out⟩
def textL (r : Rec) (s : ByteArray) : List Int := (if r.f1 = 16 then [(s.size : Int) % 256] else []) ++ bytesOf s
def plainL (r : Rec) : List Int :=
  (if r.f1 = 6 then [] else r.f5.flatMap fun n => putL n 2) ++ r.f4.flatMap bytesOf ++ (if r.f1 = 6 then r.f5.flatMap fun n => putL n 4 else []) ++ r.f6.flatMap (textL r)
theorem plainL_six {r : Rec} (h : r.f1 = 6) : plainL r = (([] ++ r.f4.flatMap bytesOf) ++ r.f5.flatMap (fun n => putL n 4)) ++ r.f6.flatMap (textL r) := by unfold plainL; rw [if_pos h, if_pos h]
theorem plainL_not {r : Rec} (h : ¬ r.f1 = 6) : plainL r = (([] ++ r.f5.flatMap (fun n => putL n 2)) ++ r.f4.flatMap bytesOf) ++ r.f6.flatMap (textL r) := by unfold plainL; rw [if_neg h, if_neg h, List.append_nil]; rfl
structure Small (r : Rec) : Prop where
  names : sumS r.f4 ≤ 1000000
  nums : r.f5.length ≤ 1000000
  texts : sumS r.f6 + r.f6.length ≤ 1000000
  wf : ∀ j, j < r.f5.length → 0 ≤ r.f5.getD j 0 ∧ r.f5.getD j 0 ≤ 4294967295
theorem flat_snoc {α : Type} (z : α) (f : α → List Int) (l : List α) (k : Nat) (h : k < l.length) : (l.take (k + 1)).flatMap f = (l.take k).flatMap f ++ f (l.getD k z) := by
  rw [List.take_succ_eq_append_getElem h, List.flatMap_append, List.getD_eq_getElem?_getD, List.getElem?_eq_getElem h]
  simp
theorem flat_le {α : Type} (f : α → List Int) (g : α → Nat) (hf : ∀ x, (f x).length ≤ g x) (l : List α) (k : Nat) : ((l.take k).flatMap f).length ≤ (l.map g).sum := by
  induction l generalizing k with
  | nil => simp
  | cons a l ih =>
    cases k with
    | zero => simp
    | succ k =>
      simp only [List.take_succ_cons, List.flatMap_cons, List.length_append, List.map_cons, List.sum_cons]
      exact Nat.add_le_add (hf a) (ih k)
theorem nums_le (l : List Int) (k sz : Nat) : ((l.take k).flatMap fun n => putL n sz).length ≤ sz * l.length := by
  refine Nat.le_trans (flat_le _ (fun _ => sz) (fun x => by rw [putL_length]; exact Nat.le_refl _) l k) ?_
  induction l with
  | nil => exact Nat.zero_le _
  | cons a l ih => rw [List.map_cons, List.sum_cons, List.length_cons, Nat.mul_succ]; omega
theorem names_le (l : List ByteArray) (k : Nat) : ((l.take k).flatMap bytesOf).length ≤ sumS l := flat_le bytesOf (·.size) (fun x => by rw [bytesOf_length]; exact Nat.le_refl _) l k
theorem get_le (l : List ByteArray) (k : Nat) : (l.getD k ⟨#[]⟩).size ≤ sumS l := by
  induction l generalizing k with
  | nil => exact Nat.zero_le _
  | cons a l ih =>
    rw [sumS_cons]
    cases k with
    | zero => exact Nat.le_add_right _ _
    | succ k => exact Nat.le_trans (ih k) (Nat.le_add_left _ _)
theorem sum_succ (l : List ByteArray) : (l.map fun s => s.size + 1).sum = sumS l + l.length := by
  induction l with
  | nil => rfl
  | cons a l ih => rw [sumS_cons, List.map_cons, List.sum_cons, List.length_cons, ih]; omega
theorem texts_le (r : Rec) (k : Nat) : ((r.f6.take k).flatMap (textL r)).length ≤ sumS r.f6 + r.f6.length := by
  rw [← sum_succ]
  refine flat_le _ (fun s => s.size + 1) (fun x => ?_) r.f6 k
  show (textL r x).length ≤ x.size + 1
  unfold textL
  rw [List.length_append, bytesOf_length]
  split
  · rw [List.length_singleton]; omega
  · rw [List.length_nil]; omega
set_option maxHeartbeats 4000000 in
set_option maxRecDepth 100000 in
theorem plain_calls (r : Rec) (v : Value) (w : World) (hv : RecAt w v r) (hS : Small r) :
    Calls Try.prog 64 #[v] w fun e w' => ∃ v0, e = .returned v0 ∧ B8 w' w.heap.size (fun _ => True) v0 (plainL r) ∧ Below w.heap.size w w' := by
  obtain ⟨A4, c4, A5, c5, A6, c6, rfl, l4, g4, l5, g5, l6, g6⟩ := hv
  have G4 := Aside0.mk g4
  have G5 := Aside0.mk g5
  have G6 := Aside0.mk g6
  have HS := Aside0.mk hS
  have m5 : (r.f5.length : Int) ≤ 1000000 := by have := hS.nums; omega
  have M6 := g6.2.1
  have M4 := g4.2.1
  clear g4 g5 g6 hS
  obtain ⟨R, hR⟩ : ∃ R, plainL r = R := ⟨_, rfl⟩
  rw [hR]
  have HR := Lib.hid hR
  clear hR
  by_cases t6 : r.f1 = 6
  · have e6 : (r.f1 != 6) = false := by rw [bne_eq_false_iff_eq]; exact t6
    have e7 : (r.f1 == 6) = true := beq_iff_eq.mpr t6
    have T6 := Lib.hid t6
    clear t6
    go_enter Try.func64, Try.ntmps64
    go_wp2_with (((with_reducible refine gate_dst (N := 1) rfl ?_); refine box_event rfl (N := 1) rfl (cs := #[.string r.f0, .int .u16 r.f1, .int .u16 r.f2, .int .u32 r.f3, .slice A4 r.f4.length c4, .slice A5 r.f5.length c5, .slice A6 r.f6.length c6]) (t := 44) (by first | (go_simp; done) | (go_simp; rfl)) ?_; intro g hg w1 hbox hb); obtain ⟨z0, z1⟩ : w1.cell? ⟨g, 1, none⟩ = some (.int .u16 r.f1) ∧ w1.cell? ⟨g, 4, none⟩ = some (.slice A4 r.f4.length c4) := ⟨(blk_cell hbox 1).trans rfl, (blk_cell hbox 4).trans rfl⟩; obtain ⟨z2, z3⟩ : w1.cell? ⟨g, 5, none⟩ = some (.slice A5 r.f5.length c5) ∧ w1.cell? ⟨g, 6, none⟩ = some (.slice A6 r.f6.length c6) := ⟨(blk_cell hbox 5).trans rfl, (blk_cell hbox 6).trans rfl⟩; have HB := Aside0.mk hb; have HX := Aside0.mk hbox; clear hb hg)
    have HO := Aside0.mk (Kd.R_nil (Kd.int .u8) 5 w1 w.heap.size (fun _ => True))
    have HG := Aside0.mk (show w1.heap[g]? = w1.heap[g]? from rfl)
    have HP := Aside0.mk (show ([] : List Int).length ≤ 4000000 by simp)
    clear z0 z1 z2 z3 hbox
    go_loopw [3, 30] (fun v t wr => ∃ (k : Nat) (out : List Int), t = .int .i64 k ∧ Aside0 (k ≤ r.f4.length) ∧ Aside0 (out = [] ++ (r.f4.take k).flatMap bytesOf) ∧ Aside0 (B8 wr w.heap.size (fun _ => True) v out) ∧ Aside0 (wr.heap[g]? = w1.heap[g]?) ∧ Aside0 (Below w.heap.size w wr)) (fun _ t _ => r.f4.length - (intOf t).toNat)
    case atStart => exact ⟨0, _, rfl, ⟨Nat.zero_le _⟩, ⟨by simp⟩, HO, HG, HB⟩
    case round =>
      clear HO HG HB
      obtain ⟨k, out, rfl, HK, HE, HO, HG, HB⟩ := hrel
      by_cases hk : k < r.f4.length
      · obtain ⟨ad, rfl, hcell⟩ := at_str (Kd.C_below G4.out HB.out) k hk
        have q1 : (0 : Int) ≤ (k : Int) := by omega
        have q2 : (k : Int) < (r.f4.length : Int) := by omega
        have HE1 := Aside0.mk (flat_snoc ⟨#[]⟩ bytesOf r.f4 k hk)
        have HLn := Aside0.mk (show out.length + (r.f4.getD k ⟨#[]⟩).size ≤ 140737488355328 by rw [HE.out, List.length_append]; have h1 := names_le r.f4 k; have h2 := HS.out.names; have h3 := HP.out; have h4 := get_le r.f4 k; omega)
        obtain ⟨s, hs⟩ : ∃ s, r.f4.getD k ⟨#[]⟩ = s := ⟨_, rfl⟩
        rw [hs] at HLn
        simp only [hs] at hcell HE1
        clear hs
        go_wp2_with ((with_reducible refine gate_builtin (b := .append) (xs := #[.tmp 34, .tmp 35]) rfl ?_); at_builtin; refine app8s rfl (.tmp 34) (.tmp 35) rfl rfl rfl HO.out HB.out (below_size HB.out) HLn.out ?_; intro v1 w' ho1 hb1 hg1; have HO1 := Aside0.mk ho1; have HG1 := Aside0.mk ((hg1.block g (blk_lt (HG.out.trans HX.out)) (Kd.R_ne HO.out (HG.out.trans HX.out) (by decide))).trans HG.out); have HB1 := Aside0.mk hb1; clear ho1 hb1 hg1)
        go_roundw
        case rel => exact ⟨k + 1, _, by go_num, ⟨hk⟩, ⟨by rw [HE1.out, HE.out]; (simp only [List.append_assoc] <;> rfl)⟩, HO1, HG1, HB1⟩
        case measure => simp [intOf]; omega
      · have hk' : k = r.f4.length := by have := HK.out; omega
        have HE2 := Aside0.mk (show out = ([]) ++ r.f4.flatMap bytesOf by rw [HE.out, hk', List.take_length])
        clear hk' HE
        obtain ⟨z0, z1⟩ : wr.cell? ⟨g, 1, none⟩ = some (.int .u16 r.f1) ∧ wr.cell? ⟨g, 4, none⟩ = some (.slice A4 r.f4.length c4) := ⟨(blk_cell (HG.out.trans HX.out) 1).trans rfl, (blk_cell (HG.out.trans HX.out) 4).trans rfl⟩
        obtain ⟨z2, z3⟩ : wr.cell? ⟨g, 5, none⟩ = some (.slice A5 r.f5.length c5) ∧ wr.cell? ⟨g, 6, none⟩ = some (.slice A6 r.f6.length c6) := ⟨(blk_cell (HG.out.trans HX.out) 5).trans rfl, (blk_cell (HG.out.trans HX.out) 6).trans rfl⟩
        have HP2 := Aside0.mk (show (([]) ++ r.f4.flatMap bytesOf).length ≤ 5000000 by have h1 := names_le r.f4 r.f4.length; rw [List.take_length] at h1; have h2 := HS.out.names; have h3 := HP.out; rw [List.length_append]; omega)
        go_wp2
        rw [HE2.out] at HO
        clear HE2 out
        go_loopw [3, 44] (fun v t wr => ∃ (k : Nat) (out : List Int), t = .int .i64 k ∧ Aside0 (k ≤ r.f5.length) ∧ Aside0 (out = ([] ++ r.f4.flatMap bytesOf) ++ (r.f5.take k).flatMap (fun n => putL n 4)) ∧ Aside0 (B8 wr w.heap.size (fun _ => True) v out) ∧ Aside0 (wr.heap[g]? = w1.heap[g]?) ∧ Aside0 (Below w.heap.size w wr)) (fun _ t _ => r.f5.length - (intOf t).toNat)
        case atStart => exact ⟨0, _, rfl, ⟨Nat.zero_le _⟩, ⟨by simp⟩, HO, HG, HB⟩
        case round =>
          clear HO HG HB z0 z1 z2 z3 HP
          obtain ⟨k, out, rfl, HK, HE, HO, HG, HB⟩ := hrel
          by_cases hk : k < r.f5.length
          · have HP := HP2
            obtain ⟨ad, rfl, hcell⟩ := at_int (Kd.C_below G5.out HB.out) k hk
            have q1 : (0 : Int) ≤ (k : Int) := by omega
            have q2 : (k : Int) < (r.f5.length : Int) := by omega
            obtain ⟨n0, n1⟩ := HS.out.wf k hk
            have HE1 := Aside0.mk (flat_snoc 0 (fun n => putL n 4) r.f5 k hk)
            have HLn := Aside0.mk (show out.length ≤ 1000000000 by rw [HE.out, List.length_append]; have h1 := nums_le r.f5 k 4; have h2 := HS.out.nums; have h3 := HP.out; omega)
            obtain ⟨n, hn⟩ : ∃ n, r.f5.getD k 0 = n := ⟨_, rfl⟩
            rw [hn] at n0 n1
            simp only [hn] at hcell HE1
            clear hn
            obtain ⟨A, c, rfl, hlc, hrc⟩ := Kd.R_reads HO.out
            have HC := Aside0.mk hrc
            have HLC := Aside0.mk hlc
            clear hrc hlc
            go_wp2_with (go_at_call 56; refine (Put_calls A c out n 4 _ HC.out HLC.out HLn.out (by decide) (by decide)).mono ?_; rintro e w' ⟨v1, rfl, ho1, hb1⟩; have HO1 := Aside0.mk (Kd.R_lower ho1 (below_size HB.out)); have HG1 := Aside0.mk ((hb1.block g (blk_lt (HG.out.trans HX.out))).trans HG.out); have HB1 := Aside0.mk (HB.out.trans (hb1.mono (below_size HB.out))); clear ho1 hb1)
            go_roundw
            case rel => exact ⟨k + 1, _, by go_num, ⟨hk⟩, ⟨by rw [HE1.out, HE.out]; (simp only [List.append_assoc] <;> rfl)⟩, HO1, HG1, HB1⟩
            case measure => simp [intOf]; omega
          · have hk' : k = r.f5.length := by have := HK.out; omega
            have HE2 := Aside0.mk (show out = ([] ++ r.f4.flatMap bytesOf) ++ r.f5.flatMap (fun n => putL n 4) by rw [HE.out, hk', List.take_length])
            clear hk' HE
            obtain ⟨z0, z1⟩ : wr.cell? ⟨g, 1, none⟩ = some (.int .u16 r.f1) ∧ wr.cell? ⟨g, 4, none⟩ = some (.slice A4 r.f4.length c4) := ⟨(blk_cell (HG.out.trans HX.out) 1).trans rfl, (blk_cell (HG.out.trans HX.out) 4).trans rfl⟩
            obtain ⟨z2, z3⟩ : wr.cell? ⟨g, 5, none⟩ = some (.slice A5 r.f5.length c5) ∧ wr.cell? ⟨g, 6, none⟩ = some (.slice A6 r.f6.length c6) := ⟨(blk_cell (HG.out.trans HX.out) 5).trans rfl, (blk_cell (HG.out.trans HX.out) 6).trans rfl⟩
            have HP3 := Aside0.mk (show (([] ++ r.f4.flatMap bytesOf) ++ r.f5.flatMap (fun n => putL n 4)).length ≤ 10000000 by have h1 := nums_le r.f5 r.f5.length 4; rw [List.take_length] at h1; have h2 := HS.out.nums; have h3 := HP2.out; rw [List.length_append]; omega)
            go_wp2
            rw [HE2.out] at HO
            clear HE2 out
            go_loopw [3, 56] (fun v t wr => ∃ (k : Nat) (out : List Int), t = .int .i64 k ∧ Aside0 (k ≤ r.f6.length) ∧ Aside0 (out = ([] ++ r.f4.flatMap bytesOf) ++ r.f5.flatMap (fun n => putL n 4) ++ (r.f6.take k).flatMap (textL r)) ∧ Aside0 (B8 wr w.heap.size (fun _ => True) v out) ∧ Aside0 (wr.heap[g]? = w1.heap[g]?) ∧ Aside0 (Below w.heap.size w wr)) (fun _ t _ => r.f6.length - (intOf t).toNat)
            case atStart => exact ⟨0, _, rfl, ⟨Nat.zero_le _⟩, ⟨by simp⟩, HO, HG, HB⟩
            case round =>
              clear HO HG HB z0 z1 z2 z3
              obtain ⟨k, out, rfl, HK, HE, HO, HG, HB⟩ := hrel
              by_cases hk : k < r.f6.length
              · obtain ⟨z0, z1⟩ : wr.cell? ⟨g, 1, none⟩ = some (.int .u16 r.f1) ∧ wr.cell? ⟨g, 4, none⟩ = some (.slice A4 r.f4.length c4) := ⟨(blk_cell (HG.out.trans HX.out) 1).trans rfl, (blk_cell (HG.out.trans HX.out) 4).trans rfl⟩
                obtain ⟨z2, z3⟩ : wr.cell? ⟨g, 5, none⟩ = some (.slice A5 r.f5.length c5) ∧ wr.cell? ⟨g, 6, none⟩ = some (.slice A6 r.f6.length c6) := ⟨(blk_cell (HG.out.trans HX.out) 5).trans rfl, (blk_cell (HG.out.trans HX.out) 6).trans rfl⟩
                obtain ⟨ad, rfl, hcell⟩ := at_str (Kd.C_below G6.out HB.out) k hk
                have q1 : (0 : Int) ≤ (k : Int) := by omega
                have q2 : (k : Int) < (r.f6.length : Int) := by omega
                have HE1 := Aside0.mk (flat_snoc ⟨#[]⟩ (textL r) r.f6 k hk)
                have HLn := Aside0.mk (show out.length + (r.f6.getD k ⟨#[]⟩).size ≤ 130737488355328 by rw [HE.out, List.length_append]; have h1 := texts_le r k; have h2 := HS.out.texts; have h3 := HP3.out; have h4 := get_le r.f6 k; omega)
                obtain ⟨s, hs⟩ : ∃ s, r.f6.getD k ⟨#[]⟩ = s := ⟨_, rfl⟩
                rw [hs] at HLn
                simp only [hs] at hcell HE1
                clear hs
                by_cases t16 : r.f1 = 16
                · have e16 : (r.f1 == 16) = true := beq_iff_eq.mpr t16
                  have HE2 := Aside0.mk (show textL r s = [(s.size : Int) % 256] ++ bytesOf s by unfold textL; rw [if_pos t16])
                  clear t16
                  go_wp2_with (first | ((with_reducible refine gate_builtin (b := .append) (xs := #[.tmp 63, .tmp 67]) rfl ?_); at_builtin; refine app8 (p := (s.size : Int) % 256) rfl (.tmp 63) (.tmp 67) rfl rfl rfl HO.out HB.out (fun _ _ _ => trivial) (below_size HB.out) (by have := HLn.out; omega) ?_; intro v1 w2 ho1 hb1 hg1 _; have HO1 := Aside0.mk ho1; have HG1 := Aside0.mk ((hg1.block g (blk_lt (HG.out.trans HX.out)) (Kd.R_ne HO.out (HG.out.trans HX.out) (by decide))).trans HG.out); have HB1 := Aside0.mk hb1; clear ho1 hb1 hg1) | ((with_reducible refine gate_builtin (b := .append) (xs := #[.tmp 69, .tmp 70]) rfl ?_); at_builtin; refine app8s rfl (.tmp 69) (.tmp 70) rfl rfl rfl HO1.out HB1.out (below_size HB1.out) (by have := HLn.out; rw [List.length_append, List.length_singleton]; omega) ?_; intro v2 w' ho1 hb1 hg1; have HO2 := Aside0.mk ho1; have HG2 := Aside0.mk ((hg1.block g (blk_lt (HG1.out.trans HX.out)) (Kd.R_ne HO1.out (HG1.out.trans HX.out) (by decide))).trans HG1.out); have HB2 := Aside0.mk hb1; clear ho1 hb1 hg1))
                  go_roundw
                  case rel => exact ⟨k + 1, _, by go_num, ⟨hk⟩, ⟨by rw [HE1.out, HE.out, HE2.out]; (simp only [List.append_assoc] <;> rfl)⟩, HO2, HG2, HB2⟩
                  case measure => simp [intOf]; omega
                · have e16 : (r.f1 == 16) = false := beq_eq_false_iff_ne.mpr t16
                  have HE2 := Aside0.mk (show textL r s = bytesOf s by unfold textL; rw [if_neg t16]; rfl)
                  clear t16
                  go_wp2_with ((with_reducible refine gate_builtin (b := .append) (xs := #[.tmp 69, .tmp 70]) rfl ?_); at_builtin; refine app8s rfl (.tmp 69) (.tmp 70) rfl rfl rfl HO.out HB.out (below_size HB.out) (by have := HLn.out; omega) ?_; intro v2 w' ho1 hb1 hg1; have HO2 := Aside0.mk ho1; have HG2 := Aside0.mk ((hg1.block g (blk_lt (HG.out.trans HX.out)) (Kd.R_ne HO.out (HG.out.trans HX.out) (by decide))).trans HG.out); have HB2 := Aside0.mk hb1; clear ho1 hb1 hg1)
                  go_roundw
                  case rel => exact ⟨k + 1, _, by go_num, ⟨hk⟩, ⟨by rw [HE1.out, HE.out, HE2.out]; (simp only [List.append_assoc] <;> rfl)⟩, HO2, HG2, HB2⟩
                  case measure => simp [intOf]; omega
              · have hk' : k = r.f6.length := by have := HK.out; omega
                have HF := Aside0.mk (show out = R by rw [HE.out, hk', List.take_length, ← HR.out]; first | rw [plainL_six T6.out] | rw [plainL_not T6.out])
                clear hk' HE
                go_wp2
                go_ret
                exact ⟨_, rfl, by rw [← HF.out]; exact HO.out, HB.out⟩
  · have e6 : (r.f1 != 6) = true := by rw [bne_iff_ne]; exact t6
    have e7 : (r.f1 == 6) = false := beq_eq_false_iff_ne.mpr t6
    have T6 := Lib.hid t6
    clear t6
    go_enter Try.func64, Try.ntmps64
    go_wp2_with (((with_reducible refine gate_dst (N := 1) rfl ?_); refine box_event rfl (N := 1) rfl (cs := #[.string r.f0, .int .u16 r.f1, .int .u16 r.f2, .int .u32 r.f3, .slice A4 r.f4.length c4, .slice A5 r.f5.length c5, .slice A6 r.f6.length c6]) (t := 44) (by first | (go_simp; done) | (go_simp; rfl)) ?_; intro g hg w1 hbox hb); obtain ⟨z0, z1⟩ : w1.cell? ⟨g, 1, none⟩ = some (.int .u16 r.f1) ∧ w1.cell? ⟨g, 4, none⟩ = some (.slice A4 r.f4.length c4) := ⟨(blk_cell hbox 1).trans rfl, (blk_cell hbox 4).trans rfl⟩; obtain ⟨z2, z3⟩ : w1.cell? ⟨g, 5, none⟩ = some (.slice A5 r.f5.length c5) ∧ w1.cell? ⟨g, 6, none⟩ = some (.slice A6 r.f6.length c6) := ⟨(blk_cell hbox 5).trans rfl, (blk_cell hbox 6).trans rfl⟩; have HB := Aside0.mk hb; have HX := Aside0.mk hbox; clear hb hg)
    have HO := Aside0.mk (Kd.R_nil (Kd.int .u8) 5 w1 w.heap.size (fun _ => True))
    have HG := Aside0.mk (show w1.heap[g]? = w1.heap[g]? from rfl)
    have HP := Aside0.mk (show ([] : List Int).length ≤ 4000000 by simp)
    clear z0 z1 z2 z3 hbox
    go_loopw [3, 18] (fun v t wr => ∃ (k : Nat) (out : List Int), t = .int .i64 k ∧ Aside0 (k ≤ r.f5.length) ∧ Aside0 (out = [] ++ (r.f5.take k).flatMap (fun n => putL n 2)) ∧ Aside0 (B8 wr w.heap.size (fun _ => True) v out) ∧ Aside0 (wr.heap[g]? = w1.heap[g]?) ∧ Aside0 (Below w.heap.size w wr)) (fun _ t _ => r.f5.length - (intOf t).toNat)
    case atStart => exact ⟨0, _, rfl, ⟨Nat.zero_le _⟩, ⟨by simp⟩, HO, HG, HB⟩
    case round =>
      clear HO HG HB
      obtain ⟨k, out, rfl, HK, HE, HO, HG, HB⟩ := hrel
      by_cases hk : k < r.f5.length
      · obtain ⟨ad, rfl, hcell⟩ := at_int (Kd.C_below G5.out HB.out) k hk
        have q1 : (0 : Int) ≤ (k : Int) := by omega
        have q2 : (k : Int) < (r.f5.length : Int) := by omega
        obtain ⟨n0, n1⟩ := HS.out.wf k hk
        have HE1 := Aside0.mk (flat_snoc 0 (fun n => putL n 2) r.f5 k hk)
        have HLn := Aside0.mk (show out.length ≤ 1000000000 by rw [HE.out, List.length_append]; have h1 := nums_le r.f5 k 2; have h2 := HS.out.nums; have h3 := HP.out; omega)
        obtain ⟨n, hn⟩ : ∃ n, r.f5.getD k 0 = n := ⟨_, rfl⟩
        rw [hn] at n0 n1
        simp only [hn] at hcell HE1
        clear hn
        obtain ⟨A, c, rfl, hlc, hrc⟩ := Kd.R_reads HO.out
        have HC := Aside0.mk hrc
        have HLC := Aside0.mk hlc
        clear hrc hlc
        go_wp2_with (go_at_call 56; refine (Put_calls A c out n 2 _ HC.out HLC.out HLn.out (by decide) (by decide)).mono ?_; rintro e w' ⟨v1, rfl, ho1, hb1⟩; have HO1 := Aside0.mk (Kd.R_lower ho1 (below_size HB.out)); have HG1 := Aside0.mk ((hb1.block g (blk_lt (HG.out.trans HX.out))).trans HG.out); have HB1 := Aside0.mk (HB.out.trans (hb1.mono (below_size HB.out))); clear ho1 hb1)
        go_roundw
        case rel => exact ⟨k + 1, _, by go_num, ⟨hk⟩, ⟨by rw [HE1.out, HE.out]; (simp only [List.append_assoc] <;> rfl)⟩, HO1, HG1, HB1⟩
        case measure => simp [intOf]; omega
      · have hk' : k = r.f5.length := by have := HK.out; omega
        have HE2 := Aside0.mk (show out = [] ++ r.f5.flatMap (fun n => putL n 2) by rw [HE.out, hk', List.take_length])
        clear hk' HE
        obtain ⟨z0, z1⟩ : wr.cell? ⟨g, 1, none⟩ = some (.int .u16 r.f1) ∧ wr.cell? ⟨g, 4, none⟩ = some (.slice A4 r.f4.length c4) := ⟨(blk_cell (HG.out.trans HX.out) 1).trans rfl, (blk_cell (HG.out.trans HX.out) 4).trans rfl⟩
        obtain ⟨z2, z3⟩ : wr.cell? ⟨g, 5, none⟩ = some (.slice A5 r.f5.length c5) ∧ wr.cell? ⟨g, 6, none⟩ = some (.slice A6 r.f6.length c6) := ⟨(blk_cell (HG.out.trans HX.out) 5).trans rfl, (blk_cell (HG.out.trans HX.out) 6).trans rfl⟩
        have HP1 := Aside0.mk (show ([] ++ r.f5.flatMap (fun n => putL n 2)).length ≤ 4000000 by have h1 := nums_le r.f5 r.f5.length 2; rw [List.take_length] at h1; have h2 := HS.out.nums; rw [List.nil_append]; omega)
        go_wp2
        rw [HE2.out] at HO
        clear HE2 out
        go_loopw [3, 30] (fun v t wr => ∃ (k : Nat) (out : List Int), t = .int .i64 k ∧ Aside0 (k ≤ r.f4.length) ∧ Aside0 (out = ([] ++ r.f5.flatMap (fun n => putL n 2)) ++ (r.f4.take k).flatMap bytesOf) ∧ Aside0 (B8 wr w.heap.size (fun _ => True) v out) ∧ Aside0 (wr.heap[g]? = w1.heap[g]?) ∧ Aside0 (Below w.heap.size w wr)) (fun _ t _ => r.f4.length - (intOf t).toNat)
        case atStart => exact ⟨0, _, rfl, ⟨Nat.zero_le _⟩, ⟨by simp⟩, HO, HG, HB⟩
        case round =>
          clear HO HG HB HP z0 z1 z2 z3
          obtain ⟨k, out, rfl, HK, HE, HO, HG, HB⟩ := hrel
          by_cases hk : k < r.f4.length
          · obtain ⟨ad, rfl, hcell⟩ := at_str (Kd.C_below G4.out HB.out) k hk
            have q1 : (0 : Int) ≤ (k : Int) := by omega
            have q2 : (k : Int) < (r.f4.length : Int) := by omega
            have HE1 := Aside0.mk (flat_snoc ⟨#[]⟩ bytesOf r.f4 k hk)
            have HLn := Aside0.mk (show out.length + (r.f4.getD k ⟨#[]⟩).size ≤ 140737488355328 by rw [HE.out, List.length_append]; have h1 := names_le r.f4 k; have h2 := HS.out.names; have h3 := HP1.out; have h4 := get_le r.f4 k; omega)
            obtain ⟨s, hs⟩ : ∃ s, r.f4.getD k ⟨#[]⟩ = s := ⟨_, rfl⟩
            rw [hs] at HLn
            simp only [hs] at hcell HE1
            clear hs
            go_wp2_with ((with_reducible refine gate_builtin (b := .append) (xs := #[.tmp 34, .tmp 35]) rfl ?_); at_builtin; refine app8s rfl (.tmp 34) (.tmp 35) rfl rfl rfl HO.out HB.out (below_size HB.out) HLn.out ?_; intro v1 w' ho1 hb1 hg1; have HO1 := Aside0.mk ho1; have HG1 := Aside0.mk ((hg1.block g (blk_lt (HG.out.trans HX.out)) (Kd.R_ne HO.out (HG.out.trans HX.out) (by decide))).trans HG.out); have HB1 := Aside0.mk hb1; clear ho1 hb1 hg1)
            go_roundw
            case rel => exact ⟨k + 1, _, by go_num, ⟨hk⟩, ⟨by rw [HE1.out, HE.out]; (simp only [List.append_assoc] <;> rfl)⟩, HO1, HG1, HB1⟩
            case measure => simp [intOf]; omega
          · have hk' : k = r.f4.length := by have := HK.out; omega
            have HE2 := Aside0.mk (show out = ([] ++ r.f5.flatMap (fun n => putL n 2)) ++ r.f4.flatMap bytesOf by rw [HE.out, hk', List.take_length])
            clear hk' HE
            obtain ⟨z0, z1⟩ : wr.cell? ⟨g, 1, none⟩ = some (.int .u16 r.f1) ∧ wr.cell? ⟨g, 4, none⟩ = some (.slice A4 r.f4.length c4) := ⟨(blk_cell (HG.out.trans HX.out) 1).trans rfl, (blk_cell (HG.out.trans HX.out) 4).trans rfl⟩
            obtain ⟨z2, z3⟩ : wr.cell? ⟨g, 5, none⟩ = some (.slice A5 r.f5.length c5) ∧ wr.cell? ⟨g, 6, none⟩ = some (.slice A6 r.f6.length c6) := ⟨(blk_cell (HG.out.trans HX.out) 5).trans rfl, (blk_cell (HG.out.trans HX.out) 6).trans rfl⟩
            have HP2 := Aside0.mk (show (([] ++ r.f5.flatMap (fun n => putL n 2)) ++ r.f4.flatMap bytesOf).length ≤ 5000000 by have h1 := names_le r.f4 r.f4.length; rw [List.take_length] at h1; have h2 := HS.out.names; have h3 := HP1.out; rw [List.length_append]; omega)
            go_wp2
            rw [HE2.out] at HO
            clear HE2 out
            go_loopw [3, 56] (fun v t wr => ∃ (k : Nat) (out : List Int), t = .int .i64 k ∧ Aside0 (k ≤ r.f6.length) ∧ Aside0 (out = ([] ++ r.f5.flatMap (fun n => putL n 2)) ++ r.f4.flatMap bytesOf ++ (r.f6.take k).flatMap (textL r)) ∧ Aside0 (B8 wr w.heap.size (fun _ => True) v out) ∧ Aside0 (wr.heap[g]? = w1.heap[g]?) ∧ Aside0 (Below w.heap.size w wr)) (fun _ t _ => r.f6.length - (intOf t).toNat)
            case atStart => exact ⟨0, _, rfl, ⟨Nat.zero_le _⟩, ⟨by simp⟩, HO, HG, HB⟩
            case round =>
              clear HO HG HB z0 z1 z2 z3
              obtain ⟨k, out, rfl, HK, HE, HO, HG, HB⟩ := hrel
              by_cases hk : k < r.f6.length
              · obtain ⟨z0, z1⟩ : wr.cell? ⟨g, 1, none⟩ = some (.int .u16 r.f1) ∧ wr.cell? ⟨g, 4, none⟩ = some (.slice A4 r.f4.length c4) := ⟨(blk_cell (HG.out.trans HX.out) 1).trans rfl, (blk_cell (HG.out.trans HX.out) 4).trans rfl⟩
                obtain ⟨z2, z3⟩ : wr.cell? ⟨g, 5, none⟩ = some (.slice A5 r.f5.length c5) ∧ wr.cell? ⟨g, 6, none⟩ = some (.slice A6 r.f6.length c6) := ⟨(blk_cell (HG.out.trans HX.out) 5).trans rfl, (blk_cell (HG.out.trans HX.out) 6).trans rfl⟩
                obtain ⟨ad, rfl, hcell⟩ := at_str (Kd.C_below G6.out HB.out) k hk
                have q1 : (0 : Int) ≤ (k : Int) := by omega
                have q2 : (k : Int) < (r.f6.length : Int) := by omega
                have HE1 := Aside0.mk (flat_snoc ⟨#[]⟩ (textL r) r.f6 k hk)
                have HLn := Aside0.mk (show out.length + (r.f6.getD k ⟨#[]⟩).size ≤ 130737488355328 by rw [HE.out, List.length_append]; have h1 := texts_le r k; have h2 := HS.out.texts; have h3 := HP2.out; have h4 := get_le r.f6 k; omega)
                obtain ⟨s, hs⟩ : ∃ s, r.f6.getD k ⟨#[]⟩ = s := ⟨_, rfl⟩
                rw [hs] at HLn
                simp only [hs] at hcell HE1
                clear hs
                by_cases t16 : r.f1 = 16
                · have e16 : (r.f1 == 16) = true := beq_iff_eq.mpr t16
                  have HE2 := Aside0.mk (show textL r s = [(s.size : Int) % 256] ++ bytesOf s by unfold textL; rw [if_pos t16])
                  clear t16
                  go_wp2_with (first | ((with_reducible refine gate_builtin (b := .append) (xs := #[.tmp 63, .tmp 67]) rfl ?_); at_builtin; refine app8 (p := (s.size : Int) % 256) rfl (.tmp 63) (.tmp 67) rfl rfl rfl HO.out HB.out (fun _ _ _ => trivial) (below_size HB.out) (by have := HLn.out; omega) ?_; intro v1 w2 ho1 hb1 hg1 _; have HO1 := Aside0.mk ho1; have HG1 := Aside0.mk ((hg1.block g (blk_lt (HG.out.trans HX.out)) (Kd.R_ne HO.out (HG.out.trans HX.out) (by decide))).trans HG.out); have HB1 := Aside0.mk hb1; clear ho1 hb1 hg1) | ((with_reducible refine gate_builtin (b := .append) (xs := #[.tmp 69, .tmp 70]) rfl ?_); at_builtin; refine app8s rfl (.tmp 69) (.tmp 70) rfl rfl rfl HO1.out HB1.out (below_size HB1.out) (by have := HLn.out; rw [List.length_append, List.length_singleton]; omega) ?_; intro v2 w' ho1 hb1 hg1; have HO2 := Aside0.mk ho1; have HG2 := Aside0.mk ((hg1.block g (blk_lt (HG1.out.trans HX.out)) (Kd.R_ne HO1.out (HG1.out.trans HX.out) (by decide))).trans HG1.out); have HB2 := Aside0.mk hb1; clear ho1 hb1 hg1))
                  go_roundw
                  case rel => exact ⟨k + 1, _, by go_num, ⟨hk⟩, ⟨by rw [HE1.out, HE.out, HE2.out]; (simp only [List.append_assoc] <;> rfl)⟩, HO2, HG2, HB2⟩
                  case measure => simp [intOf]; omega
                · have e16 : (r.f1 == 16) = false := beq_eq_false_iff_ne.mpr t16
                  have HE2 := Aside0.mk (show textL r s = bytesOf s by unfold textL; rw [if_neg t16]; rfl)
                  clear t16
                  go_wp2_with ((with_reducible refine gate_builtin (b := .append) (xs := #[.tmp 69, .tmp 70]) rfl ?_); at_builtin; refine app8s rfl (.tmp 69) (.tmp 70) rfl rfl rfl HO.out HB.out (below_size HB.out) (by have := HLn.out; omega) ?_; intro v2 w' ho1 hb1 hg1; have HO2 := Aside0.mk ho1; have HG2 := Aside0.mk ((hg1.block g (blk_lt (HG.out.trans HX.out)) (Kd.R_ne HO.out (HG.out.trans HX.out) (by decide))).trans HG.out); have HB2 := Aside0.mk hb1; clear ho1 hb1 hg1)
                  go_roundw
                  case rel => exact ⟨k + 1, _, by go_num, ⟨hk⟩, ⟨by rw [HE1.out, HE.out, HE2.out]; (simp only [List.append_assoc] <;> rfl)⟩, HO2, HG2, HB2⟩
                  case measure => simp [intOf]; omega
              · have hk' : k = r.f6.length := by have := HK.out; omega
                have HF := Aside0.mk (show out = R by rw [HE.out, hk', List.take_length, ← HR.out]; first | rw [plainL_six T6.out] | rw [plainL_not T6.out])
                clear hk' HE
                go_wp2
                go_ret
                exact ⟨_, rfl, by rw [← HF.out]; exact HO.out, HB.out⟩
def checkF (r : Rec) : Int :=
  if isName r.f0 = false then 40 else if r.f4.any notName then 40 else if shapedB r = false then 50 else if 131070 < sizeF r then 50 else if 65535 < (plainL r).length then 50 else
  if 2147483647 < r.f3 ∧ r.f1 ≠ 41 then 1 else 0
structure Fine (r : Rec) : Prop where
  len4 : r.f4.length ≤ 1000000000
  names : 4 * r.f5.length + sumS r.f4 ≤ 1000000000
  texts : ∀ j, j < r.f6.length → (r.f6.getD j ⟨#[]⟩).size ≤ 1000000000
  texts2 : r.f6.length ≤ 1000000000
  wf : ∀ j, j < r.f5.length → 0 ≤ r.f5.getD j 0 ∧ r.f5.getD j 0 ≤ 4294967295
theorem sizeGo_le (l : List ByteArray) (n : Nat) (h : sizeGo l n ≤ 131070) : n + sumS l + l.length ≤ 131070 ∨ l = [] := by
  induction l generalizing n with
  | nil => exact .inr rfl
  | cons s l ih =>
    left
    rw [sizeGo] at h
    by_cases hb : 131070 < n + s.size + 1
    · rw [if_pos hb] at h; omega
    · rw [if_neg hb] at h
      rw [sumS_cons, List.length_cons]
      rcases ih _ h with h1 | rfl
      · omega
      · rw [sumS_nil, List.length_nil]; omega
theorem small_of {r : Rec} (hF : Fine r) (h : sizeF r ≤ 131070) (hn : (r.f4.any notName) = false) (hs : shapedB r = true) : Small r := by
  have hs1 := of_decide_eq_true (Bool.and_eq_true_iff.1 hs).1
  obtain ⟨s1, s2, s3⟩ := shapeOf_le r.f1
  have hsz : ∀ s, isName s = true → s.size ≤ 255 := by
    intro s h
    unfold isName split at h
    by_cases hb : 255 < s.size
    · rw [if_pos hb] at h; exact absurd h (by decide)
    · omega
  have hnames : sumS r.f4 ≤ 255 * r.f4.length := by
    generalize r.f4 = l at hn
    induction l with
    | nil => exact Nat.le_refl _
    | cons s l ih =>
      rw [List.any_cons, Bool.or_eq_false_iff] at hn
      have h1 := hsz s (by have := hn.1; unfold notName at this; simpa using this)
      have h2 := ih hn.2
      rw [sumS_cons, List.length_cons]
      omega
  refine ⟨by omega, by omega, ?_, hF.wf⟩
  rcases sizeGo_le _ _ h with h1 | h1
  · omega
  · rw [h1, sumS_nil]; simp
set_option maxHeartbeats 2000000 in
set_option maxRecDepth 100000 in
theorem check_calls (r : Rec) (v : Value) (w : World) (hv : RecAt w v r) (hF : Fine r) :
    Calls Try.prog 41 #[v] w fun e w' => e = .returned (.int .i64 (checkF r)) ∧ Below w.heap.size w w' := by
  have HV := Aside0.mk hv
  obtain ⟨A4, c4, A5, c5, A6, c6, rfl, l4, g4, l5, g5, l6, g6⟩ := hv
  have G4 := Aside0.mk g4
  have HF := Aside0.mk hF
  obtain ⟨R, hR⟩ : ∃ R, checkF r = R := ⟨_, rfl⟩
  rw [hR]
  unfold checkF at hR
  have hl4 := hF.len4
  have hl6 := hF.texts2
  clear g4 g5 g6 hF
  by_cases k1 : isName r.f0 = false
  · rw [if_pos k1] at hR
    subst hR
    have K1 := Lib.hid k1
    clear k1
    go_enter Try.func41, Try.ntmps41
    go_wp2_with (((with_reducible refine gate_dst (N := 1) rfl ?_); refine box_event rfl (N := 1) rfl (cs := #[.string r.f0, .int .u16 r.f1, .int .u16 r.f2, .int .u32 r.f3, .slice A4 r.f4.length c4, .slice A5 r.f5.length c5, .slice A6 r.f6.length c6]) (t := 44) (by first | (go_simp; done) | (go_simp; rfl)) ?_; intro g hg w1 hbox hb); have HX := Aside0.mk hbox; have HB := Aside0.mk hb; clear hb hg; have z0 : w1.cell? ⟨g, 0, none⟩ = some (.string r.f0) := (blk_cell HX.out 0).trans rfl; clear hbox)
    have z0 : w1.cell? ⟨g, 0, none⟩ = some (.string r.f0) := (blk_cell HX.out 0).trans rfl
    have z1 : w1.cell? ⟨g, 1, none⟩ = some (.int .u16 r.f1) := (blk_cell HX.out 1).trans rfl
    have z2 : w1.cell? ⟨g, 2, none⟩ = some (.int .u16 r.f2) := (blk_cell HX.out 2).trans rfl
    have z3 : w1.cell? ⟨g, 3, none⟩ = some (.int .u32 r.f3) := (blk_cell HX.out 3).trans rfl
    have z4 : w1.cell? ⟨g, 4, none⟩ = some (.slice A4 r.f4.length c4) := (blk_cell HX.out 4).trans rfl
    have z5 : w1.cell? ⟨g, 5, none⟩ = some (.slice A5 r.f5.length c5) := (blk_cell HX.out 5).trans rfl
    have z6 : w1.cell? ⟨g, 6, none⟩ = some (.slice A6 r.f6.length c6) := (blk_cell HX.out 6).trans rfl
    refine (isName_no r.f0 _ K1.out).mono ?_
    rintro e w2 ⟨rfl, hb⟩
    have HX2 := Aside0.mk (blk_below HX.out hb)
    have HB2 := Aside0.mk (HB.out.trans (hb.mono (below_size HB.out)))
    clear hb z0 z1 z2 z3 z4 z5 z6
    have z0 : w2.cell? ⟨g, 0, none⟩ = some (.string r.f0) := (blk_cell HX2.out 0).trans rfl
    have z1 : w2.cell? ⟨g, 1, none⟩ = some (.int .u16 r.f1) := (blk_cell HX2.out 1).trans rfl
    have z2 : w2.cell? ⟨g, 2, none⟩ = some (.int .u16 r.f2) := (blk_cell HX2.out 2).trans rfl
    have z3 : w2.cell? ⟨g, 3, none⟩ = some (.int .u32 r.f3) := (blk_cell HX2.out 3).trans rfl
    have z4 : w2.cell? ⟨g, 4, none⟩ = some (.slice A4 r.f4.length c4) := (blk_cell HX2.out 4).trans rfl
    have z5 : w2.cell? ⟨g, 5, none⟩ = some (.slice A5 r.f5.length c5) := (blk_cell HX2.out 5).trans rfl
    have z6 : w2.cell? ⟨g, 6, none⟩ = some (.slice A6 r.f6.length c6) := (blk_cell HX2.out 6).trans rfl
    go_wp2
    go_ret
    exact ⟨rfl, HB2.out⟩
  rw [if_neg k1] at hR
  have K1 := Lib.hid (show isName r.f0 = true by simpa using k1)
  clear k1
  by_cases k2 : r.f4.any notName = true
  · rw [if_pos k2] at hR
    subst hR
    have K2 := Lib.hid k2
    clear k2
    go_enter Try.func41, Try.ntmps41
    go_wp2_with (((with_reducible refine gate_dst (N := 1) rfl ?_); refine box_event rfl (N := 1) rfl (cs := #[.string r.f0, .int .u16 r.f1, .int .u16 r.f2, .int .u32 r.f3, .slice A4 r.f4.length c4, .slice A5 r.f5.length c5, .slice A6 r.f6.length c6]) (t := 44) (by first | (go_simp; done) | (go_simp; rfl)) ?_; intro g hg w1 hbox hb); have HX := Aside0.mk hbox; have HB := Aside0.mk hb; clear hb hg; have z0 : w1.cell? ⟨g, 0, none⟩ = some (.string r.f0) := (blk_cell HX.out 0).trans rfl; clear hbox)
    have z0 : w1.cell? ⟨g, 0, none⟩ = some (.string r.f0) := (blk_cell HX.out 0).trans rfl
    have z1 : w1.cell? ⟨g, 1, none⟩ = some (.int .u16 r.f1) := (blk_cell HX.out 1).trans rfl
    have z2 : w1.cell? ⟨g, 2, none⟩ = some (.int .u16 r.f2) := (blk_cell HX.out 2).trans rfl
    have z3 : w1.cell? ⟨g, 3, none⟩ = some (.int .u32 r.f3) := (blk_cell HX.out 3).trans rfl
    have z4 : w1.cell? ⟨g, 4, none⟩ = some (.slice A4 r.f4.length c4) := (blk_cell HX.out 4).trans rfl
    have z5 : w1.cell? ⟨g, 5, none⟩ = some (.slice A5 r.f5.length c5) := (blk_cell HX.out 5).trans rfl
    have z6 : w1.cell? ⟨g, 6, none⟩ = some (.slice A6 r.f6.length c6) := (blk_cell HX.out 6).trans rfl
    refine (isName_yes r.f0 _ K1.out).mono ?_
    rintro e w2 ⟨rfl, hb⟩
    have HX2 := Aside0.mk (blk_below HX.out hb)
    have HB2 := Aside0.mk (HB.out.trans (hb.mono (below_size HB.out)))
    clear hb z0 z1 z2 z3 z4 z5 z6
    have z0 : w2.cell? ⟨g, 0, none⟩ = some (.string r.f0) := (blk_cell HX2.out 0).trans rfl
    have z1 : w2.cell? ⟨g, 1, none⟩ = some (.int .u16 r.f1) := (blk_cell HX2.out 1).trans rfl
    have z2 : w2.cell? ⟨g, 2, none⟩ = some (.int .u16 r.f2) := (blk_cell HX2.out 2).trans rfl
    have z3 : w2.cell? ⟨g, 3, none⟩ = some (.int .u32 r.f3) := (blk_cell HX2.out 3).trans rfl
    have z4 : w2.cell? ⟨g, 4, none⟩ = some (.slice A4 r.f4.length c4) := (blk_cell HX2.out 4).trans rfl
    have z5 : w2.cell? ⟨g, 5, none⟩ = some (.slice A5 r.f5.length c5) := (blk_cell HX2.out 5).trans rfl
    have z6 : w2.cell? ⟨g, 6, none⟩ = some (.slice A6 r.f6.length c6) := (blk_cell HX2.out 6).trans rfl
    go_wp2_with fail
    refine (Contains_notName A4 c4 r.f4 _ (Kd.C_below G4.out HB2.out) (by omega) _ K2.out).mono ?_
    rintro e w3 ⟨rfl, hb⟩
    have HX3 := Aside0.mk (blk_below HX2.out hb)
    have HB3 := Aside0.mk (HB2.out.trans (hb.mono (below_size HB2.out)))
    clear hb z0 z1 z2 z3 z4 z5 z6
    have z0 : w3.cell? ⟨g, 0, none⟩ = some (.string r.f0) := (blk_cell HX3.out 0).trans rfl
    have z1 : w3.cell? ⟨g, 1, none⟩ = some (.int .u16 r.f1) := (blk_cell HX3.out 1).trans rfl
    have z2 : w3.cell? ⟨g, 2, none⟩ = some (.int .u16 r.f2) := (blk_cell HX3.out 2).trans rfl
    have z3 : w3.cell? ⟨g, 3, none⟩ = some (.int .u32 r.f3) := (blk_cell HX3.out 3).trans rfl
    have z4 : w3.cell? ⟨g, 4, none⟩ = some (.slice A4 r.f4.length c4) := (blk_cell HX3.out 4).trans rfl
    have z5 : w3.cell? ⟨g, 5, none⟩ = some (.slice A5 r.f5.length c5) := (blk_cell HX3.out 5).trans rfl
    have z6 : w3.cell? ⟨g, 6, none⟩ = some (.slice A6 r.f6.length c6) := (blk_cell HX3.out 6).trans rfl
    go_wp2
    go_ret
    exact ⟨rfl, HB3.out⟩
  rw [if_neg k2] at hR
  replace k2 := Bool.eq_false_iff.mpr k2
  have K2 := Lib.hid k2
  by_cases k3 : shapedB r = false
  · rw [if_pos k3] at hR
    subst hR
    have K3 := Lib.hid k3
    clear k3 k2
    go_enter Try.func41, Try.ntmps41
    go_wp2_with (((with_reducible refine gate_dst (N := 1) rfl ?_); refine box_event rfl (N := 1) rfl (cs := #[.string r.f0, .int .u16 r.f1, .int .u16 r.f2, .int .u32 r.f3, .slice A4 r.f4.length c4, .slice A5 r.f5.length c5, .slice A6 r.f6.length c6]) (t := 44) (by first | (go_simp; done) | (go_simp; rfl)) ?_; intro g hg w1 hbox hb); have HX := Aside0.mk hbox; have HB := Aside0.mk hb; clear hb hg; have z0 : w1.cell? ⟨g, 0, none⟩ = some (.string r.f0) := (blk_cell HX.out 0).trans rfl; clear hbox)
    have z0 : w1.cell? ⟨g, 0, none⟩ = some (.string r.f0) := (blk_cell HX.out 0).trans rfl
    have z1 : w1.cell? ⟨g, 1, none⟩ = some (.int .u16 r.f1) := (blk_cell HX.out 1).trans rfl
    have z2 : w1.cell? ⟨g, 2, none⟩ = some (.int .u16 r.f2) := (blk_cell HX.out 2).trans rfl
    have z3 : w1.cell? ⟨g, 3, none⟩ = some (.int .u32 r.f3) := (blk_cell HX.out 3).trans rfl
    have z4 : w1.cell? ⟨g, 4, none⟩ = some (.slice A4 r.f4.length c4) := (blk_cell HX.out 4).trans rfl
    have z5 : w1.cell? ⟨g, 5, none⟩ = some (.slice A5 r.f5.length c5) := (blk_cell HX.out 5).trans rfl
    have z6 : w1.cell? ⟨g, 6, none⟩ = some (.slice A6 r.f6.length c6) := (blk_cell HX.out 6).trans rfl
    refine (isName_yes r.f0 _ K1.out).mono ?_
    rintro e w2 ⟨rfl, hb⟩
    have HX2 := Aside0.mk (blk_below HX.out hb)
    have HB2 := Aside0.mk (HB.out.trans (hb.mono (below_size HB.out)))
    clear hb z0 z1 z2 z3 z4 z5 z6
    have z0 : w2.cell? ⟨g, 0, none⟩ = some (.string r.f0) := (blk_cell HX2.out 0).trans rfl
    have z1 : w2.cell? ⟨g, 1, none⟩ = some (.int .u16 r.f1) := (blk_cell HX2.out 1).trans rfl
    have z2 : w2.cell? ⟨g, 2, none⟩ = some (.int .u16 r.f2) := (blk_cell HX2.out 2).trans rfl
    have z3 : w2.cell? ⟨g, 3, none⟩ = some (.int .u32 r.f3) := (blk_cell HX2.out 3).trans rfl
    have z4 : w2.cell? ⟨g, 4, none⟩ = some (.slice A4 r.f4.length c4) := (blk_cell HX2.out 4).trans rfl
    have z5 : w2.cell? ⟨g, 5, none⟩ = some (.slice A5 r.f5.length c5) := (blk_cell HX2.out 5).trans rfl
    have z6 : w2.cell? ⟨g, 6, none⟩ = some (.slice A6 r.f6.length c6) := (blk_cell HX2.out 6).trans rfl
    go_wp2_with fail
    refine (Contains_notName A4 c4 r.f4 _ (Kd.C_below G4.out HB2.out) (by omega) _ K2.out).mono ?_
    rintro e w3 ⟨rfl, hb⟩
    have HX3 := Aside0.mk (blk_below HX2.out hb)
    have HB3 := Aside0.mk (HB2.out.trans (hb.mono (below_size HB2.out)))
    clear hb z0 z1 z2 z3 z4 z5 z6
    have z0 : w3.cell? ⟨g, 0, none⟩ = some (.string r.f0) := (blk_cell HX3.out 0).trans rfl
    have z1 : w3.cell? ⟨g, 1, none⟩ = some (.int .u16 r.f1) := (blk_cell HX3.out 1).trans rfl
    have z2 : w3.cell? ⟨g, 2, none⟩ = some (.int .u16 r.f2) := (blk_cell HX3.out 2).trans rfl
    have z3 : w3.cell? ⟨g, 3, none⟩ = some (.int .u32 r.f3) := (blk_cell HX3.out 3).trans rfl
    have z4 : w3.cell? ⟨g, 4, none⟩ = some (.slice A4 r.f4.length c4) := (blk_cell HX3.out 4).trans rfl
    have z5 : w3.cell? ⟨g, 5, none⟩ = some (.slice A5 r.f5.length c5) := (blk_cell HX3.out 5).trans rfl
    have z6 : w3.cell? ⟨g, 6, none⟩ = some (.slice A6 r.f6.length c6) := (blk_cell HX3.out 6).trans rfl
    go_wp2_with fail
    refine (shaped_calls r _ _ (HV.out.below HB3.out) (by omega)).mono ?_
    rw [K3.out]
    rintro e w4 ⟨rfl, hb⟩
    have HX4 := Aside0.mk (blk_below HX3.out hb)
    have HB4 := Aside0.mk (HB3.out.trans (hb.mono (below_size HB3.out)))
    clear hb z0 z1 z2 z3 z4 z5 z6
    have z0 : w4.cell? ⟨g, 0, none⟩ = some (.string r.f0) := (blk_cell HX4.out 0).trans rfl
    have z1 : w4.cell? ⟨g, 1, none⟩ = some (.int .u16 r.f1) := (blk_cell HX4.out 1).trans rfl
    have z2 : w4.cell? ⟨g, 2, none⟩ = some (.int .u16 r.f2) := (blk_cell HX4.out 2).trans rfl
    have z3 : w4.cell? ⟨g, 3, none⟩ = some (.int .u32 r.f3) := (blk_cell HX4.out 3).trans rfl
    have z4 : w4.cell? ⟨g, 4, none⟩ = some (.slice A4 r.f4.length c4) := (blk_cell HX4.out 4).trans rfl
    have z5 : w4.cell? ⟨g, 5, none⟩ = some (.slice A5 r.f5.length c5) := (blk_cell HX4.out 5).trans rfl
    have z6 : w4.cell? ⟨g, 6, none⟩ = some (.slice A6 r.f6.length c6) := (blk_cell HX4.out 6).trans rfl
    go_wp2
    go_ret
    exact ⟨rfl, HB4.out⟩
  rw [if_neg k3] at hR
  replace k3 : shapedB r = true := by simpa using k3
  have K3 := Lib.hid k3
  obtain ⟨n, hn⟩ : ∃ n, sizeF r = n := ⟨_, rfl⟩
  rw [hn] at hR
  have K4 := Lib.hid hn
  by_cases k4 : 131070 < n
  · rw [if_pos k4] at hR
    subst hR
    have d4 : decide ((131070 : Int) < (n : Int)) = true := decide_eq_true (by omega)
    have d4' : decide (131070 < n) = true := decide_eq_true k4
    clear k4 k3 k2 hn
    go_enter Try.func41, Try.ntmps41
    go_wp2_with (((with_reducible refine gate_dst (N := 1) rfl ?_); refine box_event rfl (N := 1) rfl (cs := #[.string r.f0, .int .u16 r.f1, .int .u16 r.f2, .int .u32 r.f3, .slice A4 r.f4.length c4, .slice A5 r.f5.length c5, .slice A6 r.f6.length c6]) (t := 44) (by first | (go_simp; done) | (go_simp; rfl)) ?_; intro g hg w1 hbox hb); have HX := Aside0.mk hbox; have HB := Aside0.mk hb; clear hb hg; have z0 : w1.cell? ⟨g, 0, none⟩ = some (.string r.f0) := (blk_cell HX.out 0).trans rfl; clear hbox)
    have z0 : w1.cell? ⟨g, 0, none⟩ = some (.string r.f0) := (blk_cell HX.out 0).trans rfl
    have z1 : w1.cell? ⟨g, 1, none⟩ = some (.int .u16 r.f1) := (blk_cell HX.out 1).trans rfl
    have z2 : w1.cell? ⟨g, 2, none⟩ = some (.int .u16 r.f2) := (blk_cell HX.out 2).trans rfl
    have z3 : w1.cell? ⟨g, 3, none⟩ = some (.int .u32 r.f3) := (blk_cell HX.out 3).trans rfl
    have z4 : w1.cell? ⟨g, 4, none⟩ = some (.slice A4 r.f4.length c4) := (blk_cell HX.out 4).trans rfl
    have z5 : w1.cell? ⟨g, 5, none⟩ = some (.slice A5 r.f5.length c5) := (blk_cell HX.out 5).trans rfl
    have z6 : w1.cell? ⟨g, 6, none⟩ = some (.slice A6 r.f6.length c6) := (blk_cell HX.out 6).trans rfl
    refine (isName_yes r.f0 _ K1.out).mono ?_
    rintro e w2 ⟨rfl, hb⟩
    have HX2 := Aside0.mk (blk_below HX.out hb)
    have HB2 := Aside0.mk (HB.out.trans (hb.mono (below_size HB.out)))
    clear hb z0 z1 z2 z3 z4 z5 z6
    have z0 : w2.cell? ⟨g, 0, none⟩ = some (.string r.f0) := (blk_cell HX2.out 0).trans rfl
    have z1 : w2.cell? ⟨g, 1, none⟩ = some (.int .u16 r.f1) := (blk_cell HX2.out 1).trans rfl
    have z2 : w2.cell? ⟨g, 2, none⟩ = some (.int .u16 r.f2) := (blk_cell HX2.out 2).trans rfl
    have z3 : w2.cell? ⟨g, 3, none⟩ = some (.int .u32 r.f3) := (blk_cell HX2.out 3).trans rfl
    have z4 : w2.cell? ⟨g, 4, none⟩ = some (.slice A4 r.f4.length c4) := (blk_cell HX2.out 4).trans rfl
    have z5 : w2.cell? ⟨g, 5, none⟩ = some (.slice A5 r.f5.length c5) := (blk_cell HX2.out 5).trans rfl
    have z6 : w2.cell? ⟨g, 6, none⟩ = some (.slice A6 r.f6.length c6) := (blk_cell HX2.out 6).trans rfl
    go_wp2_with fail
    refine (Contains_notName A4 c4 r.f4 _ (Kd.C_below G4.out HB2.out) (by omega) _ K2.out).mono ?_
    rintro e w3 ⟨rfl, hb⟩
    have HX3 := Aside0.mk (blk_below HX2.out hb)
    have HB3 := Aside0.mk (HB2.out.trans (hb.mono (below_size HB2.out)))
    clear hb z0 z1 z2 z3 z4 z5 z6
    have z0 : w3.cell? ⟨g, 0, none⟩ = some (.string r.f0) := (blk_cell HX3.out 0).trans rfl
    have z1 : w3.cell? ⟨g, 1, none⟩ = some (.int .u16 r.f1) := (blk_cell HX3.out 1).trans rfl
    have z2 : w3.cell? ⟨g, 2, none⟩ = some (.int .u16 r.f2) := (blk_cell HX3.out 2).trans rfl
    have z3 : w3.cell? ⟨g, 3, none⟩ = some (.int .u32 r.f3) := (blk_cell HX3.out 3).trans rfl
    have z4 : w3.cell? ⟨g, 4, none⟩ = some (.slice A4 r.f4.length c4) := (blk_cell HX3.out 4).trans rfl
    have z5 : w3.cell? ⟨g, 5, none⟩ = some (.slice A5 r.f5.length c5) := (blk_cell HX3.out 5).trans rfl
    have z6 : w3.cell? ⟨g, 6, none⟩ = some (.slice A6 r.f6.length c6) := (blk_cell HX3.out 6).trans rfl
    go_wp2_with fail
    refine (shaped_calls r _ _ (HV.out.below HB3.out) (by omega)).mono ?_
    rw [K3.out]
    rintro e w4 ⟨rfl, hb⟩
    have HX4 := Aside0.mk (blk_below HX3.out hb)
    have HB4 := Aside0.mk (HB3.out.trans (hb.mono (below_size HB3.out)))
    clear hb z0 z1 z2 z3 z4 z5 z6
    have z0 : w4.cell? ⟨g, 0, none⟩ = some (.string r.f0) := (blk_cell HX4.out 0).trans rfl
    have z1 : w4.cell? ⟨g, 1, none⟩ = some (.int .u16 r.f1) := (blk_cell HX4.out 1).trans rfl
    have z2 : w4.cell? ⟨g, 2, none⟩ = some (.int .u16 r.f2) := (blk_cell HX4.out 2).trans rfl
    have z3 : w4.cell? ⟨g, 3, none⟩ = some (.int .u32 r.f3) := (blk_cell HX4.out 3).trans rfl
    have z4 : w4.cell? ⟨g, 4, none⟩ = some (.slice A4 r.f4.length c4) := (blk_cell HX4.out 4).trans rfl
    have z5 : w4.cell? ⟨g, 5, none⟩ = some (.slice A5 r.f5.length c5) := (blk_cell HX4.out 5).trans rfl
    have z6 : w4.cell? ⟨g, 6, none⟩ = some (.slice A6 r.f6.length c6) := (blk_cell HX4.out 6).trans rfl
    go_wp2_with fail
    refine (size_calls r _ _ (HV.out.below HB4.out) HF.out.names HF.out.texts).mono ?_
    rw [K4.out]
    rintro e w5 ⟨rfl, hb⟩
    have HX5 := Aside0.mk (blk_below HX4.out hb)
    have HB5 := Aside0.mk (HB4.out.trans (hb.mono (below_size HB4.out)))
    clear hb z0 z1 z2 z3 z4 z5 z6
    have z0 : w5.cell? ⟨g, 0, none⟩ = some (.string r.f0) := (blk_cell HX5.out 0).trans rfl
    have z1 : w5.cell? ⟨g, 1, none⟩ = some (.int .u16 r.f1) := (blk_cell HX5.out 1).trans rfl
    have z2 : w5.cell? ⟨g, 2, none⟩ = some (.int .u16 r.f2) := (blk_cell HX5.out 2).trans rfl
    have z3 : w5.cell? ⟨g, 3, none⟩ = some (.int .u32 r.f3) := (blk_cell HX5.out 3).trans rfl
    have z4 : w5.cell? ⟨g, 4, none⟩ = some (.slice A4 r.f4.length c4) := (blk_cell HX5.out 4).trans rfl
    have z5 : w5.cell? ⟨g, 5, none⟩ = some (.slice A5 r.f5.length c5) := (blk_cell HX5.out 5).trans rfl
    have z6 : w5.cell? ⟨g, 6, none⟩ = some (.slice A6 r.f6.length c6) := (blk_cell HX5.out 6).trans rfl
    go_wp2
    go_ret
    exact ⟨rfl, HB5.out⟩
  rw [if_neg k4] at hR
  have HS := Aside0.mk (small_of HF.out (by omega) k2 k3)
  have d4 : decide ((131070 : Int) < (n : Int)) = false := decide_eq_false (by omega)
  have d4' : decide (131070 < n) = false := decide_eq_false k4
  clear k4 k3 k2 hn
  by_cases k5 : 65535 < (plainL r).length
  · rw [if_pos k5] at hR
    subst hR
    have d5 : decide ((65535 : Int) < ((plainL r).length : Int)) = true := decide_eq_true (by omega)
    have d5' : decide (65535 < (plainL r).length) = true := decide_eq_true k5
    clear k5
    go_enter Try.func41, Try.ntmps41
    go_wp2_with (((with_reducible refine gate_dst (N := 1) rfl ?_); refine box_event rfl (N := 1) rfl (cs := #[.string r.f0, .int .u16 r.f1, .int .u16 r.f2, .int .u32 r.f3, .slice A4 r.f4.length c4, .slice A5 r.f5.length c5, .slice A6 r.f6.length c6]) (t := 44) (by first | (go_simp; done) | (go_simp; rfl)) ?_; intro g hg w1 hbox hb); have HX := Aside0.mk hbox; have HB := Aside0.mk hb; clear hb hg; have z0 : w1.cell? ⟨g, 0, none⟩ = some (.string r.f0) := (blk_cell HX.out 0).trans rfl; clear hbox)
    have z0 : w1.cell? ⟨g, 0, none⟩ = some (.string r.f0) := (blk_cell HX.out 0).trans rfl
    have z1 : w1.cell? ⟨g, 1, none⟩ = some (.int .u16 r.f1) := (blk_cell HX.out 1).trans rfl
    have z2 : w1.cell? ⟨g, 2, none⟩ = some (.int .u16 r.f2) := (blk_cell HX.out 2).trans rfl
    have z3 : w1.cell? ⟨g, 3, none⟩ = some (.int .u32 r.f3) := (blk_cell HX.out 3).trans rfl
    have z4 : w1.cell? ⟨g, 4, none⟩ = some (.slice A4 r.f4.length c4) := (blk_cell HX.out 4).trans rfl
    have z5 : w1.cell? ⟨g, 5, none⟩ = some (.slice A5 r.f5.length c5) := (blk_cell HX.out 5).trans rfl
    have z6 : w1.cell? ⟨g, 6, none⟩ = some (.slice A6 r.f6.length c6) := (blk_cell HX.out 6).trans rfl
    refine (isName_yes r.f0 _ K1.out).mono ?_
    rintro e w2 ⟨rfl, hb⟩
    have HX2 := Aside0.mk (blk_below HX.out hb)
    have HB2 := Aside0.mk (HB.out.trans (hb.mono (below_size HB.out)))
    clear hb z0 z1 z2 z3 z4 z5 z6
    have z0 : w2.cell? ⟨g, 0, none⟩ = some (.string r.f0) := (blk_cell HX2.out 0).trans rfl
    have z1 : w2.cell? ⟨g, 1, none⟩ = some (.int .u16 r.f1) := (blk_cell HX2.out 1).trans rfl
    have z2 : w2.cell? ⟨g, 2, none⟩ = some (.int .u16 r.f2) := (blk_cell HX2.out 2).trans rfl
    have z3 : w2.cell? ⟨g, 3, none⟩ = some (.int .u32 r.f3) := (blk_cell HX2.out 3).trans rfl
    have z4 : w2.cell? ⟨g, 4, none⟩ = some (.slice A4 r.f4.length c4) := (blk_cell HX2.out 4).trans rfl
    have z5 : w2.cell? ⟨g, 5, none⟩ = some (.slice A5 r.f5.length c5) := (blk_cell HX2.out 5).trans rfl
    have z6 : w2.cell? ⟨g, 6, none⟩ = some (.slice A6 r.f6.length c6) := (blk_cell HX2.out 6).trans rfl
    go_wp2_with fail
    refine (Contains_notName A4 c4 r.f4 _ (Kd.C_below G4.out HB2.out) (by omega) _ K2.out).mono ?_
    rintro e w3 ⟨rfl, hb⟩
    have HX3 := Aside0.mk (blk_below HX2.out hb)
    have HB3 := Aside0.mk (HB2.out.trans (hb.mono (below_size HB2.out)))
    clear hb z0 z1 z2 z3 z4 z5 z6
    have z0 : w3.cell? ⟨g, 0, none⟩ = some (.string r.f0) := (blk_cell HX3.out 0).trans rfl
    have z1 : w3.cell? ⟨g, 1, none⟩ = some (.int .u16 r.f1) := (blk_cell HX3.out 1).trans rfl
    have z2 : w3.cell? ⟨g, 2, none⟩ = some (.int .u16 r.f2) := (blk_cell HX3.out 2).trans rfl
    have z3 : w3.cell? ⟨g, 3, none⟩ = some (.int .u32 r.f3) := (blk_cell HX3.out 3).trans rfl
    have z4 : w3.cell? ⟨g, 4, none⟩ = some (.slice A4 r.f4.length c4) := (blk_cell HX3.out 4).trans rfl
    have z5 : w3.cell? ⟨g, 5, none⟩ = some (.slice A5 r.f5.length c5) := (blk_cell HX3.out 5).trans rfl
    have z6 : w3.cell? ⟨g, 6, none⟩ = some (.slice A6 r.f6.length c6) := (blk_cell HX3.out 6).trans rfl
    go_wp2_with fail
    refine (shaped_calls r _ _ (HV.out.below HB3.out) (by omega)).mono ?_
    rw [K3.out]
    rintro e w4 ⟨rfl, hb⟩
    have HX4 := Aside0.mk (blk_below HX3.out hb)
    have HB4 := Aside0.mk (HB3.out.trans (hb.mono (below_size HB3.out)))
    clear hb z0 z1 z2 z3 z4 z5 z6
    have z0 : w4.cell? ⟨g, 0, none⟩ = some (.string r.f0) := (blk_cell HX4.out 0).trans rfl
    have z1 : w4.cell? ⟨g, 1, none⟩ = some (.int .u16 r.f1) := (blk_cell HX4.out 1).trans rfl
    have z2 : w4.cell? ⟨g, 2, none⟩ = some (.int .u16 r.f2) := (blk_cell HX4.out 2).trans rfl
    have z3 : w4.cell? ⟨g, 3, none⟩ = some (.int .u32 r.f3) := (blk_cell HX4.out 3).trans rfl
    have z4 : w4.cell? ⟨g, 4, none⟩ = some (.slice A4 r.f4.length c4) := (blk_cell HX4.out 4).trans rfl
    have z5 : w4.cell? ⟨g, 5, none⟩ = some (.slice A5 r.f5.length c5) := (blk_cell HX4.out 5).trans rfl
    have z6 : w4.cell? ⟨g, 6, none⟩ = some (.slice A6 r.f6.length c6) := (blk_cell HX4.out 6).trans rfl
    go_wp2_with fail
    refine (size_calls r _ _ (HV.out.below HB4.out) HF.out.names HF.out.texts).mono ?_
    rw [K4.out]
    rintro e w5 ⟨rfl, hb⟩
    have HX5 := Aside0.mk (blk_below HX4.out hb)
    have HB5 := Aside0.mk (HB4.out.trans (hb.mono (below_size HB4.out)))
    clear hb z0 z1 z2 z3 z4 z5 z6
    have z0 : w5.cell? ⟨g, 0, none⟩ = some (.string r.f0) := (blk_cell HX5.out 0).trans rfl
    have z1 : w5.cell? ⟨g, 1, none⟩ = some (.int .u16 r.f1) := (blk_cell HX5.out 1).trans rfl
    have z2 : w5.cell? ⟨g, 2, none⟩ = some (.int .u16 r.f2) := (blk_cell HX5.out 2).trans rfl
    have z3 : w5.cell? ⟨g, 3, none⟩ = some (.int .u32 r.f3) := (blk_cell HX5.out 3).trans rfl
    have z4 : w5.cell? ⟨g, 4, none⟩ = some (.slice A4 r.f4.length c4) := (blk_cell HX5.out 4).trans rfl
    have z5 : w5.cell? ⟨g, 5, none⟩ = some (.slice A5 r.f5.length c5) := (blk_cell HX5.out 5).trans rfl
    have z6 : w5.cell? ⟨g, 6, none⟩ = some (.slice A6 r.f6.length c6) := (blk_cell HX5.out 6).trans rfl
    go_wp2_with fail
    refine (plain_calls r _ _ (HV.out.below HB5.out) HS.out).mono ?_
    rintro e w6 ⟨v0, rfl, ho, hb⟩
    obtain ⟨A, c, rfl, _, _⟩ := Kd.R_reads ho
    clear ho
    have HX6 := Aside0.mk (blk_below HX5.out hb)
    have HB6 := Aside0.mk (HB5.out.trans (hb.mono (below_size HB5.out)))
    clear hb z0 z1 z2 z3 z4 z5 z6
    have z0 : w6.cell? ⟨g, 0, none⟩ = some (.string r.f0) := (blk_cell HX6.out 0).trans rfl
    have z1 : w6.cell? ⟨g, 1, none⟩ = some (.int .u16 r.f1) := (blk_cell HX6.out 1).trans rfl
    have z2 : w6.cell? ⟨g, 2, none⟩ = some (.int .u16 r.f2) := (blk_cell HX6.out 2).trans rfl
    have z3 : w6.cell? ⟨g, 3, none⟩ = some (.int .u32 r.f3) := (blk_cell HX6.out 3).trans rfl
    have z4 : w6.cell? ⟨g, 4, none⟩ = some (.slice A4 r.f4.length c4) := (blk_cell HX6.out 4).trans rfl
    have z5 : w6.cell? ⟨g, 5, none⟩ = some (.slice A5 r.f5.length c5) := (blk_cell HX6.out 5).trans rfl
    have z6 : w6.cell? ⟨g, 6, none⟩ = some (.slice A6 r.f6.length c6) := (blk_cell HX6.out 6).trans rfl
    go_wp2
    go_ret
    exact ⟨rfl, HB6.out⟩
  rw [if_neg k5] at hR
  have d5 : decide ((65535 : Int) < ((plainL r).length : Int)) = false := decide_eq_false (by omega)
  have d5' : decide (65535 < (plainL r).length) = false := decide_eq_false k5
  clear k5
  by_cases k6 : 2147483647 < r.f3
  · have d6 : decide (2147483647 < r.f3) = true := decide_eq_true k6
    by_cases k7 : r.f1 = 41
    · rw [if_neg (fun h => h.2 k7)] at hR
      subst hR
      have d7 : (r.f1 != 41) = false := by rw [bne_eq_false_iff_eq]; exact k7
      clear k6 k7
      go_enter Try.func41, Try.ntmps41
      go_wp2_with (((with_reducible refine gate_dst (N := 1) rfl ?_); refine box_event rfl (N := 1) rfl (cs := #[.string r.f0, .int .u16 r.f1, .int .u16 r.f2, .int .u32 r.f3, .slice A4 r.f4.length c4, .slice A5 r.f5.length c5, .slice A6 r.f6.length c6]) (t := 44) (by first | (go_simp; done) | (go_simp; rfl)) ?_; intro g hg w1 hbox hb); have HX := Aside0.mk hbox; have HB := Aside0.mk hb; clear hb hg; have z0 : w1.cell? ⟨g, 0, none⟩ = some (.string r.f0) := (blk_cell HX.out 0).trans rfl; clear hbox)
      have z0 : w1.cell? ⟨g, 0, none⟩ = some (.string r.f0) := (blk_cell HX.out 0).trans rfl
      have z1 : w1.cell? ⟨g, 1, none⟩ = some (.int .u16 r.f1) := (blk_cell HX.out 1).trans rfl
      have z2 : w1.cell? ⟨g, 2, none⟩ = some (.int .u16 r.f2) := (blk_cell HX.out 2).trans rfl
      have z3 : w1.cell? ⟨g, 3, none⟩ = some (.int .u32 r.f3) := (blk_cell HX.out 3).trans rfl
      have z4 : w1.cell? ⟨g, 4, none⟩ = some (.slice A4 r.f4.length c4) := (blk_cell HX.out 4).trans rfl
      have z5 : w1.cell? ⟨g, 5, none⟩ = some (.slice A5 r.f5.length c5) := (blk_cell HX.out 5).trans rfl
      have z6 : w1.cell? ⟨g, 6, none⟩ = some (.slice A6 r.f6.length c6) := (blk_cell HX.out 6).trans rfl
      refine (isName_yes r.f0 _ K1.out).mono ?_
      rintro e w2 ⟨rfl, hb⟩
      have HX2 := Aside0.mk (blk_below HX.out hb)
      have HB2 := Aside0.mk (HB.out.trans (hb.mono (below_size HB.out)))
      clear hb z0 z1 z2 z3 z4 z5 z6
      have z0 : w2.cell? ⟨g, 0, none⟩ = some (.string r.f0) := (blk_cell HX2.out 0).trans rfl
      have z1 : w2.cell? ⟨g, 1, none⟩ = some (.int .u16 r.f1) := (blk_cell HX2.out 1).trans rfl
      have z2 : w2.cell? ⟨g, 2, none⟩ = some (.int .u16 r.f2) := (blk_cell HX2.out 2).trans rfl
      have z3 : w2.cell? ⟨g, 3, none⟩ = some (.int .u32 r.f3) := (blk_cell HX2.out 3).trans rfl
      have z4 : w2.cell? ⟨g, 4, none⟩ = some (.slice A4 r.f4.length c4) := (blk_cell HX2.out 4).trans rfl
      have z5 : w2.cell? ⟨g, 5, none⟩ = some (.slice A5 r.f5.length c5) := (blk_cell HX2.out 5).trans rfl
      have z6 : w2.cell? ⟨g, 6, none⟩ = some (.slice A6 r.f6.length c6) := (blk_cell HX2.out 6).trans rfl
      go_wp2_with fail
      refine (Contains_notName A4 c4 r.f4 _ (Kd.C_below G4.out HB2.out) (by omega) _ K2.out).mono ?_
      rintro e w3 ⟨rfl, hb⟩
      have HX3 := Aside0.mk (blk_below HX2.out hb)
      have HB3 := Aside0.mk (HB2.out.trans (hb.mono (below_size HB2.out)))
      clear hb z0 z1 z2 z3 z4 z5 z6
      have z0 : w3.cell? ⟨g, 0, none⟩ = some (.string r.f0) := (blk_cell HX3.out 0).trans rfl
      have z1 : w3.cell? ⟨g, 1, none⟩ = some (.int .u16 r.f1) := (blk_cell HX3.out 1).trans rfl
      have z2 : w3.cell? ⟨g, 2, none⟩ = some (.int .u16 r.f2) := (blk_cell HX3.out 2).trans rfl
      have z3 : w3.cell? ⟨g, 3, none⟩ = some (.int .u32 r.f3) := (blk_cell HX3.out 3).trans rfl
      have z4 : w3.cell? ⟨g, 4, none⟩ = some (.slice A4 r.f4.length c4) := (blk_cell HX3.out 4).trans rfl
      have z5 : w3.cell? ⟨g, 5, none⟩ = some (.slice A5 r.f5.length c5) := (blk_cell HX3.out 5).trans rfl
      have z6 : w3.cell? ⟨g, 6, none⟩ = some (.slice A6 r.f6.length c6) := (blk_cell HX3.out 6).trans rfl
      go_wp2_with fail
      refine (shaped_calls r _ _ (HV.out.below HB3.out) (by omega)).mono ?_
      rw [K3.out]
      rintro e w4 ⟨rfl, hb⟩
      have HX4 := Aside0.mk (blk_below HX3.out hb)
      have HB4 := Aside0.mk (HB3.out.trans (hb.mono (below_size HB3.out)))
      clear hb z0 z1 z2 z3 z4 z5 z6
      have z0 : w4.cell? ⟨g, 0, none⟩ = some (.string r.f0) := (blk_cell HX4.out 0).trans rfl
      have z1 : w4.cell? ⟨g, 1, none⟩ = some (.int .u16 r.f1) := (blk_cell HX4.out 1).trans rfl
      have z2 : w4.cell? ⟨g, 2, none⟩ = some (.int .u16 r.f2) := (blk_cell HX4.out 2).trans rfl
      have z3 : w4.cell? ⟨g, 3, none⟩ = some (.int .u32 r.f3) := (blk_cell HX4.out 3).trans rfl
      have z4 : w4.cell? ⟨g, 4, none⟩ = some (.slice A4 r.f4.length c4) := (blk_cell HX4.out 4).trans rfl
      have z5 : w4.cell? ⟨g, 5, none⟩ = some (.slice A5 r.f5.length c5) := (blk_cell HX4.out 5).trans rfl
      have z6 : w4.cell? ⟨g, 6, none⟩ = some (.slice A6 r.f6.length c6) := (blk_cell HX4.out 6).trans rfl
      go_wp2_with fail
      refine (size_calls r _ _ (HV.out.below HB4.out) HF.out.names HF.out.texts).mono ?_
      rw [K4.out]
      rintro e w5 ⟨rfl, hb⟩
      have HX5 := Aside0.mk (blk_below HX4.out hb)
      have HB5 := Aside0.mk (HB4.out.trans (hb.mono (below_size HB4.out)))
      clear hb z0 z1 z2 z3 z4 z5 z6
      have z0 : w5.cell? ⟨g, 0, none⟩ = some (.string r.f0) := (blk_cell HX5.out 0).trans rfl
      have z1 : w5.cell? ⟨g, 1, none⟩ = some (.int .u16 r.f1) := (blk_cell HX5.out 1).trans rfl
      have z2 : w5.cell? ⟨g, 2, none⟩ = some (.int .u16 r.f2) := (blk_cell HX5.out 2).trans rfl
      have z3 : w5.cell? ⟨g, 3, none⟩ = some (.int .u32 r.f3) := (blk_cell HX5.out 3).trans rfl
      have z4 : w5.cell? ⟨g, 4, none⟩ = some (.slice A4 r.f4.length c4) := (blk_cell HX5.out 4).trans rfl
      have z5 : w5.cell? ⟨g, 5, none⟩ = some (.slice A5 r.f5.length c5) := (blk_cell HX5.out 5).trans rfl
      have z6 : w5.cell? ⟨g, 6, none⟩ = some (.slice A6 r.f6.length c6) := (blk_cell HX5.out 6).trans rfl
      go_wp2_with fail
      refine (plain_calls r _ _ (HV.out.below HB5.out) HS.out).mono ?_
      rintro e w6 ⟨v0, rfl, ho, hb⟩
      obtain ⟨A, c, rfl, _, _⟩ := Kd.R_reads ho
      clear ho
      have HX6 := Aside0.mk (blk_below HX5.out hb)
      have HB6 := Aside0.mk (HB5.out.trans (hb.mono (below_size HB5.out)))
      clear hb z0 z1 z2 z3 z4 z5 z6
      have z0 : w6.cell? ⟨g, 0, none⟩ = some (.string r.f0) := (blk_cell HX6.out 0).trans rfl
      have z1 : w6.cell? ⟨g, 1, none⟩ = some (.int .u16 r.f1) := (blk_cell HX6.out 1).trans rfl
      have z2 : w6.cell? ⟨g, 2, none⟩ = some (.int .u16 r.f2) := (blk_cell HX6.out 2).trans rfl
      have z3 : w6.cell? ⟨g, 3, none⟩ = some (.int .u32 r.f3) := (blk_cell HX6.out 3).trans rfl
      have z4 : w6.cell? ⟨g, 4, none⟩ = some (.slice A4 r.f4.length c4) := (blk_cell HX6.out 4).trans rfl
      have z5 : w6.cell? ⟨g, 5, none⟩ = some (.slice A5 r.f5.length c5) := (blk_cell HX6.out 5).trans rfl
      have z6 : w6.cell? ⟨g, 6, none⟩ = some (.slice A6 r.f6.length c6) := (blk_cell HX6.out 6).trans rfl
      go_wp2
      go_ret
      exact ⟨rfl, HB6.out⟩
    · rw [if_pos ⟨k6, k7⟩] at hR
      subst hR
      have d7 : (r.f1 != 41) = true := by rw [bne_iff_ne]; exact k7
      clear k6 k7
      go_enter Try.func41, Try.ntmps41
      go_wp2_with (((with_reducible refine gate_dst (N := 1) rfl ?_); refine box_event rfl (N := 1) rfl (cs := #[.string r.f0, .int .u16 r.f1, .int .u16 r.f2, .int .u32 r.f3, .slice A4 r.f4.length c4, .slice A5 r.f5.length c5, .slice A6 r.f6.length c6]) (t := 44) (by first | (go_simp; done) | (go_simp; rfl)) ?_; intro g hg w1 hbox hb); have HX := Aside0.mk hbox; have HB := Aside0.mk hb; clear hb hg; have z0 : w1.cell? ⟨g, 0, none⟩ = some (.string r.f0) := (blk_cell HX.out 0).trans rfl; clear hbox)
      have z0 : w1.cell? ⟨g, 0, none⟩ = some (.string r.f0) := (blk_cell HX.out 0).trans rfl
      have z1 : w1.cell? ⟨g, 1, none⟩ = some (.int .u16 r.f1) := (blk_cell HX.out 1).trans rfl
      have z2 : w1.cell? ⟨g, 2, none⟩ = some (.int .u16 r.f2) := (blk_cell HX.out 2).trans rfl
      have z3 : w1.cell? ⟨g, 3, none⟩ = some (.int .u32 r.f3) := (blk_cell HX.out 3).trans rfl
      have z4 : w1.cell? ⟨g, 4, none⟩ = some (.slice A4 r.f4.length c4) := (blk_cell HX.out 4).trans rfl
      have z5 : w1.cell? ⟨g, 5, none⟩ = some (.slice A5 r.f5.length c5) := (blk_cell HX.out 5).trans rfl
      have z6 : w1.cell? ⟨g, 6, none⟩ = some (.slice A6 r.f6.length c6) := (blk_cell HX.out 6).trans rfl
      refine (isName_yes r.f0 _ K1.out).mono ?_
      rintro e w2 ⟨rfl, hb⟩
      have HX2 := Aside0.mk (blk_below HX.out hb)
      have HB2 := Aside0.mk (HB.out.trans (hb.mono (below_size HB.out)))
      clear hb z0 z1 z2 z3 z4 z5 z6
      have z0 : w2.cell? ⟨g, 0, none⟩ = some (.string r.f0) := (blk_cell HX2.out 0).trans rfl
      have z1 : w2.cell? ⟨g, 1, none⟩ = some (.int .u16 r.f1) := (blk_cell HX2.out 1).trans rfl
      have z2 : w2.cell? ⟨g, 2, none⟩ = some (.int .u16 r.f2) := (blk_cell HX2.out 2).trans rfl
      have z3 : w2.cell? ⟨g, 3, none⟩ = some (.int .u32 r.f3) := (blk_cell HX2.out 3).trans rfl
      have z4 : w2.cell? ⟨g, 4, none⟩ = some (.slice A4 r.f4.length c4) := (blk_cell HX2.out 4).trans rfl
      have z5 : w2.cell? ⟨g, 5, none⟩ = some (.slice A5 r.f5.length c5) := (blk_cell HX2.out 5).trans rfl
      have z6 : w2.cell? ⟨g, 6, none⟩ = some (.slice A6 r.f6.length c6) := (blk_cell HX2.out 6).trans rfl
      go_wp2_with fail
      refine (Contains_notName A4 c4 r.f4 _ (Kd.C_below G4.out HB2.out) (by omega) _ K2.out).mono ?_
      rintro e w3 ⟨rfl, hb⟩
      have HX3 := Aside0.mk (blk_below HX2.out hb)
      have HB3 := Aside0.mk (HB2.out.trans (hb.mono (below_size HB2.out)))
      clear hb z0 z1 z2 z3 z4 z5 z6
      have z0 : w3.cell? ⟨g, 0, none⟩ = some (.string r.f0) := (blk_cell HX3.out 0).trans rfl
      have z1 : w3.cell? ⟨g, 1, none⟩ = some (.int .u16 r.f1) := (blk_cell HX3.out 1).trans rfl
      have z2 : w3.cell? ⟨g, 2, none⟩ = some (.int .u16 r.f2) := (blk_cell HX3.out 2).trans rfl
      have z3 : w3.cell? ⟨g, 3, none⟩ = some (.int .u32 r.f3) := (blk_cell HX3.out 3).trans rfl
      have z4 : w3.cell? ⟨g, 4, none⟩ = some (.slice A4 r.f4.length c4) := (blk_cell HX3.out 4).trans rfl
      have z5 : w3.cell? ⟨g, 5, none⟩ = some (.slice A5 r.f5.length c5) := (blk_cell HX3.out 5).trans rfl
      have z6 : w3.cell? ⟨g, 6, none⟩ = some (.slice A6 r.f6.length c6) := (blk_cell HX3.out 6).trans rfl
      go_wp2_with fail
      refine (shaped_calls r _ _ (HV.out.below HB3.out) (by omega)).mono ?_
      rw [K3.out]
      rintro e w4 ⟨rfl, hb⟩
      have HX4 := Aside0.mk (blk_below HX3.out hb)
      have HB4 := Aside0.mk (HB3.out.trans (hb.mono (below_size HB3.out)))
      clear hb z0 z1 z2 z3 z4 z5 z6
      have z0 : w4.cell? ⟨g, 0, none⟩ = some (.string r.f0) := (blk_cell HX4.out 0).trans rfl
      have z1 : w4.cell? ⟨g, 1, none⟩ = some (.int .u16 r.f1) := (blk_cell HX4.out 1).trans rfl
      have z2 : w4.cell? ⟨g, 2, none⟩ = some (.int .u16 r.f2) := (blk_cell HX4.out 2).trans rfl
      have z3 : w4.cell? ⟨g, 3, none⟩ = some (.int .u32 r.f3) := (blk_cell HX4.out 3).trans rfl
      have z4 : w4.cell? ⟨g, 4, none⟩ = some (.slice A4 r.f4.length c4) := (blk_cell HX4.out 4).trans rfl
      have z5 : w4.cell? ⟨g, 5, none⟩ = some (.slice A5 r.f5.length c5) := (blk_cell HX4.out 5).trans rfl
      have z6 : w4.cell? ⟨g, 6, none⟩ = some (.slice A6 r.f6.length c6) := (blk_cell HX4.out 6).trans rfl
      go_wp2_with fail
      refine (size_calls r _ _ (HV.out.below HB4.out) HF.out.names HF.out.texts).mono ?_
      rw [K4.out]
      rintro e w5 ⟨rfl, hb⟩
      have HX5 := Aside0.mk (blk_below HX4.out hb)
      have HB5 := Aside0.mk (HB4.out.trans (hb.mono (below_size HB4.out)))
      clear hb z0 z1 z2 z3 z4 z5 z6
      have z0 : w5.cell? ⟨g, 0, none⟩ = some (.string r.f0) := (blk_cell HX5.out 0).trans rfl
      have z1 : w5.cell? ⟨g, 1, none⟩ = some (.int .u16 r.f1) := (blk_cell HX5.out 1).trans rfl
      have z2 : w5.cell? ⟨g, 2, none⟩ = some (.int .u16 r.f2) := (blk_cell HX5.out 2).trans rfl
      have z3 : w5.cell? ⟨g, 3, none⟩ = some (.int .u32 r.f3) := (blk_cell HX5.out 3).trans rfl
      have z4 : w5.cell? ⟨g, 4, none⟩ = some (.slice A4 r.f4.length c4) := (blk_cell HX5.out 4).trans rfl
      have z5 : w5.cell? ⟨g, 5, none⟩ = some (.slice A5 r.f5.length c5) := (blk_cell HX5.out 5).trans rfl
      have z6 : w5.cell? ⟨g, 6, none⟩ = some (.slice A6 r.f6.length c6) := (blk_cell HX5.out 6).trans rfl
      go_wp2_with fail
      refine (plain_calls r _ _ (HV.out.below HB5.out) HS.out).mono ?_
      rintro e w6 ⟨v0, rfl, ho, hb⟩
      obtain ⟨A, c, rfl, _, _⟩ := Kd.R_reads ho
      clear ho
      have HX6 := Aside0.mk (blk_below HX5.out hb)
      have HB6 := Aside0.mk (HB5.out.trans (hb.mono (below_size HB5.out)))
      clear hb z0 z1 z2 z3 z4 z5 z6
      have z0 : w6.cell? ⟨g, 0, none⟩ = some (.string r.f0) := (blk_cell HX6.out 0).trans rfl
      have z1 : w6.cell? ⟨g, 1, none⟩ = some (.int .u16 r.f1) := (blk_cell HX6.out 1).trans rfl
      have z2 : w6.cell? ⟨g, 2, none⟩ = some (.int .u16 r.f2) := (blk_cell HX6.out 2).trans rfl
      have z3 : w6.cell? ⟨g, 3, none⟩ = some (.int .u32 r.f3) := (blk_cell HX6.out 3).trans rfl
      have z4 : w6.cell? ⟨g, 4, none⟩ = some (.slice A4 r.f4.length c4) := (blk_cell HX6.out 4).trans rfl
      have z5 : w6.cell? ⟨g, 5, none⟩ = some (.slice A5 r.f5.length c5) := (blk_cell HX6.out 5).trans rfl
      have z6 : w6.cell? ⟨g, 6, none⟩ = some (.slice A6 r.f6.length c6) := (blk_cell HX6.out 6).trans rfl
      go_wp2
      go_ret
      exact ⟨rfl, HB6.out⟩
  · rw [if_neg (fun h => k6 h.1)] at hR
    subst hR
    have d6 : decide (2147483647 < r.f3) = false := decide_eq_false k6
    clear k6
    go_enter Try.func41, Try.ntmps41
    go_wp2_with (((with_reducible refine gate_dst (N := 1) rfl ?_); refine box_event rfl (N := 1) rfl (cs := #[.string r.f0, .int .u16 r.f1, .int .u16 r.f2, .int .u32 r.f3, .slice A4 r.f4.length c4, .slice A5 r.f5.length c5, .slice A6 r.f6.length c6]) (t := 44) (by first | (go_simp; done) | (go_simp; rfl)) ?_; intro g hg w1 hbox hb); have HX := Aside0.mk hbox; have HB := Aside0.mk hb; clear hb hg; have z0 : w1.cell? ⟨g, 0, none⟩ = some (.string r.f0) := (blk_cell HX.out 0).trans rfl; clear hbox)
    have z0 : w1.cell? ⟨g, 0, none⟩ = some (.string r.f0) := (blk_cell HX.out 0).trans rfl
    have z1 : w1.cell? ⟨g, 1, none⟩ = some (.int .u16 r.f1) := (blk_cell HX.out 1).trans rfl
    have z2 : w1.cell? ⟨g, 2, none⟩ = some (.int .u16 r.f2) := (blk_cell HX.out 2).trans rfl
    have z3 : w1.cell? ⟨g, 3, none⟩ = some (.int .u32 r.f3) := (blk_cell HX.out 3).trans rfl
    have z4 : w1.cell? ⟨g, 4, none⟩ = some (.slice A4 r.f4.length c4) := (blk_cell HX.out 4).trans rfl
    have z5 : w1.cell? ⟨g, 5, none⟩ = some (.slice A5 r.f5.length c5) := (blk_cell HX.out 5).trans rfl
    have z6 : w1.cell? ⟨g, 6, none⟩ = some (.slice A6 r.f6.length c6) := (blk_cell HX.out 6).trans rfl
    refine (isName_yes r.f0 _ K1.out).mono ?_
    rintro e w2 ⟨rfl, hb⟩
    have HX2 := Aside0.mk (blk_below HX.out hb)
    have HB2 := Aside0.mk (HB.out.trans (hb.mono (below_size HB.out)))
    clear hb z0 z1 z2 z3 z4 z5 z6
    have z0 : w2.cell? ⟨g, 0, none⟩ = some (.string r.f0) := (blk_cell HX2.out 0).trans rfl
    have z1 : w2.cell? ⟨g, 1, none⟩ = some (.int .u16 r.f1) := (blk_cell HX2.out 1).trans rfl
    have z2 : w2.cell? ⟨g, 2, none⟩ = some (.int .u16 r.f2) := (blk_cell HX2.out 2).trans rfl
    have z3 : w2.cell? ⟨g, 3, none⟩ = some (.int .u32 r.f3) := (blk_cell HX2.out 3).trans rfl
    have z4 : w2.cell? ⟨g, 4, none⟩ = some (.slice A4 r.f4.length c4) := (blk_cell HX2.out 4).trans rfl
    have z5 : w2.cell? ⟨g, 5, none⟩ = some (.slice A5 r.f5.length c5) := (blk_cell HX2.out 5).trans rfl
    have z6 : w2.cell? ⟨g, 6, none⟩ = some (.slice A6 r.f6.length c6) := (blk_cell HX2.out 6).trans rfl
    go_wp2_with fail
    refine (Contains_notName A4 c4 r.f4 _ (Kd.C_below G4.out HB2.out) (by omega) _ K2.out).mono ?_
    rintro e w3 ⟨rfl, hb⟩
    have HX3 := Aside0.mk (blk_below HX2.out hb)
    have HB3 := Aside0.mk (HB2.out.trans (hb.mono (below_size HB2.out)))
    clear hb z0 z1 z2 z3 z4 z5 z6
    have z0 : w3.cell? ⟨g, 0, none⟩ = some (.string r.f0) := (blk_cell HX3.out 0).trans rfl
    have z1 : w3.cell? ⟨g, 1, none⟩ = some (.int .u16 r.f1) := (blk_cell HX3.out 1).trans rfl
    have z2 : w3.cell? ⟨g, 2, none⟩ = some (.int .u16 r.f2) := (blk_cell HX3.out 2).trans rfl
    have z3 : w3.cell? ⟨g, 3, none⟩ = some (.int .u32 r.f3) := (blk_cell HX3.out 3).trans rfl
    have z4 : w3.cell? ⟨g, 4, none⟩ = some (.slice A4 r.f4.length c4) := (blk_cell HX3.out 4).trans rfl
    have z5 : w3.cell? ⟨g, 5, none⟩ = some (.slice A5 r.f5.length c5) := (blk_cell HX3.out 5).trans rfl
    have z6 : w3.cell? ⟨g, 6, none⟩ = some (.slice A6 r.f6.length c6) := (blk_cell HX3.out 6).trans rfl
    go_wp2_with fail
    refine (shaped_calls r _ _ (HV.out.below HB3.out) (by omega)).mono ?_
    rw [K3.out]
    rintro e w4 ⟨rfl, hb⟩
    have HX4 := Aside0.mk (blk_below HX3.out hb)
    have HB4 := Aside0.mk (HB3.out.trans (hb.mono (below_size HB3.out)))
    clear hb z0 z1 z2 z3 z4 z5 z6
    have z0 : w4.cell? ⟨g, 0, none⟩ = some (.string r.f0) := (blk_cell HX4.out 0).trans rfl
    have z1 : w4.cell? ⟨g, 1, none⟩ = some (.int .u16 r.f1) := (blk_cell HX4.out 1).trans rfl
    have z2 : w4.cell? ⟨g, 2, none⟩ = some (.int .u16 r.f2) := (blk_cell HX4.out 2).trans rfl
    have z3 : w4.cell? ⟨g, 3, none⟩ = some (.int .u32 r.f3) := (blk_cell HX4.out 3).trans rfl
    have z4 : w4.cell? ⟨g, 4, none⟩ = some (.slice A4 r.f4.length c4) := (blk_cell HX4.out 4).trans rfl
    have z5 : w4.cell? ⟨g, 5, none⟩ = some (.slice A5 r.f5.length c5) := (blk_cell HX4.out 5).trans rfl
    have z6 : w4.cell? ⟨g, 6, none⟩ = some (.slice A6 r.f6.length c6) := (blk_cell HX4.out 6).trans rfl
    go_wp2_with fail
    refine (size_calls r _ _ (HV.out.below HB4.out) HF.out.names HF.out.texts).mono ?_
    rw [K4.out]
    rintro e w5 ⟨rfl, hb⟩
    have HX5 := Aside0.mk (blk_below HX4.out hb)
    have HB5 := Aside0.mk (HB4.out.trans (hb.mono (below_size HB4.out)))
    clear hb z0 z1 z2 z3 z4 z5 z6
    have z0 : w5.cell? ⟨g, 0, none⟩ = some (.string r.f0) := (blk_cell HX5.out 0).trans rfl
    have z1 : w5.cell? ⟨g, 1, none⟩ = some (.int .u16 r.f1) := (blk_cell HX5.out 1).trans rfl
    have z2 : w5.cell? ⟨g, 2, none⟩ = some (.int .u16 r.f2) := (blk_cell HX5.out 2).trans rfl
    have z3 : w5.cell? ⟨g, 3, none⟩ = some (.int .u32 r.f3) := (blk_cell HX5.out 3).trans rfl
    have z4 : w5.cell? ⟨g, 4, none⟩ = some (.slice A4 r.f4.length c4) := (blk_cell HX5.out 4).trans rfl
    have z5 : w5.cell? ⟨g, 5, none⟩ = some (.slice A5 r.f5.length c5) := (blk_cell HX5.out 5).trans rfl
    have z6 : w5.cell? ⟨g, 6, none⟩ = some (.slice A6 r.f6.length c6) := (blk_cell HX5.out 6).trans rfl
    go_wp2_with fail
    refine (plain_calls r _ _ (HV.out.below HB5.out) HS.out).mono ?_
    rintro e w6 ⟨v0, rfl, ho, hb⟩
    obtain ⟨A, c, rfl, _, _⟩ := Kd.R_reads ho
    clear ho
    have HX6 := Aside0.mk (blk_below HX5.out hb)
    have HB6 := Aside0.mk (HB5.out.trans (hb.mono (below_size HB5.out)))
    clear hb z0 z1 z2 z3 z4 z5 z6
    have z0 : w6.cell? ⟨g, 0, none⟩ = some (.string r.f0) := (blk_cell HX6.out 0).trans rfl
    have z1 : w6.cell? ⟨g, 1, none⟩ = some (.int .u16 r.f1) := (blk_cell HX6.out 1).trans rfl
    have z2 : w6.cell? ⟨g, 2, none⟩ = some (.int .u16 r.f2) := (blk_cell HX6.out 2).trans rfl
    have z3 : w6.cell? ⟨g, 3, none⟩ = some (.int .u32 r.f3) := (blk_cell HX6.out 3).trans rfl
    have z4 : w6.cell? ⟨g, 4, none⟩ = some (.slice A4 r.f4.length c4) := (blk_cell HX6.out 4).trans rfl
    have z5 : w6.cell? ⟨g, 5, none⟩ = some (.slice A5 r.f5.length c5) := (blk_cell HX6.out 5).trans rfl
    have z6 : w6.cell? ⟨g, 6, none⟩ = some (.slice A6 r.f6.length c6) := (blk_cell HX6.out 6).trans rfl
    go_wp2
    go_ret
    exact ⟨rfl, HB6.out⟩
end Go.Proofs.Ytbbeikdbioelgaa.M
set_option linter.unusedVariables false
set_option linter.unusedSimpArgs false
namespace Go.Proofs.Ytbbeikdbioelgaa.M
open Go.RowKit Go.Proofs.YtbbeikdbioelgaaW.PrintWords Go.Proofs.YtbbeikdbioelgaaW.PrintLast Go.Proofs.YtbbeikdbioelgaaW.PrintMore
section
variable {P : Program} {ops : Array Oper} {Q : Exit → Act → World → Prop} {S : World → Prop} {ds : List Nat} {oi : Oper} {v : Value} {fuel : Nat} {l : Array Bool} {a a' : Act} {w : World}
theorem dpure (i : Nat) (N : Option Tmp) (hi : ops[i]? = some oi) (hN : oi.dst = N) (hc : anyB .any ops l (l.setIfInBounds i true) i = true) (hQ : ∀ c a w, Q (.panic c) (a.put oi.dst v) w → Q (.panic c) a w) (hw : Region.wanted oi (yielded ops a.tmps) = true)
    (hv : ∀ w, (execOp a.eval oi).run P w = .ok (.value v) w) (ha : a.put N v = a') (h : wpAnyLast P .any ops Q S ds fuel (l.setIfInBounds i true) a' w) : wpAnyLast P .any ops Q S ds (fuel + 1) l a w :=
  pure_ _ hi hN hc hQ (.inl ⟨hw, hv⟩) ha h
theorem dtake (i : Nat) (N : Option Tmp) (hi : ops[i]? = some oi) (hN : oi.dst = N) (hc : takeB .any ops ds l (l.setIfInBounds i true) i = true) (hQ : ∀ c a w, Q (.panic c) (a.put oi.dst v) w → Q (.panic c) a w) (hw : Region.wanted oi (yielded ops a.tmps) = true) (hS : S w)
    (hv : ∀ w, S w → (execOp a.eval oi).run P w = .ok (.value v) w) (ha : a.put N v = a') (h : wpAnyLast P .any ops Q S ds fuel (l.setIfInBounds i true) a' w) : wpAnyLast P .any ops Q S ds (fuel + 1) l a w :=
  take_ _ hi hN hc hQ (.inl ⟨hw, hv⟩) hS ha h
theorem done1 (i : Nat) (N : Option Tmp) (hi : ops[i]? = some oi) (hN : oi.dst = N) (hc : readyB .any ops l (l.setIfInBounds i true) i = true) (hd : i ∉ ds)
    (h : ∀ K : Act → World → Prop, Aside0 (∀ a' w', S w' → (S w' → wpAnyLast P .any ops Q S ds fuel (l.setIfInBounds i true) a' w') → K a' w') → if Region.wanted oi (yielded ops a.tmps) = true then Oper.wp P oi a w K Q else K (a.put N undef) w) :
    wpAnyLast P .any ops Q S ds (fuel + 1) l a w := one_ _ hi hN hc hd (fun K hK => h K ⟨hK⟩)
theorem dlast (i : Nat) (hi : ops[i]? = some oi) (hc : readyB .any ops l (l.setIfInBounds i true) i = true) (hd : i ∈ ds)
    (h : ∀ K : Act → World → Prop, Aside0 (∀ a' w', wpAnyLast P .any ops Q S ds fuel (l.setIfInBounds i true) a' w' → K a' w') → Aside0 (if Region.wanted oi (yielded ops a.tmps) = true then Oper.wp P oi a w K Q else K (a.put oi.dst undef) w)) :
    wpAnyLast P .any ops Q S ds (fuel + 1) l a w := last_ _ hi rfl hc hd (fun K hK => (h K ⟨hK⟩).out)
theorem dskip {K : Act → World → Prop} {w1 : World} (hw : Region.wanted oi (yielded ops a.tmps) = true) (hN : oi.dst = none) (hrun : (execOp a.eval oi).run P w = .ok .skip w1) (h : K a w1) :
    Aside0 (if Region.wanted oi (yielded ops a.tmps) = true then Oper.wp P oi a w K Q else K (a.put oi.dst undef) w) := by
  rw [hN]
  exact ⟨skip_ hw hN hrun h⟩
end
end Go.Proofs.Ytbbeikdbioelgaa.M
set_option linter.unusedVariables false
set_option linter.unusedSimpArgs false
namespace Go.Proofs.Ytbbeikdbioelgaa.M
open Go.RowKit Go.Proofs.YtbbeikdbioelgaaW.PrintWords Go.Proofs.YtbbeikdbioelgaaW.PrintLast Go.Proofs.YtbbeikdbioelgaaW.PrintMore
def doneTo (n i : Nat) : Array Bool := (List.replicate i true ++ List.replicate (n - i) false).toArray
def wpDr (P : Program) (ops : Array Oper) (Q : Exit → Act → World → Prop) (S : World → Prop) (ds : List Nat) (rest : List Oper) (a : Act) (w : World) : Prop :=
  ops.toList.drop (ops.size - rest.length) = rest → wpAnyLast P .any ops Q S ds rest.length (doneTo ops.size (ops.size - rest.length)) a w
def anyI (ops : Array Oper) (n : Nat) : Bool := n ≤ ops.size && n ≠ 0 && anyB .any ops (doneTo ops.size (ops.size - n)) (doneTo ops.size (ops.size - n + 1)) (ops.size - n)
def takeI (ops : Array Oper) (ds : List Nat) (n : Nat) : Bool := n ≤ ops.size && n ≠ 0 && takeB .any ops ds (doneTo ops.size (ops.size - n)) (doneTo ops.size (ops.size - n + 1)) (ops.size - n)
def oneI (ops : Array Oper) (n : Nat) : Bool := n ≤ ops.size && n ≠ 0 && readyB .any ops (doneTo ops.size (ops.size - n)) (doneTo ops.size (ops.size - n + 1)) (ops.size - n)
def endI (ops : Array Oper) : Bool := Region.ready .any ops (doneTo ops.size ops.size) == []
section
variable {P : Program} {ops : Array Oper} {Q : Exit → Act → World → Prop} {S : World → Prop} {ds : List Nat} {o : Oper} {rest : List Oper} {v : Value} {a a' : Act} {w w1 : World}
theorem dr_start {id : Nat} {l : List Oper} (S : World → Prop) (ds : List Nat) (hm : P.follows .mixedOrders = true) (hS : S w.drew) (h : S w.drew → wpDr P l.toArray Q S ds l a w.drew) : (Code.region id l.toArray true).wp P Q a w := by
  refine start_ (S := S) (ds := ds) (n := l.length) (doneTo l.length 0) hm (by simp) (by simp [doneTo]) hS (fun hS => ?_)
  have := h hS (by simp)
  simpa using this
theorem dr_at (hd : ops.toList.drop (ops.size - (o :: rest).length) = o :: rest) (hn : (o :: rest).length ≤ ops.size) : ops[ops.size - (o :: rest).length]? = some o ∧ ops.toList.drop (ops.size - rest.length) = rest ∧ ops.size - rest.length = ops.size - (o :: rest).length + 1 := by
  have h1 : ops.size - rest.length = ops.size - (o :: rest).length + 1 := by simp only [List.length_cons] at hn ⊢; omega
  refine ⟨?_, ?_, h1⟩
  · rw [← Array.getElem?_toList, ← List.head?_drop, hd]; rfl
  · rw [h1, ← List.drop_drop, hd]; rfl
theorem dr_pure (hc : anyI ops (o :: rest).length = true) (hw : Region.wanted o (yielded ops a.tmps) = true) (hQ : ∀ c a w, Q (.panic c) (a.put o.dst v) w → Q (.panic c) a w)
    (hv : ∀ w, (execOp a.eval o).run P w = .ok (.value v) w) (ha : a.put o.dst v = a') (h : wpDr P ops Q S ds rest a' w) : wpDr P ops Q S ds (o :: rest) a w := by
  intro hd
  simp only [anyI, Bool.and_eq_true, decide_eq_true_eq] at hc
  obtain ⟨h1, h2, h3⟩ := dr_at hd hc.1.1
  have := h h2
  rw [h3] at this
  exact pure_ (N := o.dst) _ h1 rfl hc.2 hQ (.inl ⟨hw, hv⟩) ha this
theorem dr_off (hc : anyI ops (o :: rest).length = true) (hw : Region.wanted o (yielded ops a.tmps) = false) (hQ : ∀ c a w, Q (.panic c) (a.put o.dst undef) w → Q (.panic c) a w)
    (ha : a.put o.dst undef = a') (h : wpDr P ops Q S ds rest a' w) : wpDr P ops Q S ds (o :: rest) a w := by
  intro hd
  simp only [anyI, Bool.and_eq_true, decide_eq_true_eq] at hc
  obtain ⟨h1, h2, h3⟩ := dr_at hd hc.1.1
  have := h h2
  rw [h3] at this
  exact pure_ (N := o.dst) _ h1 rfl hc.2 hQ (.inr ⟨hw, rfl⟩) ha this
theorem dr_take (hc : takeI ops ds (o :: rest).length = true) (hw : Region.wanted o (yielded ops a.tmps) = true) (hQ : ∀ c a w, Q (.panic c) (a.put o.dst v) w → Q (.panic c) a w) (hS : S w)
    (hv : ∀ w, S w → (execOp a.eval o).run P w = .ok (.value v) w) (ha : a.put o.dst v = a') (h : wpDr P ops Q S ds rest a' w) : wpDr P ops Q S ds (o :: rest) a w := by
  intro hd
  simp only [takeI, Bool.and_eq_true, decide_eq_true_eq] at hc
  obtain ⟨h1, h2, h3⟩ := dr_at hd hc.1.1
  have := h h2
  rw [h3] at this
  exact take_ (N := o.dst) _ h1 rfl hc.2 hQ (.inl ⟨hw, hv⟩) hS ha this
theorem dr_one (hc : oneI ops (o :: rest).length = true) (hd : ds.contains (ops.size - (o :: rest).length) = false)
    (h : ∀ K : Act → World → Prop, Aside0 (∀ a' w', S w' → (S w' → wpDr P ops Q S ds rest a' w') → K a' w') → if Region.wanted o (yielded ops a.tmps) = true then Oper.wp P o a w K Q else K (a.put o.dst undef) w) :
    wpDr P ops Q S ds (o :: rest) a w := by
  intro hdr
  simp only [oneI, Bool.and_eq_true, decide_eq_true_eq] at hc
  obtain ⟨h1, h2, h3⟩ := dr_at hdr hc.1.1
  refine one_ (N := o.dst) _ h1 rfl hc.2 (by simpa using hd) (fun K hK => h K ⟨fun a' w' hS hW => hK a' w' hS (fun hS' => ?_)⟩)
  have := hW hS' h2
  rw [h3] at this
  exact this
theorem dr_done (hr : endI ops = true) (h : Q .normal a w) : wpDr P ops Q S ds [] a w := by
  intro _
  refine done_ ?_ h
  simpa [endI] using hr
theorem dr_call {f : FuncId} {fn : Func} {xs : Array Operand} {ts : Array TypeId} (hf : P.funcs[f]? = some fn) (hname : (fn.name == "runtime.NumGoroutine") = false) (hb : fn.body.isSome = true)
    (hop : o.op = .call { callee := .value (.func f), args := xs, argTypes := ts }) (hc : oneI ops (o :: rest).length = true) (hd : ds.contains (ops.size - (o :: rest).length) = false) (hw : Region.wanted o (yielded ops a.tmps) = true) {args : Array Value} (hargs : xs.map a.eval = args)
    (h : Calls P f args w fun e w' => (∃ v, e = .returned v ∧ S w' ∧ (S w' → wpDr P ops Q S ds rest (a.put o.dst v) w')) ∨ ∃ c, e = .panicked c ∧ Q (.panic c) a w') : wpDr P ops Q S ds (o :: rest) a w := by
  refine dr_one hc hd (fun K hK => ?_)
  rw [if_pos hw]
  have he := enters_ hf hname hb args w
  unfold Oper.wp
  have hrun : (execOp a.eval o).run P w = .ok (.enter f args) w := by
    unfold execOp
    simp [hop, resolve, Deferred.ofValue, invoke, Act.eval, hargs, he]
  rw [hrun, Oper.upon_enter]
  refine h.mono fun e w'' hh => ?_
  rcases hh with ⟨v, rfl, hs, hk⟩ | ⟨c, rfl, hq⟩
  · exact hK.out _ _ hs hk
  · exact hq
theorem dr_norm (ha : a = a') (h : wpDr P ops Q S ds rest a' w) : wpDr P ops Q S ds rest a w := by
  subst ha
  exact h
end
end Go.Proofs.Ytbbeikdbioelgaa.M
set_option linter.unusedVariables false
set_option linter.unusedSimpArgs false
namespace Go.Proofs.Ytbbeikdbioelgaa.M
open Go.RowKit Go.Maps Go.Proofs.YtbbeikdbioelgaaW.PrintWords Go.Proofs.YtbbeikdbioelgaaW.PrintLast Go.Proofs.YtbbeikdbioelgaaW.PrintMore
attribute [local go_sem] max2_int min2_int max_two min_two max_three min_three max_four min_four
attribute [local go_sem ↓] Go.wp_at_zero Go.wp_at_succ
section
variable {ops : Array Oper} {o : Oper} {a : Act} {Q : Exit → Act → World → Prop} {Kc : Act → World → Prop}
set_option maxRecDepth 100000 in
/-- append(v, y...), y a text, as one step of a region that draws. -/
theorem app8s_step {w0 W : World} {base : Nat} (N : Option Tmp) (hN : o.dst = N) (hw : Region.wanted o (yielded ops a.tmps) = true) (s x : Operand) (ho : o.op = .call { callee := .builtin .append, args := #[s, x], argTypes := #[57, 9] })
    {v : Value} {xs : List Int} {y : ByteArray} (hs : a.eval s = v) (hx : a.eval x = .string y)
    (HO : B8 W base (fun _ => True) v xs) (HB : Below base w0 W) (hbase : base ≤ W.heap.size) (hl : xs.length + y.size ≤ 140737488355328)
    (h : ∀ v1 w1, B8 w1 base (fun _ => True) v1 (xs ++ bytesOf y) → Below base w0 w1 → W.grownBy w1 v.ownBlock → Kc (a.put N v1) w1) :
    if Region.wanted o (yielded ops a.tmps) = true then Oper.wp Try.prog o a W Kc Q else Kc (a.put N undef) W := by
  subst hN
  obtain ⟨i0, hi, hzz⟩ := Option.map_eq_some_iff.1 info8
  simp only [Prod.mk.injEq] at hzz
  obtain ⟨hz0, hz1, hz2⟩ := hzz
  obtain ⟨v1, w1, hr, h2, h3, h4⟩ := Lib.run_append_own_string (P := Try.prog) W base 57 9 o.type 5 i0 Try.underlying57 Try.underlying9 hi hz0 hz1 hz2 v xs.length (nums .u8 xs) (Kd.own_of_R HO) y (by simp only [maxLen]; omega) hl hbase
  have hl2 : (xs ++ bytesOf y).length = xs.length + y.size := by rw [List.length_append, bytesOf_length]
  have hc : nums .u8 (xs ++ bytesOf y) = nums .u8 xs ++ Lib.strCells y := by
    rw [nums_append]
    congr 1
    simp [nums, bytesOf, Lib.strCells]
  refine event_step hw (v := v1) (w1 := w1) ?_ (h v1 w1 (Kd.R_of_own ?_ (fun _ _ => trivial)) (HB.grown h3 hbase (own_base (Kd.own_of_R HO))) h3)
  · unfold execOp
    simp only [ho, resolve, invoke, builtin, Sem.run_bind, Sem.run_pure, Result.andThen_ok, List.map_toArray, List.map_cons, List.map_nil, hs, hx, hr]
  · rw [hl2]
    show w1.ownsRow base 5 1 v1 (xs.length + y.size) (nums .u8 (xs ++ bytesOf y))
    rw [hc]
    exact h2
theorem app8r_step {w0 W : World} {base : Nat} (N : Option Tmp) (hN : o.dst = N) (hw : Region.wanted o (yielded ops a.tmps) = true) (s x : Operand) (ho : o.op = .call { callee := .builtin .append, args := #[s, x], argTypes := #[57, 57] })
    {v : Value} {xs ys : List Int} {A : Option Addr} {m c : Nat} (hs : a.eval s = v) (hx : a.eval x = .slice A m c)
    (HO : B8 W base (fun _ => True) v xs) (HR : (Kd.int .u8).C W A m ys) (HB : Below base w0 W) (hbase : base ≤ W.heap.size) (hl : (xs.length + m) * 1 ≤ 140737488355328)
    (h : ∀ v1 w1, B8 w1 base (fun _ => True) v1 (xs ++ ys) → Below base w0 w1 → W.grownBy w1 v.ownBlock → Kc (a.put N v1) w1) :
    if Region.wanted o (yielded ops a.tmps) = true then Oper.wp Try.prog o a W Kc Q else Kc (a.put N undef) W := by
  subst hN
  exact Kd.R_append_rows_step (Kd.int .u8) (w0 := w0) base hw s x 57 5 (.int .u8 0) 1 ho Try.underlying57 info8 rfl (by decide) (by decide) v xs ys A m c (fun _ => True) (fun _ => False) hs hx HO HR (fun _ _ hk => hk) (fun _ hk => hk.elim) (fun _ _ => trivial) HB hbase hl
    (fun v1 w1 h1 h2 h3 _ => h v1 w1 h1 h2 h3)
end
theorem Put_nil (n sz : Int) (w : World) (h0 : 0 ≤ sz) (h8 : sz ≤ 8) :
    Calls Try.prog 56 #[.slice none 0 0, .int .u64 n, .int .i64 sz] w fun e w' => ∃ A c, e = .returned (.slice A (putL n sz.toNat).length c) ∧ (Kd.int .u8).C w' A (putL n sz.toNat).length (putL n sz.toNat) ∧ Below w.heap.size w w' := by
  refine (Put_calls none 0 [] n sz w (Kd.C_of_reads (d := (0 : Int)) (h1 := fun _ => rfl) ⟨rfl, by decide, fun h => absurd h (by decide)⟩) (Nat.le_refl _) (by decide) h0 h8).mono ?_
  rintro e w' ⟨v, rfl, ho, hb⟩
  obtain ⟨A, c, rfl, _, hr⟩ := Kd.R_reads ho
  exact ⟨A, c, rfl, hr, hb⟩
theorem undrew {B : Nat} {w w1 : World} (h : Below B w.drew w1) : Below B w w1 := ⟨h.os, h.tape, h.output, h.size, h.block⟩
def nowAt (w : World) (g : Nat) : Value := (w.cell? ⟨g, 0, none⟩).getD undef
theorem now_is {w : World} {g : Nat} {u : Value} (h : w.cell? ⟨g, 0, none⟩ = some u) : nowAt w g = u := by
  unfold nowAt
  rw [h]
  rfl
def RepS (D : DataW Unit) (m : List UInt8 → Option Int) : Prop := ∀ l : List UInt8, Maps.has D (.string l) = (m l).isSome ∧ ∀ v, m l = some v → D.atKey (.string l) (.lit (.int .i64 0)) = .lit (.int .i64 v)
structure WAt (w0 w : World) (g mb : Nat) (out : List Int) (m : List UInt8 → Option Int) (N : Nat) : Prop where
  own : ∃ v, w.heap[g]? = some (.cells #[v, .map (some mb)] 67 (0, 0)) ∧ B8 w w0.heap.size (fun _ => True) v out
  map : ∃ D : DataW Unit, w.ownsMap Try.prog 9 (plainElem Try.prog 3) mb N D ∧ RepS D m
  hg : w0.heap.size ≤ g
  hm : w0.heap.size ≤ mb
  ne : mb ≠ g
  below : Below w0.heap.size w0 w
theorem mapOf_far {w w1 : World} {mb N : Nat} {D : DataW Unit} (h : w.ownsMap Try.prog 9 (plainElem Try.prog 3) mb N D) (hb : w1.heap[mb]? = w.heap[mb]?) : w1.ownsMap Try.prog 9 (plainElem Try.prog 3) mb N D := by
  obtain ⟨es, clock, he, hr⟩ := h
  exact ⟨es, clock, hb.trans he, hr⟩
def KeepT (w w' : World) (g mb : Nat) : Prop := w.heap.size ≤ w'.heap.size ∧ ∀ k cs t, w.heap[k]? = some (.cells cs t (0, 0)) → t ≠ 5 → k ≠ g → k ≠ mb → w'.heap[k]? = some (.cells cs t (0, 0))
section
variable {w w1 w2 : World} {g mb : Nat}
theorem KeepT.refl (w : World) (g mb : Nat) : KeepT w w g mb := ⟨Nat.le_refl _, fun _ _ _ h _ _ _ => h⟩
theorem KeepT.trans (h : KeepT w w1 g mb) (h2 : KeepT w1 w2 g mb) : KeepT w w2 g mb := ⟨Nat.le_trans h.1 h2.1, fun k cs t hk ht h1 h3 => h2.2 k cs t (h.2 k cs t hk ht h1 h3) ht h1 h3⟩
theorem KeepT.below (hb : Below w.heap.size w w1) (g mb : Nat) : KeepT w w1 g mb := ⟨hb.size, fun k cs t hk _ _ _ => blk_below hk hb⟩
theorem KeepT.grown {base : Nat} {v : Value} {xs : List Int} (ho : B8 w base (fun _ => True) v xs) (hg : w.grownBy w1 v.ownBlock) (g mb : Nat) : KeepT w w1 g mb :=
  ⟨hg.size, fun k cs t hk ht _ _ => blk_grown hk hg (fun e => by
    obtain ⟨cells, hc⟩ := own_typed (Kd.own_of_R ho) k e.symm
    rw [hc] at hk
    injection hk with hk
    injection hk with _ h2
    exact ht h2.symm)⟩
theorem KeepT.set (w : World) (g mb : Nat) (j : Nat) (u : Value) : KeepT w (w.setCell ⟨g, j, none⟩ u) g mb := ⟨by simp, fun k cs t hk _ h1 _ => (Below.heap_setCell w _ u k h1).trans hk⟩
theorem KeepT.map (hg : w.grownBy w1 (some mb)) (g : Nat) : KeepT w w1 g mb := ⟨hg.size, fun k cs t hk _ _ h2 => blk_grown hk hg (fun e => h2 (Option.some.inj e))⟩
theorem KeepT.drew (w : World) (g mb : Nat) : KeepT w w.drew g mb := ⟨Nat.le_refl _, fun _ _ _ h _ _ _ => h⟩
end
theorem map_ne {w : World} {base mb N : Nat} {v : Value} {xs : List Int} {D : DataW Unit} (h : w.ownsMap Try.prog 9 (plainElem Try.prog 3) mb N D) (ho : B8 w base (fun _ => True) v xs) : some mb ≠ v.ownBlock := by
  intro e
  obtain ⟨es, clock, he, hr⟩ := h
  obtain ⟨cells, hc⟩ := own_typed (Kd.own_of_R ho) mb e.symm
  rw [hc] at he
  exact absurd (Option.some.inj he) (by simp)
theorem WAt.stored {w0 w : World} {g mb N : Nat} {out : List Int} {m : List UInt8 → Option Int} {v v1 : Value} {D : DataW Unit} (hx : w.heap[g]? = some (.cells #[v, .map (some mb)] 67 (0, 0))) (ho : B8 w w0.heap.size (fun _ => True) v1 out)
    (hM : w.ownsMap Try.prog 9 (plainElem Try.prog 3) mb N D) (hR : RepS D m) (hg : w0.heap.size ≤ g) (hm : w0.heap.size ≤ mb) (hne : mb ≠ g) (hb : Below w0.heap.size w0 w) : WAt w0 (w.setCell ⟨g, 0, none⟩ v1) g mb out m N :=
  ⟨⟨v1, by rw [blk_set hx 0 v1]; rfl, Kd.R_set ho hx (by intro q hq; rw [show q = 5 by simpa [Kd.int, Kd.scalar] using hq]; decide) 0 v1⟩,
   ⟨D, mapOf_far hM (Below.heap_setCell w _ _ mb hne), hR⟩, hg, hm, hne, hb.setCell hg v1⟩
set_option maxHeartbeats 2000000 in
set_option maxRecDepth 100000 in
theorem num_calls {w0 w : World} {g mb N : Nat} {out : List Int} {m : List UInt8 → Option Int} (h : WAt w0 w g mb out m N) (n sz : Int) (h0 : 0 ≤ sz) (h8 : sz ≤ 8) (n0 : 0 ≤ n) (n1 : n ≤ 4294967295) (hl : out.length ≤ 100000000) :
    Calls Try.prog 32 #[.pointer (some ⟨g, 0, none⟩), .int .i64 n, .int .i64 sz] w fun e w' => e = .returned (.tuple #[]) ∧ WAt w0 w' g mb (out ++ putL n sz.toNat) m N ∧ KeepT w w' g mb := by
  obtain ⟨⟨v, hcell, ho⟩, ⟨D, hmap, hrep⟩, hg, hmb, hne, hb⟩ := h
  have HX := Aside0.mk hcell
  have HO := Aside0.mk ho
  have HM := Aside0.mk hmap
  have HR := Aside0.mk hrep
  have HB := Aside0.mk hb
  have HL := Aside0.mk hl
  have z0 : w.cell? ⟨g, 0, none⟩ = some v := (blk_cell HX.out 0).trans rfl
  have GL := Aside0.mk (blk_lt hcell)
  have y0 : nowAt w.drew g = v := now_is z0
  have hwr : IntKind.u64.wrap n = n := mine_wraps64 n n0 (by omega)
  have HP := Aside0.mk (show (out.length + (putL n sz.toNat).length) * 1 ≤ 140737488355328 by rw [putL_length]; omega)
  clear hcell ho hmap hrep hb hl
  go_enter Try.func32, Try.ntmps32
  go_wp2_with fail
  refine start_ (n := 13) (S := fun w' => w'.cell? ⟨g, 0, none⟩ = some v) (ds := [12]) (Array.replicate 13 false) (by kernel_rfl) (by kernel_rfl) rfl (by exact z0) (fun hS => ?_)
  refine dpure 0 (some 6) rfl rfl (by kernel_rfl) (fun _ _ _ h => h) (by rfl) (v := ?_) (a' := ?_) ?_ ?_ ?_
  rotate_left 2
  · intro w'; go_simp; with_reducible rfl
  · simp only [Act.put, List.setIfInBounds_toArray, List.set_cons_zero, List.set_cons_succ]; rfl
  refine dpure 1 (some 7) rfl rfl (by kernel_rfl) (fun _ _ _ h => h) (by rfl) (v := ?_) (a' := ?_) ?_ ?_ ?_
  rotate_left 2
  · intro w'; go_simp; with_reducible rfl
  · simp only [Act.put, List.setIfInBounds_toArray, List.set_cons_zero, List.set_cons_succ]; rfl
  refine dpure 2 (some 8) rfl rfl (by kernel_rfl) (fun _ _ _ h => h) (by rfl) (v := ?_) (a' := ?_) ?_ ?_ ?_
  rotate_left 2
  · intro w'; go_simp; with_reducible rfl
  · simp only [Act.put, List.setIfInBounds_toArray, List.set_cons_zero, List.set_cons_succ]; rfl
  refine dpure 3 (some 9) rfl rfl (by kernel_rfl) (fun _ _ _ h => h) (by rfl) (v := ?_) (a' := ?_) ?_ ?_ ?_
  rotate_left 2
  · intro w'; go_simp; with_reducible rfl
  · simp only [Act.put, List.setIfInBounds_toArray, List.set_cons_zero, List.set_cons_succ]; rfl
  refine dtake 4 (some 10) rfl rfl (by kernel_rfl) (fun _ _ _ h => h) (by rfl) hS (v := ?_) (a' := ?_) ?_ ?_ ?_
  rotate_left 2
  · rintro w' s0; go_simp; with_reducible rfl
  · simp only [Act.put, List.setIfInBounds_toArray, List.set_cons_zero, List.set_cons_succ]; rfl
  refine dpure 5 (some 11) rfl rfl (by kernel_rfl) (fun _ _ _ h => h) (by rfl) (v := ?_) (a' := ?_) ?_ ?_ ?_
  rotate_left 2
  · intro w'; go_simp; with_reducible rfl
  · simp only [Act.put, List.setIfInBounds_toArray, List.set_cons_zero, List.set_cons_succ]; rfl
  refine dpure 6 (some 12) rfl rfl (by kernel_rfl) (fun _ _ _ h => h) (by rfl) (v := ?_) (a' := ?_) ?_ ?_ ?_
  rotate_left 2
  · intro w'; go_simp; with_reducible rfl
  · simp only [Act.put, List.setIfInBounds_toArray, List.set_cons_zero, List.set_cons_succ]; rfl
  refine dpure 7 (some 13) rfl rfl (by kernel_rfl) (fun _ _ _ h => h) (by rfl) (v := ?_) (a' := ?_) ?_ ?_ ?_
  rotate_left 2
  · intro w'; go_simp; with_reducible rfl
  · simp only [Act.put, List.setIfInBounds_toArray, List.set_cons_zero, List.set_cons_succ]; rfl
  refine done1 8 (some 14) rfl rfl (by kernel_rfl) (by decide) (fun K hK => ?_)
  refine goes_ Try.func56 (by kernel_rfl) rfl #[.slice none 0 0, .int .u64 n, .int .i64 sz] (by rfl) rfl rfl (by kernel_rfl) ?_
  refine (Put_nil n sz _ h0 h8).mono ?_
  rintro e w2 ⟨A, c, rfl, hr2, hb2⟩
  refine ⟨_, rfl, ?_⟩
  have HX2 := blk_below (blk_drew HX.out) hb2
  have HO2 := Kd.R_below (Kd.R_drew HO.out) hb2
  have HM2 := mapOf_far HM.out (hb2.block mb HM.out.lt)
  have HB2 := HB.out.trans ((undrew hb2).mono HB.out.size)
  refine hK.out _ _ ((blk_cell HX2 0).trans rfl) (fun hS => ?_)
  clear hK K
  refine norm_ (a' := ?_) ?_ ?_
  rotate_left
  · simp only [Act.put, List.setIfInBounds_toArray, List.set_cons_zero, List.set_cons_succ]; rfl
  refine done1 9 (some 15) rfl rfl (by kernel_rfl) (by decide) (fun K hK => ?_)
  refine app8r_step (w0 := w0) (c := c) (base := w0.heap.size) (some 15) rfl (by rfl) (.tmp 10) (.tmp 14) (by kernel_rfl) (by kernel_rfl) (by kernel_rfl) HO2 hr2 HB2 HB2.size HP.out ?_
  intro v3 w3 ho3 hb3 hg3
  obtain ⟨A3, c3, rfl⟩ := Kd.R_slice ho3
  have HX3 := blk_grown HX2 hg3 (Kd.R_ne HO2 HX2 (by decide))
  have HM3 := mapOf_far HM2 (hg3.block mb HM2.lt (map_ne HM2 HO2))
  refine hK.out _ _ ((blk_cell HX3 0).trans rfl) (fun hS => ?_)
  clear hK K
  refine norm_ (a' := ?_) ?_ ?_
  rotate_left
  · simp only [Act.put, List.setIfInBounds_toArray, List.set_cons_zero, List.set_cons_succ]; rfl
  refine dpure 10 (some 16) rfl rfl (by kernel_rfl) (fun _ _ _ h => h) (by rfl) (v := ?_) (a' := ?_) ?_ ?_ ?_
  rotate_left 2
  · intro w'; go_simp; with_reducible rfl
  · simp only [Act.put, List.setIfInBounds_toArray, List.set_cons_zero, List.set_cons_succ]; rfl
  refine dpure 11 (some 17) rfl rfl (by kernel_rfl) (fun _ _ _ h => h) (by rfl) (v := ?_) (a' := ?_) ?_ ?_ ?_
  rotate_left 2
  · intro w'; go_simp; with_reducible rfl
  · simp only [Act.put, List.setIfInBounds_toArray, List.set_cons_zero, List.set_cons_succ]; rfl
  have z3 : w3.cell? ⟨g, 0, none⟩ = some v := (blk_cell HX3 0).trans rfl
  have f3 : w3.frozen? ⟨g, 0, none⟩ = false := blk_frozen HX3 0
  refine dlast 12 (Array.getElem?_eq_getElem (by decide)) (by kernel_rfl) (List.mem_singleton.2 rfl) ?_
  intro K hK
  refine dskip (w1 := w3.setCell ⟨g, 0, none⟩ (.slice A3 (out ++ putL n sz.toNat).length c3)) (by kernel_rfl) (by kernel_rfl) ?_ ?_
  · go_simp
  refine hK.out _ _ (done_ (by kernel_rfl) ?_)
  clear hK K
  go_end0
  exact ⟨rfl, WAt.stored HX3 ho3 HM3 HR.out hg hmb hne hb3, (((KeepT.drew w g mb).trans (KeepT.below hb2 g mb)).trans (KeepT.grown HO2 hg3 g mb)).trans (KeepT.set w3 g mb 0 _)⟩
theorem WAt.more {w0 w : World} {g mb N N' : Nat} {out : List Int} {m : List UInt8 → Option Int} (h : WAt w0 w g mb out m N) (hn : N ≤ N') : WAt w0 w g mb out m N' := by
  obtain ⟨h1, ⟨D, hM, hR⟩, h3, h4, h5, h6⟩ := h
  exact ⟨h1, ⟨D, hM.mono hn, hR⟩, h3, h4, h5, h6⟩
theorem B8_far {w w1 : World} {base mb : Nat} {v : Value} {xs : List Int} (h : B8 w base (fun _ => True) v xs) (hg : w.grownBy w1 (some mb)) (hne : some mb ≠ v.ownBlock) : B8 w1 base (fun _ => True) v xs :=
  Kd.R_of_own (own_other (Kd.own_of_R h) hg (.inr hne.symm)) (fun _ _ => trivial)
theorem wf_len (o : List Int) (h : o.length ≤ 100000000) : (Lit.int .i64 (o.length : Int)).wf = true := by
  simp [Lit.wf, IntKind.min, IntKind.max, IntKind.bits, IntKind.signed]
  omega
theorem or_far (a : Int) (h0 : 0 ≤ a) (h1 : a < 16384) : bits .or .i64 a 49152 = a + 49152 := by
  obtain ⟨n, rfl⟩ := Int.eq_ofNat_of_zero_le h0
  have hk : ∀ n : Int, 0 ≤ n → n < 2 ^ 60 → IntKind.i64.wrap n = n := by
    intro n h0 h1
    rw [IntKind.wrap_i64]
    omega
  have h := (bits_nat .i64 60 (by decide) hk n 49152 (by omega) (by decide)).2
  rw [show ((49152 : Nat) : Int) = 49152 from rfl] at h
  rw [h, Nat.or_comm, show (49152 : Nat) = 2 ^ 14 * 3 from rfl, ← Nat.two_pow_add_eq_or_of_lt (by omega) 3]
  omega
def updS (m : List UInt8 → Option Int) (l : List UInt8) (v : Int) : List UInt8 → Option Int := fun k => if k = l then some v else m k
def nameF : Nat → List Int → (List UInt8 → Option Int) → ByteArray → List Int × (List UInt8 → Option Int)
  | 0, out, m, _ => (out, m)
  | k + 1, out, m, s => if s.size ≤ 1 then (out ++ [0], m) else
    match m s.data.toList with
    | some a => (out ++ putL (a + 49152) 2, m)
    | none => nameF k (out ++ bytesOf (s.extract 0 (nb s 0 + 1))) (if out.length < 16384 then updS m s.data.toList out.length else m) (s.extract (nb s 0 + 1) s.size)
def nameOk : Nat → ByteArray → Prop
  | 0, _ => False
  | k + 1, s => s.size ≤ 1 ∨ (nb s 0 + 1 ≤ s.size ∧ nameOk k (s.extract (nb s 0 + 1) s.size))
theorem nameOk_split (k : Nat) (s : ByteArray) (out : List ByteArray) (h : (splitF k s out).2 = true) : nameOk k s := by
  induction k generalizing s out with
  | zero => exact absurd h (by simp [splitF])
  | succ k ih =>
    unfold splitF at h
    by_cases h1 : s.size = 0
    · exact .inl (by omega)
    · rw [if_neg h1] at h
      by_cases h2 : nb s 0 = 0
      · rw [if_pos h2] at h
        exact .inl (by have : s.size = 1 := by simpa using h
                       omega)
      · rw [if_neg h2] at h
        by_cases h3 : 63 < nb s 0 ∨ s.size ≤ nb s 0
        · rw [if_pos h3] at h
          exact absurd h (by simp)
        · rw [if_neg h3] at h
          exact .inr ⟨by omega, ih _ _ h⟩
theorem rep_updS {D : DataW Unit} {m : List UInt8 → Option Int} (h : RepS D m) (hD : IsMap D) (l : List UInt8) (v : Int) : RepS (D.put (.string l) (.lit (.int .i64 v))) (updS m l v) := by
  have hk : ∀ a : List UInt8, WideAt.IsKeyLit (.string a) := fun a => by first | trivial | (unfold WideAt.IsKeyLit; trivial)
  intro k
  unfold updS
  by_cases e : k = l
  · subst e
    rw [if_pos rfl, Maps.has_put_same hD (hk k)]
    refine ⟨rfl, fun x hx => ?_⟩
    rw [Maps.atKey_put_same hD (hk k), Option.some.inj hx]
  · have hne : (Lit.string k) ≠ (Lit.string l) := fun x => e (by injection x)
    rw [if_neg e, Maps.has_put_other hne]
    refine ⟨(h k).1, fun x hx => ?_⟩
    rw [Maps.atKey_put_other hne]
    exact (h k).2 x hx
theorem keyedS : Keyed Try.prog 9 := string_keyed Try.underlying9
theorem zeroI (w : World) : (zeroValue 3).run Try.prog w = .ok (.int .i64 0) w := by kernel_rfl
set_option maxHeartbeats 4000000 in
set_option maxRecDepth 100000 in
theorem name_calls {w0 w : World} {g mb N : Nat} {out : List Int} {m : List UInt8 → Option Int} (h : WAt w0 w g mb out m N) (hv : ∀ l v, m l = some v → 0 ≤ v ∧ v < 16384) (s : ByteArray) (k : Nat) (hk : k ≤ 300) (hs : nameOk k s) (hsz : s.size ≤ 255) (hl : out.length ≤ 10000000) (hN : N ≤ 1000000) :
    Calls Try.prog 33 #[.pointer (some ⟨g, 0, none⟩), .string s] w fun e w' => e = .returned (.tuple #[]) ∧ WAt w0 w' g mb (nameF k out m s).1 (nameF k out m s).2 (N + k) ∧ KeepT w w' g mb := by
  obtain ⟨R, hR⟩ : ∃ R, nameF k out m s = R := ⟨_, rfl⟩
  rw [hR]
  have HR := Aside0.mk hR
  have HW := Aside0.mk h
  have HV := Aside0.mk hv
  have HK := Aside0.mk hs
  have HL := Aside0.mk (show out.length + s.size ≤ 10000255 by omega)
  have HS := Aside0.mk hsz
  clear hR h hv hs hl hsz
  go_enter Try.func33, Try.ntmps33
  go_wp2
  go_loopg [1] k (fun kq v1 wr => ∃ (x : ByteArray) (o : List Int) (mm : List UInt8 → Option Int), v1 = .string x ∧ Aside0 (nameF kq o mm x = R) ∧ Aside0 (nameOk kq x) ∧ Aside0 (kq ≤ k) ∧ Aside0 (x.size ≤ 255) ∧ Aside0 (o.length + x.size ≤ 10000255) ∧ Aside0 (∀ l v, mm l = some v → 0 ≤ v ∧ v < 16384) ∧ Aside0 (WAt w0 wr g mb o mm (N + (k - kq))) ∧ Aside0 (KeepT w wr g mb))
  case atStart => exact ⟨s, out, m, rfl, HR, HK, ⟨Nat.le_refl _⟩, HS, HL, HV, ⟨by rw [Nat.sub_self]; exact HW.out⟩, ⟨KeepT.refl w g mb⟩⟩
  case round =>
    clear HR HW HV HK HL HS
    obtain ⟨x, o, mm, rfl, HR, HK, HQ, HS, HL, HV, HW, HT⟩ := hrel
    obtain ⟨j, rfl⟩ : ∃ j, gk = j + 1 := ⟨gk - 1, by cases gk with | zero => exact absurd HK.out (by simp [nameOk]) | succ n => simp⟩
    obtain ⟨⟨v, hcell, ho⟩, ⟨D, hmap, hrep⟩, hg, hmb, hne, hb⟩ := HW.out
    obtain ⟨A, c, rfl, _, _⟩ := Kd.R_reads ho
    have HX := Aside0.mk hcell
    have HO := Aside0.mk ho
    have HM := Aside0.mk hmap
    have HP := Aside0.mk hrep
    have HB := Aside0.mk hb
    have z0 : wr.cell? ⟨g, 0, none⟩ = some (.slice A o.length c) := (blk_cell HX.out 0).trans rfl
    have z1 : wr.cell? ⟨g, 1, none⟩ = some (.map (some mb)) := (blk_cell HX.out 1).trans rfl
    have hr := HR.out
    have hok := HK.out
    simp only [nameF, nameOk] at hr hok
    clear hcell ho hmap hrep hb HR HK
    by_cases c1 : x.size ≤ 1
    · rw [if_pos c1] at hr
      subst hr
      have d1 : decide ((1 : Int) < (x.size : Int)) = false := decide_eq_false (by omega)
      have d2 : decide (1 < x.size) = false := decide_eq_false (by omega)
      clear c1 hok
      go_wp2_with ((with_reducible refine gate_builtin (b := .append) (xs := #[.tmp 62, .tmp 63]) rfl ?_); at_builtin; refine app8 (p := 0) rfl (.tmp 62) (.tmp 63) rfl rfl rfl HO.out HB.out (fun _ _ _ => trivial) HB.out.size (by have := HL.out; omega) ?_; intro v3 w3 ho3 hb3 hg3 _; obtain ⟨A3, c3, rfl⟩ := Kd.R_slice ho3; have HX3 := Aside0.mk (blk_grown HX.out hg3 (Kd.R_ne HO.out HX.out (by decide))); have HM3 := Aside0.mk (mapOf_far HM.out (hg3.block mb HM.out.lt (map_ne HM.out HO.out))); have HO3 := Aside0.mk ho3; have HB3 := Aside0.mk hb3; have z3 : w3.cell? ⟨g, 0, none⟩ = some (.slice A o.length c) := (blk_cell HX3.out 0).trans rfl; have f3 : w3.frozen? ⟨g, 0, none⟩ = false := blk_frozen HX3.out 0; have HT3 := Aside0.mk (HT.out.trans (KeepT.grown HO.out hg3 g mb)); clear ho3 hb3 hg3)
      go_end0
      have e := (WAt.stored HX3.out HO3.out HM3.out HP.out hg hmb hne HB3.out).more (N' := N + k) (by omega)
      rw [List.length_append] at e
      exact ⟨rfl, e, HT3.out.trans (KeepT.set w3 g mb 0 _)⟩
    · rw [if_neg c1] at hr
      have HOK := Aside0.mk (show nb x 0 + 1 ≤ x.size ∧ nameOk j (x.extract (nb x 0 + 1) x.size) by rcases hok with h | h; exact absurd h c1; exact h)
      have d1 : decide ((1 : Int) < (x.size : Int)) = true := decide_eq_true (by omega)
      have d2 : decide (1 < x.size) = true := decide_eq_true (by omega)
      have hkey := Go.WideMaps.keyOf_string_mk (P := Try.prog) Try.underlying9 (s := x) (by have := HS.out; unfold maxLen; omega)
      obtain ⟨p1, p2⟩ := HP.out x.data.toList
      cases hm : mm x.data.toList with
      | some a =>
        rw [hm] at hr p1 p2
        obtain ⟨a0, a1⟩ := HV.out _ _ hm
        have hbits := or_far a a0 a1
        have P1 := Lib.hid p1
        have P2 := Lib.hid (p2 a rfl)
        have HR := Lib.hid hr
        clear p1 p2 hr hok hm c1
        go_wp2_with (at_lookup; refine wpList_lookup_own_ok_int _ rfl _ _ 65 rfl 9 3 .i64 keyedS Try.underlying65 Try.underlying3 (zeroI _) mb _ D rfl HM.out _ _ rfl hkey ?_; intro v hat hwv; obtain rfl : v = a := (by have e := P2.out; rw [hat] at e; simpa using e); clear hat hwv; rw [P1.out])
        refine (num_calls HW.out (v + 49152) 2 (by decide) (by decide) (by omega) (by omega) (by have := HL.out; omega)).mono ?_
        rintro e w4 ⟨rfl, hw4, ht4⟩
        have HT4 := Aside0.mk (HT.out.trans ht4)
        have HW4 := Aside0.mk (hw4.more (N' := N + k) (by omega))
        clear hw4 ht4
        go_wp2_with fail
        refine bodyPost_ret (results_none rfl _ _ _) rfl ⟨rfl, ?_, HT4.out⟩
        rw [← HR.out]
        exact HW4.out
      | none =>
        rw [hm] at hr p1
        have P1 := Lib.hid p1
        have HR := Aside0.mk hr
        have hx := nb_at x 0
        have hn := nb_lt x 0
        obtain ⟨n, hnb⟩ : ∃ n, nb x 0 = n := ⟨_, rfl⟩
        rw [hnb] at hx hn HR HOK
        have q1 : 0 < x.size := by omega
        have q2 : (n : Int) ≤ 255 := by omega
        have q3 : (n : Int) + 1 ≤ (x.size : Int) := by have := HOK.out.1; omega
        have q4 : (0 : Int) ≤ (n : Int) + 1 := by omega
        have q5 : (1 : Int) ≤ (n : Int) + 1 := by omega
        clear p1 p2 hr hok hm c1 hnb hn
        by_cases c3 : o.length < 16384
        · have d3 : decide ((o.length : Int) < 16384) = true := decide_eq_true (by omega)
          have d3' : decide (o.length < 16384) = true := decide_eq_true c3
          have HR2 := Aside0.mk (by have := HR.out; rw [if_pos c3] at this; exact this)
          clear HR c3
          go_wp2_with (at_lookup; refine wpList_lookup_own_ok_int _ rfl _ _ 65 rfl 9 3 .i64 keyedS Try.underlying65 Try.underlying3 (zeroI _) mb _ D rfl HM.out _ _ rfl hkey ?_; intro v hat hwv; clear hat hwv; rw [P1.out])
          go_still_tail 10, (by kernel_rfl)
          change wpList _ _ _ _ _ wr.drew
          have hM2 := HM.out.drew
          go_wp2_with (at_mapUpdate; refine wpList_mapUpdate_in _ rfl _ _ _ 65 rfl 9 3 keyedS Try.underlying65 _ mb _ D rfl hM2 (by unfold maxLen; omega) _ _ _ rfl rfl hkey _ [] (plainElem_int Try.underlying3 (wf_len o (by have := HL.out; omega))) ?_; intro w1 hown1 hturn1)
          have hg1 : wr.grownBy w1 (some mb) := (show wr.grownBy wr.drew (some mb) from ⟨rfl, rfl, rfl, Nat.le_refl _, fun _ _ _ => rfl⟩).trans (World.mapTurned.grown hturn1)
          have HW1 := Aside0.mk (show WAt w0 w1 g mb o (updS mm x.data.toList o.length) (N + (k - (j + 1)) + 1) from ⟨⟨_, (hg1.block g (blk_lt HX.out) (fun e => hne (Option.some.inj e).symm)).trans HX.out, B8_far HO.out hg1 (map_ne HM.out HO.out)⟩, ⟨_, hown1, rep_updS HP.out HM.out.isMap _ _⟩, hg, hmb, hne, HB.out.grown hg1 HB.out.size (fun k hk => by rw [← Option.some.inj hk]; exact hmb)⟩)
          have HV1 := Aside0.mk (show ∀ l v, updS mm x.data.toList o.length l = some v → 0 ≤ v ∧ v < 16384 by
            intro l v hl
            unfold updS at hl
            by_cases e : l = x.data.toList
            · rw [if_pos e] at hl
              have := Option.some.inj hl
              have := of_decide_eq_true d3'
              omega
            · rw [if_neg e] at hl
              exact HV.out l v hl)
          have HT1 := Aside0.mk (HT.out.trans (KeepT.map hg1 g))
          clear hM2 hown1 hturn1 hg1 z0 z1 HX HO HM HP HB
          obtain ⟨⟨v, hcell, ho⟩, ⟨D, hmap, hrep⟩, hg, hmb, hne, hb⟩ := HW1.out
          obtain ⟨A, c, rfl, _, _⟩ := Kd.R_reads ho
          have z0 : w1.cell? ⟨g, 0, none⟩ = some (.slice A o.length c) := (blk_cell hcell 0).trans rfl
          refine start_ (n := 12) (S := fun w' => w'.cell? ⟨g, 0, none⟩ = some (.slice A o.length c)) (ds := [11]) (Array.replicate 12 false) (by kernel_rfl) (by kernel_rfl) rfl (by exact z0) (fun hS => ?_)
          refine dpure 0 (some 44) rfl rfl (by kernel_rfl) (fun _ _ _ h => h) (by rfl) (v := ?_) (a' := ?_) ?_ ?_ ?_
          rotate_left 2
          · intro w'; go_simp; with_reducible rfl
          · simp only [Act.put, List.setIfInBounds_toArray, List.set_cons_zero, List.set_cons_succ]; rfl
          refine dpure 1 (some 45) rfl rfl (by kernel_rfl) (fun _ _ _ h => h) (by rfl) (v := ?_) (a' := ?_) ?_ ?_ ?_
          rotate_left 2
          · intro w'; go_simp; with_reducible rfl
          · simp only [Act.put, List.setIfInBounds_toArray, List.set_cons_zero, List.set_cons_succ]; rfl
          refine dpure 2 (some 46) rfl rfl (by kernel_rfl) (fun _ _ _ h => h) (by rfl) (v := ?_) (a' := ?_) ?_ ?_ ?_
          rotate_left 2
          · intro w'; go_simp; with_reducible rfl
          · simp only [Act.put, List.setIfInBounds_toArray, List.set_cons_zero, List.set_cons_succ]; rfl
          refine dpure 3 (some 47) rfl rfl (by kernel_rfl) (fun _ _ _ h => h) (by rfl) (v := ?_) (a' := ?_) ?_ ?_ ?_
          rotate_left 2
          · intro w'; go_simp; with_reducible rfl
          · simp only [Act.put, List.setIfInBounds_toArray, List.set_cons_zero, List.set_cons_succ]; rfl
          refine dtake 4 (some 48) rfl rfl (by kernel_rfl) (fun _ _ _ h => h) (by rfl) hS (v := ?_) (a' := ?_) ?_ ?_ ?_
          rotate_left 2
          · rintro w' s0; go_simp; with_reducible rfl
          · simp only [Act.put, List.setIfInBounds_toArray, List.set_cons_zero, List.set_cons_succ]; rfl
          refine dpure 5 (some 49) rfl rfl (by kernel_rfl) (fun _ _ _ h => h) (by rfl) (v := ?_) (a' := ?_) ?_ ?_ ?_
          rotate_left 2
          · intro w'; go_simp; with_reducible rfl
          · simp only [Act.put, List.setIfInBounds_toArray, List.set_cons_zero, List.set_cons_succ]; rfl
          refine dpure 6 (some 50) rfl rfl (by kernel_rfl) (fun _ _ _ h => h) (by rfl) (v := ?_) (a' := ?_) ?_ ?_ ?_
          rotate_left 2
          · intro w'; go_simp; with_reducible rfl
          · simp only [Act.put, List.setIfInBounds_toArray, List.set_cons_zero, List.set_cons_succ]; rfl
          refine dpure 7 (some 51) rfl rfl (by kernel_rfl) (fun _ _ _ h => h) (by rfl) (v := ?_) (a' := ?_) ?_ ?_ ?_
          rotate_left 2
          · intro w'; go_simp; with_reducible rfl
          · simp only [Act.put, List.setIfInBounds_toArray, List.set_cons_zero, List.set_cons_succ]; rfl
          refine done1 8 (some 52) rfl rfl (by kernel_rfl) (by decide) (fun K hK => ?_)
          refine app8s_step (w0 := w0) (base := w0.heap.size) (some 52) rfl (by rfl) (.tmp 48) (.tmp 51) (by kernel_rfl) (by kernel_rfl) (by kernel_rfl) (y := x.extract 0 (n + 1)) (Kd.R_drew ho) hb.drew hb.drew.size (by have := HL.out; rw [ByteArray.size_extract]; omega) ?_
          intro v3 w3 ho3 hb3 hg3
          obtain ⟨A3, c3, rfl⟩ := Kd.R_slice ho3
          have HX3 := blk_grown (blk_drew hcell) hg3 (Kd.R_ne (Kd.R_drew ho) (blk_drew hcell) (by decide))
          have HM3 := mapOf_far hmap (hg3.block mb hmap.lt (map_ne hmap ho))
          have z3 : w3.cell? ⟨g, 0, none⟩ = some (.slice A o.length c) := (blk_cell HX3 0).trans rfl
          have f3 : w3.frozen? ⟨g, 0, none⟩ = false := blk_frozen HX3 0
          refine hK.out _ _ z3 (fun hS => ?_)
          clear hK K
          refine norm_ (a' := ?_) ?_ ?_
          rotate_left
          · simp only [Act.put, List.setIfInBounds_toArray, List.set_cons_zero, List.set_cons_succ]; rfl
          refine dpure 9 (some 53) rfl rfl (by kernel_rfl) (fun _ _ _ h => h) (by rfl) (v := ?_) (a' := ?_) ?_ ?_ ?_
          rotate_left 2
          · intro w'; go_simp; with_reducible rfl
          · simp only [Act.put, List.setIfInBounds_toArray, List.set_cons_zero, List.set_cons_succ]; rfl
          refine dpure 10 (some 54) rfl rfl (by kernel_rfl) (fun _ _ _ h => h) (by rfl) (v := ?_) (a' := ?_) ?_ ?_ ?_
          rotate_left 2
          · intro w'; go_simp; with_reducible rfl
          · simp only [Act.put, List.setIfInBounds_toArray, List.set_cons_zero, List.set_cons_succ]; rfl
          refine dlast 11 (Array.getElem?_eq_getElem (by decide)) (by kernel_rfl) (List.mem_singleton.2 rfl) ?_
          intro K hK
          refine dskip (w1 := w3.setCell ⟨g, 0, none⟩ (.slice A3 (o ++ bytesOf (x.extract 0 (n + 1))).length c3)) (by kernel_rfl) (by kernel_rfl) ?_ ?_
          · go_simp
          refine hK.out _ _ (done_ (by kernel_rfl) ?_)
          clear hK K
          have e4 := (WAt.stored HX3 ho3 HM3 hrep hg hmb hne hb3).more (N' := N + (k - j)) (by have := HQ.out; omega)
          rw [List.length_append] at e4
          have HW4 := Aside0.mk e4
          have et := ((HT1.out.trans (KeepT.drew _ g mb)).trans (KeepT.grown (Kd.R_drew ho) hg3 g mb)).trans (KeepT.set w3 g mb 0 (.slice A3 (o ++ bytesOf (x.extract 0 (n + 1))).length c3))
          rw [List.length_append] at et
          have HT4 := Aside0.mk et
          clear et
          clear e4 z0 z3 f3 HX3 ho3 HM3 hb3 hg3 hS hcell ho hmap hrep hb
          go_wp2_with fail
          go_roundg j
          case measure => omega
          case rel => exact ⟨_, _, _, rfl, HR2, ⟨HOK.out.2⟩, ⟨by have := HQ.out; omega⟩, ⟨by have := HS.out; rw [ByteArray.size_extract]; omega⟩, ⟨by have := HL.out; rw [List.length_append, bytesOf_length, ByteArray.size_extract, ByteArray.size_extract]; omega⟩, HV1, HW4, HT4⟩
        · have d3 : decide ((o.length : Int) < 16384) = false := decide_eq_false (by omega)
          have d3' : decide (o.length < 16384) = false := decide_eq_false c3
          have HR2 := Aside0.mk (by have := HR.out; rw [if_neg c3] at this; exact this)
          clear HR c3
          go_wp2_with (at_lookup; refine wpList_lookup_own_ok_int _ rfl _ _ 65 rfl 9 3 .i64 keyedS Try.underlying65 Try.underlying3 (zeroI _) mb _ D rfl HM.out _ _ rfl hkey ?_; intro v hat hwv; clear hat hwv; rw [P1.out])
          have HW1 := Aside0.mk (HW.out.more (Nat.le_succ _))
          have HV1 := HV
          have HT1 := HT
          clear z0 z1 HX HO HM HP HB
          obtain ⟨⟨v, hcell, ho⟩, ⟨D, hmap, hrep⟩, hg, hmb, hne, hb⟩ := HW1.out
          obtain ⟨A, c, rfl, _, _⟩ := Kd.R_reads ho
          have z0 : wr.cell? ⟨g, 0, none⟩ = some (.slice A o.length c) := (blk_cell hcell 0).trans rfl
          refine start_ (n := 12) (S := fun w' => w'.cell? ⟨g, 0, none⟩ = some (.slice A o.length c)) (ds := [11]) (Array.replicate 12 false) (by kernel_rfl) (by kernel_rfl) rfl (by exact z0) (fun hS => ?_)
          refine dpure 0 (some 44) rfl rfl (by kernel_rfl) (fun _ _ _ h => h) (by rfl) (v := ?_) (a' := ?_) ?_ ?_ ?_
          rotate_left 2
          · intro w'; go_simp; with_reducible rfl
          · simp only [Act.put, List.setIfInBounds_toArray, List.set_cons_zero, List.set_cons_succ]; rfl
          refine dpure 1 (some 45) rfl rfl (by kernel_rfl) (fun _ _ _ h => h) (by rfl) (v := ?_) (a' := ?_) ?_ ?_ ?_
          rotate_left 2
          · intro w'; go_simp; with_reducible rfl
          · simp only [Act.put, List.setIfInBounds_toArray, List.set_cons_zero, List.set_cons_succ]; rfl
          refine dpure 2 (some 46) rfl rfl (by kernel_rfl) (fun _ _ _ h => h) (by rfl) (v := ?_) (a' := ?_) ?_ ?_ ?_
          rotate_left 2
          · intro w'; go_simp; with_reducible rfl
          · simp only [Act.put, List.setIfInBounds_toArray, List.set_cons_zero, List.set_cons_succ]; rfl
          refine dpure 3 (some 47) rfl rfl (by kernel_rfl) (fun _ _ _ h => h) (by rfl) (v := ?_) (a' := ?_) ?_ ?_ ?_
          rotate_left 2
          · intro w'; go_simp; with_reducible rfl
          · simp only [Act.put, List.setIfInBounds_toArray, List.set_cons_zero, List.set_cons_succ]; rfl
          refine dtake 4 (some 48) rfl rfl (by kernel_rfl) (fun _ _ _ h => h) (by rfl) hS (v := ?_) (a' := ?_) ?_ ?_ ?_
          rotate_left 2
          · rintro w' s0; go_simp; with_reducible rfl
          · simp only [Act.put, List.setIfInBounds_toArray, List.set_cons_zero, List.set_cons_succ]; rfl
          refine dpure 5 (some 49) rfl rfl (by kernel_rfl) (fun _ _ _ h => h) (by rfl) (v := ?_) (a' := ?_) ?_ ?_ ?_
          rotate_left 2
          · intro w'; go_simp; with_reducible rfl
          · simp only [Act.put, List.setIfInBounds_toArray, List.set_cons_zero, List.set_cons_succ]; rfl
          refine dpure 6 (some 50) rfl rfl (by kernel_rfl) (fun _ _ _ h => h) (by rfl) (v := ?_) (a' := ?_) ?_ ?_ ?_
          rotate_left 2
          · intro w'; go_simp; with_reducible rfl
          · simp only [Act.put, List.setIfInBounds_toArray, List.set_cons_zero, List.set_cons_succ]; rfl
          refine dpure 7 (some 51) rfl rfl (by kernel_rfl) (fun _ _ _ h => h) (by rfl) (v := ?_) (a' := ?_) ?_ ?_ ?_
          rotate_left 2
          · intro w'; go_simp; with_reducible rfl
          · simp only [Act.put, List.setIfInBounds_toArray, List.set_cons_zero, List.set_cons_succ]; rfl
          refine done1 8 (some 52) rfl rfl (by kernel_rfl) (by decide) (fun K hK => ?_)
          refine app8s_step (w0 := w0) (base := w0.heap.size) (some 52) rfl (by rfl) (.tmp 48) (.tmp 51) (by kernel_rfl) (by kernel_rfl) (by kernel_rfl) (y := x.extract 0 (n + 1)) (Kd.R_drew ho) hb.drew hb.drew.size (by have := HL.out; rw [ByteArray.size_extract]; omega) ?_
          intro v3 w3 ho3 hb3 hg3
          obtain ⟨A3, c3, rfl⟩ := Kd.R_slice ho3
          have HX3 := blk_grown (blk_drew hcell) hg3 (Kd.R_ne (Kd.R_drew ho) (blk_drew hcell) (by decide))
          have HM3 := mapOf_far hmap (hg3.block mb hmap.lt (map_ne hmap ho))
          have z3 : w3.cell? ⟨g, 0, none⟩ = some (.slice A o.length c) := (blk_cell HX3 0).trans rfl
          have f3 : w3.frozen? ⟨g, 0, none⟩ = false := blk_frozen HX3 0
          refine hK.out _ _ z3 (fun hS => ?_)
          clear hK K
          refine norm_ (a' := ?_) ?_ ?_
          rotate_left
          · simp only [Act.put, List.setIfInBounds_toArray, List.set_cons_zero, List.set_cons_succ]; rfl
          refine dpure 9 (some 53) rfl rfl (by kernel_rfl) (fun _ _ _ h => h) (by rfl) (v := ?_) (a' := ?_) ?_ ?_ ?_
          rotate_left 2
          · intro w'; go_simp; with_reducible rfl
          · simp only [Act.put, List.setIfInBounds_toArray, List.set_cons_zero, List.set_cons_succ]; rfl
          refine dpure 10 (some 54) rfl rfl (by kernel_rfl) (fun _ _ _ h => h) (by rfl) (v := ?_) (a' := ?_) ?_ ?_ ?_
          rotate_left 2
          · intro w'; go_simp; with_reducible rfl
          · simp only [Act.put, List.setIfInBounds_toArray, List.set_cons_zero, List.set_cons_succ]; rfl
          refine dlast 11 (Array.getElem?_eq_getElem (by decide)) (by kernel_rfl) (List.mem_singleton.2 rfl) ?_
          intro K hK
          refine dskip (w1 := w3.setCell ⟨g, 0, none⟩ (.slice A3 (o ++ bytesOf (x.extract 0 (n + 1))).length c3)) (by kernel_rfl) (by kernel_rfl) ?_ ?_
          · go_simp
          refine hK.out _ _ (done_ (by kernel_rfl) ?_)
          clear hK K
          have e4 := (WAt.stored HX3 ho3 HM3 hrep hg hmb hne hb3).more (N' := N + (k - j)) (by have := HQ.out; omega)
          rw [List.length_append] at e4
          have HW4 := Aside0.mk e4
          have et := ((HT1.out.trans (KeepT.drew _ g mb)).trans (KeepT.grown (Kd.R_drew ho) hg3 g mb)).trans (KeepT.set w3 g mb 0 (.slice A3 (o ++ bytesOf (x.extract 0 (n + 1))).length c3))
          rw [List.length_append] at et
          have HT4 := Aside0.mk et
          clear et
          clear e4 z0 z3 f3 HX3 ho3 HM3 hb3 hg3 hS hcell ho hmap hrep hb
          go_wp2_with fail
          go_roundg j
          case measure => omega
          case rel => exact ⟨_, _, _, rfl, HR2, ⟨HOK.out.2⟩, ⟨by have := HQ.out; omega⟩, ⟨by have := HS.out; rw [ByteArray.size_extract]; omega⟩, ⟨by have := HL.out; rw [List.length_append, bytesOf_length, ByteArray.size_extract, ByteArray.size_extract]; omega⟩, HV1, HW4, HT4⟩
end Go.Proofs.Ytbbeikdbioelgaa.M
