/- The base of our walks: the values' own types, what their cells say. -/
import Derived.Test.YtbbeikdbioelgaaMTBase
set_option linter.unusedVariables false
set_option linter.unusedSimpArgs false
namespace Go.Proofs.Ytbbeikdbioelgaa.M
open Go.RowKit Go.Proofs.YtbbeikdbioelgaaW.PrintWords Go.Proofs.YtbbeikdbioelgaaW.PrintLast Go.Proofs.YtbbeikdbioelgaaW.PrintMore
theorem infoS : (Try.prog.info? 9).map (fun i => (i.zero, i.size, i.bytes)) = some (some (.string ⟨#[]⟩), 1, 16) := by kernel_rfl
theorem info32 : (Try.prog.info? 41).map (fun i => (i.zero, i.size, i.bytes)) = some (some (.int .u32 0), 1, 4) := by kernel_rfl
theorem infoRec : (Try.prog.info? 44).map (fun i => (i.zero, i.size, i.bytes)) = some (some (.agg #[(.string ⟨#[]⟩), (.int .u16 0), (.int .u16 0), (.int .u32 0), (.slice none 0 0), (.slice none 0 0), (.slice none 0 0)]), 7, 96) := by kernel_rfl
theorem infoQues : (Try.prog.info? 39).map (fun i => (i.zero, i.size, i.bytes)) = some (some (.agg #[(.string ⟨#[]⟩), (.int .u16 0), (.int .u16 0)]), 3, 24) := by kernel_rfl
section
variable {ops : Array Oper} {rest : List Oper} {o : Oper} {a : Act} {Q : Exit → Act → World → Prop}
/-- append(v, p), p one element. -/
theorem app32 {w0 W : World} {base : Nat} (hgd : o.guard = none) (s x : Operand) (ho : o.op = .call { callee := .builtin .append, args := #[s, x], argTypes := #[42, 42] })
    {v : Value} {xs : List (Int)} {p : Int} {ok : Nat → Prop} (hs : a.eval s = v) (hx : a.eval x = .slice (some ⟨W.heap.size, 0, none⟩) 1 1)
    (HO : Kd.R (Kd.int .u32) 41 W base ok v xs) (HB : Below base w0 W) (hfresh : ∀ k, base ≤ k → W.heap.size ≤ k → ok k) (hbase : base ≤ W.heap.size) (hl : (xs.length + 1) * 4 ≤ 140737488355328)
    (h : ∀ v1 w1, Kd.R (Kd.int .u32) 41 w1 base ok v1 (xs ++ [p]) → Below base w0 w1 → W.grownBy w1 v.ownBlock → (v1.ownBlock = v.ownBlock ∨ ∃ b, v1.ownBlock = some b ∧ W.heap.size ≤ b) → wpList Try.prog ops Q rest (a.put o.dst v1) w1) :
    wpList Try.prog ops Q (o :: rest) a (W.alloc (.cells #[.int .u32 p] 41)) :=
  Kd.R_append (Kd.int .u32) (w0 := w0) base hgd s x 42 41 (.int .u32 0) 4 ho Try.underlying42 info32 rfl (by decide) (by omega) v xs p [.int .u32 p] ok (fun _ => False) hs hx rfl (fun _ hk => hk.elim) (fun k hk => hfresh k (Nat.le_trans hbase hk) hk) HO HB hbase hl h
end
section
variable {ops : Array Oper} {rest : List Oper} {o : Oper} {a : Act} {Q : Exit → Act → World → Prop}
/-- append(v, p), p one element. -/
theorem appS {w0 W : World} {base : Nat} (hgd : o.guard = none) (s x : Operand) (ho : o.op = .call { callee := .builtin .append, args := #[s, x], argTypes := #[40, 40] })
    {v : Value} {xs : List (ByteArray)} {p : ByteArray} {ok : Nat → Prop} (hs : a.eval s = v) (hx : a.eval x = .slice (some ⟨W.heap.size, 0, none⟩) 1 1)
    (HO : Kd.R Kd.string 9 W base ok v xs) (HB : Below base w0 W) (hfresh : ∀ k, base ≤ k → W.heap.size ≤ k → ok k) (hbase : base ≤ W.heap.size) (hl : (xs.length + 1) * 16 ≤ 140737488355328)
    (h : ∀ v1 w1, Kd.R Kd.string 9 w1 base ok v1 (xs ++ [p]) → Below base w0 w1 → W.grownBy w1 v.ownBlock → (v1.ownBlock = v.ownBlock ∨ ∃ b, v1.ownBlock = some b ∧ W.heap.size ≤ b) → wpList Try.prog ops Q rest (a.put o.dst v1) w1) :
    wpList Try.prog ops Q (o :: rest) a (W.alloc (.cells #[.string p] 9)) :=
  Kd.R_append Kd.string (w0 := w0) base hgd s x 40 9 (.string ⟨#[]⟩) 16 ho Try.underlying40 infoS rfl (by decide) (by omega) v xs p [.string p] ok (fun _ => False) hs hx rfl (fun _ hk => hk.elim) (fun k hk => hfresh k (Nat.le_trans hbase hk) hk) HO HB hbase hl h
end
/-! #### api.Record -/
structure Rec where
  f0 : ByteArray
  f1 : Int
  f2 : Int
  f3 : Int
  f4 : (List ByteArray)
  f5 : (List Int)
  f6 : (List ByteArray)
def zRec : Rec := ⟨(⟨#[]⟩ : ByteArray), (0 : Int), (0 : Int), (0 : Int), ([] : List ByteArray), ([] : List Int), ([] : List ByteArray)⟩
def kRec : Kd Rec := Kd.iso (Kd.pair Kd.string (Kd.pair (Kd.int .u16) (Kd.pair (Kd.int .u16) (Kd.pair (Kd.int .u32) (Kd.pair (Kd.slice 9 Kd.string) (Kd.pair (Kd.slice 41 (Kd.int .u32)) (Kd.slice 9 Kd.string))))))) (fun x : Rec => (x.f0, x.f1, x.f2, x.f3, x.f4, x.f5, x.f6))
theorem kRec_open {w : World} {x : Rec} {cs : List Value} (h : kRec.K w x cs) : ∃ A4 c4 A5 c5 A6 c6, cs = [.string x.f0, .int .u16 x.f1, .int .u16 x.f2, .int .u32 x.f3, .slice A4 x.f4.length c4, .slice A5 x.f5.length c5, .slice A6 x.f6.length c6] ∧ x.f4.length ≤ c4 ∧ Kd.string.C w A4 x.f4.length x.f4 ∧ x.f5.length ≤ c5 ∧ (Kd.int .u32).C w A5 x.f5.length x.f5 ∧ x.f6.length ≤ c6 ∧ Kd.string.C w A6 x.f6.length x.f6 := by
  obtain ⟨_, _, rfl, rfl, ⟨_, _, rfl, rfl, ⟨_, _, rfl, rfl, ⟨_, _, rfl, rfl, ⟨_, _, rfl, ⟨A4, c4, rfl, l4, g4⟩, ⟨_, _, rfl, ⟨A5, c5, rfl, l5, g5⟩, ⟨A6, c6, rfl, l6, g6⟩⟩⟩⟩⟩⟩⟩ := h
  exact ⟨A4, c4, A5, c5, A6, c6, rfl, l4, g4, l5, g5, l6, g6⟩
theorem kRec_openM {w : World} {base : Nat} {ok : Nat → Prop} {x : Rec} {cs : List Value} (h : kRec.M w base ok x cs) : ∃ v4 v5 v6, cs = [.string x.f0, .int .u16 x.f1, .int .u16 x.f2, .int .u32 x.f3, v4, v5, v6] ∧ Kd.string.R 9 w base ok v4 x.f4 ∧ (Kd.int .u32).R 41 w base ok v5 x.f5 ∧ Kd.string.R 9 w base ok v6 x.f6 := by
  obtain ⟨_, _, rfl, rfl, ⟨_, _, rfl, rfl, ⟨_, _, rfl, rfl, ⟨_, _, rfl, rfl, ⟨_, _, rfl, ⟨v4, rfl, g4⟩, ⟨_, _, rfl, ⟨v5, rfl, g5⟩, ⟨v6, rfl, g6⟩⟩⟩⟩⟩⟩⟩ := h
  exact ⟨v4, v5, v6, rfl, g4, g5, g6⟩
theorem kRec_mk (w : World) (x : Rec) {A4 : Option Addr} {c4 : Nat} (l4 : x.f4.length ≤ c4) (g4 : Kd.string.C w A4 x.f4.length x.f4) {A5 : Option Addr} {c5 : Nat} (l5 : x.f5.length ≤ c5) (g5 : (Kd.int .u32).C w A5 x.f5.length x.f5) {A6 : Option Addr} {c6 : Nat} (l6 : x.f6.length ≤ c6) (g6 : Kd.string.C w A6 x.f6.length x.f6) : kRec.K w x [.string x.f0, .int .u16 x.f1, .int .u16 x.f2, .int .u32 x.f3, .slice A4 x.f4.length c4, .slice A5 x.f5.length c5, .slice A6 x.f6.length c6] := ⟨[.string x.f0], [.int .u16 x.f1, .int .u16 x.f2, .int .u32 x.f3, .slice A4 x.f4.length c4, .slice A5 x.f5.length c5, .slice A6 x.f6.length c6], rfl, rfl, ⟨[.int .u16 x.f1], [.int .u16 x.f2, .int .u32 x.f3, .slice A4 x.f4.length c4, .slice A5 x.f5.length c5, .slice A6 x.f6.length c6], rfl, rfl, ⟨[.int .u16 x.f2], [.int .u32 x.f3, .slice A4 x.f4.length c4, .slice A5 x.f5.length c5, .slice A6 x.f6.length c6], rfl, rfl, ⟨[.int .u32 x.f3], [.slice A4 x.f4.length c4, .slice A5 x.f5.length c5, .slice A6 x.f6.length c6], rfl, rfl, ⟨[.slice A4 x.f4.length c4], [.slice A5 x.f5.length c5, .slice A6 x.f6.length c6], rfl, ⟨A4, c4, rfl, l4, g4⟩, ⟨[.slice A5 x.f5.length c5], [.slice A6 x.f6.length c6], rfl, ⟨A5, c5, rfl, l5, g5⟩, ⟨A6, c6, rfl, l6, g6⟩⟩⟩⟩⟩⟩⟩
theorem kRec_mkM (w : World) (base : Nat) (ok : Nat → Prop) (x : Rec) {v4 : Value} (g4 : Kd.string.R 9 w base ok v4 x.f4) {v5 : Value} (g5 : (Kd.int .u32).R 41 w base ok v5 x.f5) {v6 : Value} (g6 : Kd.string.R 9 w base ok v6 x.f6) : kRec.M w base ok x [.string x.f0, .int .u16 x.f1, .int .u16 x.f2, .int .u32 x.f3, v4, v5, v6] := ⟨[.string x.f0], [.int .u16 x.f1, .int .u16 x.f2, .int .u32 x.f3, v4, v5, v6], rfl, rfl, ⟨[.int .u16 x.f1], [.int .u16 x.f2, .int .u32 x.f3, v4, v5, v6], rfl, rfl, ⟨[.int .u16 x.f2], [.int .u32 x.f3, v4, v5, v6], rfl, rfl, ⟨[.int .u32 x.f3], [v4, v5, v6], rfl, rfl, ⟨[v4], [v5, v6], rfl, ⟨v4, rfl, g4⟩, ⟨[v5], [v6], rfl, ⟨v5, rfl, g5⟩, ⟨v6, rfl, g6⟩⟩⟩⟩⟩⟩⟩
def rd_TRec (xs : List Rec) (i : Int) : Rec := xs.getD i.toNat zRec
theorem at_TRec {w : World} {A : Option Addr} {n : Nat} {xs : List Rec} (h : Kd.C kRec w A n xs) (i : Int) (h0 : 0 ≤ i) (h1 : i < n) : ∃ ad A4 c4 A5 c5 A6 c6, A = some ad ∧ w.cell? (ad.add (i.toNat * 7)) = some (.string (rd_TRec xs i).f0) ∧ w.cell? ⟨(ad.add (i.toNat * 7)).block, (ad.add (i.toNat * 7)).off + 1, none⟩ = some (.int .u16 (rd_TRec xs i).f1) ∧ w.cell? ⟨(ad.add (i.toNat * 7)).block, (ad.add (i.toNat * 7)).off + 2, none⟩ = some (.int .u16 (rd_TRec xs i).f2) ∧ w.cell? ⟨(ad.add (i.toNat * 7)).block, (ad.add (i.toNat * 7)).off + 3, none⟩ = some (.int .u32 (rd_TRec xs i).f3) ∧ w.cell? ⟨(ad.add (i.toNat * 7)).block, (ad.add (i.toNat * 7)).off + 4, none⟩ = some (.slice A4 (rd_TRec xs i).f4.length c4) ∧ w.cell? ⟨(ad.add (i.toNat * 7)).block, (ad.add (i.toNat * 7)).off + 5, none⟩ = some (.slice A5 (rd_TRec xs i).f5.length c5) ∧ w.cell? ⟨(ad.add (i.toNat * 7)).block, (ad.add (i.toNat * 7)).off + 6, none⟩ = some (.slice A6 (rd_TRec xs i).f6.length c6) ∧ (rd_TRec xs i).f4.length ≤ c4 ∧ Kd.string.C w A4 (rd_TRec xs i).f4.length (rd_TRec xs i).f4 ∧ (rd_TRec xs i).f5.length ≤ c5 ∧ (Kd.int .u32).C w A5 (rd_TRec xs i).f5.length (rd_TRec xs i).f5 ∧ (rd_TRec xs i).f6.length ≤ c6 ∧ Kd.string.C w A6 (rd_TRec xs i).f6.length (rd_TRec xs i).f6 := by
  obtain ⟨ad, c, e, _, hK, hc0⟩ := Kd.C_get h zRec i h0 h1
  have hc : ∀ j u, c[j]? = some u → w.cell? (ad.add (i.toNat * 7 + j)) = some u := hc0
  obtain ⟨A4, c4, A5, c5, A6, c6, rfl, l4, g4, l5, g5, l6, g6⟩ := kRec_open hK
  exact ⟨ad, A4, c4, A5, c5, A6, c6, e, hc 0 _ rfl, by rw [← add_field _ _ 1 (by omega)]; exact hc 1 _ rfl, by rw [← add_field _ _ 2 (by omega)]; exact hc 2 _ rfl, by rw [← add_field _ _ 3 (by omega)]; exact hc 3 _ rfl, by rw [← add_field _ _ 4 (by omega)]; exact hc 4 _ rfl, by rw [← add_field _ _ 5 (by omega)]; exact hc 5 _ rfl, by rw [← add_field _ _ 6 (by omega)]; exact hc 6 _ rfl, l4, g4, l5, g5, l6, g6⟩

/-! #### api.Question -/
structure Ques where
  f0 : ByteArray
  f1 : Int
  f2 : Int
def zQues : Ques := ⟨(⟨#[]⟩ : ByteArray), (0 : Int), (0 : Int)⟩
def kQues : Kd Ques := Kd.iso (Kd.pair Kd.string (Kd.pair (Kd.int .u16) (Kd.int .u16))) (fun x : Ques => (x.f0, x.f1, x.f2))
theorem kQues_open {w : World} {x : Ques} {cs : List Value} (h : kQues.K w x cs) : cs = [.string x.f0, .int .u16 x.f1, .int .u16 x.f2] := by
  obtain ⟨_, _, rfl, rfl, ⟨_, _, rfl, rfl, rfl⟩⟩ := h
  exact rfl
theorem kQues_openM {w : World} {base : Nat} {ok : Nat → Prop} {x : Ques} {cs : List Value} (h : kQues.M w base ok x cs) : cs = [.string x.f0, .int .u16 x.f1, .int .u16 x.f2] := by
  obtain ⟨_, _, rfl, rfl, ⟨_, _, rfl, rfl, rfl⟩⟩ := h
  exact rfl
theorem kQues_mk (w : World) (x : Ques)  : kQues.K w x [.string x.f0, .int .u16 x.f1, .int .u16 x.f2] := ⟨[.string x.f0], [.int .u16 x.f1, .int .u16 x.f2], rfl, rfl, ⟨[.int .u16 x.f1], [.int .u16 x.f2], rfl, rfl, rfl⟩⟩
theorem kQues_mkM (w : World) (base : Nat) (ok : Nat → Prop) (x : Ques)  : kQues.M w base ok x [.string x.f0, .int .u16 x.f1, .int .u16 x.f2] := ⟨[.string x.f0], [.int .u16 x.f1, .int .u16 x.f2], rfl, rfl, ⟨[.int .u16 x.f1], [.int .u16 x.f2], rfl, rfl, rfl⟩⟩
def rd_TQues (xs : List Ques) (i : Int) : Ques := xs.getD i.toNat zQues
theorem at_TQues {w : World} {A : Option Addr} {n : Nat} {xs : List Ques} (h : Kd.C kQues w A n xs) (i : Int) (h0 : 0 ≤ i) (h1 : i < n) : ∃ ad , A = some ad ∧ w.cell? (ad.add (i.toNat * 3)) = some (.string (rd_TQues xs i).f0) ∧ w.cell? ⟨(ad.add (i.toNat * 3)).block, (ad.add (i.toNat * 3)).off + 1, none⟩ = some (.int .u16 (rd_TQues xs i).f1) ∧ w.cell? ⟨(ad.add (i.toNat * 3)).block, (ad.add (i.toNat * 3)).off + 2, none⟩ = some (.int .u16 (rd_TQues xs i).f2) := by
  obtain ⟨ad, c, e, _, hK, hc0⟩ := Kd.C_get h zQues i h0 h1
  have hc : ∀ j u, c[j]? = some u → w.cell? (ad.add (i.toNat * 3 + j)) = some u := hc0
  obtain rfl := kQues_open hK
  exact ⟨ad, e, hc 0 _ rfl, by rw [← add_field _ _ 1 (by omega)]; exact hc 1 _ rfl, by rw [← add_field _ _ 2 (by omega)]; exact hc 2 _ rfl⟩


structure Msg where
  id : Int
  flags : Int
  qs : List Ques
  ans : List Rec
  auth : List Rec
  add : List Rec
/-- A record by value. -/
def RecAt (w : World) (v : Value) (x : Rec) : Prop := ∃ A4 c4 A5 c5 A6 c6, v = .agg #[.string x.f0, .int .u16 x.f1, .int .u16 x.f2, .int .u32 x.f3, .slice A4 x.f4.length c4, .slice A5 x.f5.length c5, .slice A6 x.f6.length c6] ∧ x.f4.length ≤ c4 ∧ Kd.string.C w A4 x.f4.length x.f4 ∧ x.f5.length ≤ c5 ∧ (Kd.int .u32).C w A5 x.f5.length x.f5 ∧ x.f6.length ≤ c6 ∧ Kd.string.C w A6 x.f6.length x.f6
theorem RecAt.below {w w1 : World} {v : Value} {x : Rec} (h : RecAt w v x) (hb : Below w.heap.size w w1) : RecAt w1 v x := by
  obtain ⟨A4, c4, A5, c5, A6, c6, rfl, l4, g4, l5, g5, l6, g6⟩ := h
  exact ⟨A4, c4, A5, c5, A6, c6, rfl, l4, Kd.C_below g4 hb, l5, Kd.C_below g5 hb, l6, Kd.C_below g6 hb⟩
/-- A message by value. -/
def MsgAt (w : World) (v : Value) (m : Msg) : Prop := ∃ A2 c2 A3 c3 A4 c4 A5 c5, v = .agg #[.int .u16 m.id, .int .u16 m.flags, .slice A2 m.qs.length c2, .slice A3 m.ans.length c3, .slice A4 m.auth.length c4, .slice A5 m.add.length c5] ∧
  m.qs.length ≤ c2 ∧ kQues.C w A2 m.qs.length m.qs ∧ m.ans.length ≤ c3 ∧ kRec.C w A3 m.ans.length m.ans ∧ m.auth.length ≤ c4 ∧ kRec.C w A4 m.auth.length m.auth ∧ m.add.length ≤ c5 ∧ kRec.C w A5 m.add.length m.add
theorem MsgAt.below {w w1 : World} {v : Value} {m : Msg} (h : MsgAt w v m) (hb : Below w.heap.size w w1) : MsgAt w1 v m := by
  obtain ⟨A2, c2, A3, c3, A4, c4, A5, c5, rfl, l2, g2, l3, g3, l4, g4, l5, g5⟩ := h
  exact ⟨A2, c2, A3, c3, A4, c4, A5, c5, rfl, l2, Kd.C_below g2 hb, l3, Kd.C_below g3 hb, l4, Kd.C_below g4 hb, l5, Kd.C_below g5 hb⟩
/-- A text's element of a row. -/
theorem at_str {w : World} {A : Option Addr} {n : Nat} {xs : List ByteArray} (h : Kd.string.C w A n xs) (k : Nat) (h1 : k < n) : ∃ ad, A = some ad ∧ w.cell? (ad.add k) = some (.string (xs.getD k ⟨#[]⟩)) := by
  obtain ⟨ad, c, e, _, hK, hc⟩ := Kd.C_get h (⟨#[]⟩ : ByteArray) k (by omega) (by omega)
  obtain rfl : c = [.string (xs.getD k ⟨#[]⟩)] := hK
  exact ⟨ad, e, by have := hc 0 _ rfl; simpa [Kd.string, Kd.scalar] using this⟩
theorem at_int {κ : IntKind} {w : World} {A : Option Addr} {n : Nat} {xs : List Int} (h : (Kd.int κ).C w A n xs) (k : Nat) (h1 : k < n) : ∃ ad, A = some ad ∧ w.cell? (ad.add k) = some (.int κ (xs.getD k 0)) := by
  obtain ⟨ad, c, e, _, hK, hc⟩ := Kd.C_get h (0 : Int) k (by omega) (by omega)
  obtain rfl : c = [.int κ (xs.getD k 0)] := hK
  exact ⟨ad, e, by have := hc 0 _ rfl; simpa [Kd.int, Kd.scalar] using this⟩
theorem at_rec {w : World} {A : Option Addr} {n : Nat} {xs : List Rec} (h : kRec.C w A n xs) (k : Nat) (h1 : k < n) : ∃ ad A4 c4 A5 c5 A6 c6 r, A = some ad ∧ xs.getD k zRec = r ∧ w.cell? (ad.add (k * 7)) = some (.string r.f0) ∧ w.cell? ⟨(ad.add (k * 7)).block, (ad.add (k * 7)).off + 1, none⟩ = some (.int .u16 r.f1) ∧ w.cell? ⟨(ad.add (k * 7)).block, (ad.add (k * 7)).off + 2, none⟩ = some (.int .u16 r.f2) ∧ w.cell? ⟨(ad.add (k * 7)).block, (ad.add (k * 7)).off + 3, none⟩ = some (.int .u32 r.f3) ∧
    w.cell? ⟨(ad.add (k * 7)).block, (ad.add (k * 7)).off + 4, none⟩ = some (.slice A4 r.f4.length c4) ∧ w.cell? ⟨(ad.add (k * 7)).block, (ad.add (k * 7)).off + 5, none⟩ = some (.slice A5 r.f5.length c5) ∧ w.cell? ⟨(ad.add (k * 7)).block, (ad.add (k * 7)).off + 6, none⟩ = some (.slice A6 r.f6.length c6) ∧ RecAt w (.agg #[.string r.f0, .int .u16 r.f1, .int .u16 r.f2, .int .u32 r.f3, .slice A4 r.f4.length c4, .slice A5 r.f5.length c5, .slice A6 r.f6.length c6]) r := by
  obtain ⟨ad, A4, c4, A5, c5, A6, c6, e, h0, h1, h2, h3, h4, h5, h6, l4, g4, l5, g5, l6, g6⟩ := at_TRec h k (by omega) (by omega)
  rw [Int.toNat_natCast] at h0 h1 h2 h3 h4 h5 h6
  exact ⟨ad, A4, c4, A5, c5, A6, c6, _, e, rfl, h0, h1, h2, h3, h4, h5, h6, A4, c4, A5, c5, A6, c6, rfl, l4, g4, l5, g5, l6, g6⟩
theorem at_ques {w : World} {A : Option Addr} {n : Nat} {xs : List Ques} (h : kQues.C w A n xs) (k : Nat) (h1 : k < n) : ∃ ad q, A = some ad ∧ xs.getD k zQues = q ∧ w.cell? (ad.add (k * 3)) = some (.string q.f0) ∧ w.cell? ⟨(ad.add (k * 3)).block, (ad.add (k * 3)).off + 1, none⟩ = some (.int .u16 q.f1) ∧ w.cell? ⟨(ad.add (k * 3)).block, (ad.add (k * 3)).off + 2, none⟩ = some (.int .u16 q.f2) := by
  obtain ⟨ad, e, h0, h1, h2⟩ := at_TQues h k (by omega) (by omega)
  rw [Int.toNat_natCast] at h0 h1 h2
  exact ⟨ad, _, e, rfl, h0, h1, h2⟩
end Go.Proofs.Ytbbeikdbioelgaa.M
