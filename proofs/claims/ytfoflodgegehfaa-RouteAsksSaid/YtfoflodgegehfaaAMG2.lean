/- Joined texts: walks and plain laws. -/
import Derived.Test.YtfoflodgegehfaaAMG1
import Derived.Laws.Concat
import Derived.WalkSmall
import Derived.Deep.DeepMust
import Derived.Maps.OwnSet
import Derived.Deep.RegionHeld3
import Derived.Deep.RegionLaw
import Derived.Deep.DrawnRows
set_option linter.unusedVariables false
set_option linter.unusedSimpArgs false
namespace Go.Proofs.Ytfoflodgegehfaa.M
open Go.RowKit Go.Maps Go.Proofs.YtfoflodgegehfaaW.PrintWords Go.Proofs.YtfoflodgegehfaaW.PrintLast Go.Proofs.YtfoflodgegehfaaW.PrintMore
attribute [local go_sem] max2_int min2_int max_two min_two max_three min_three max_four min_four
attribute [local go_sem ↓] Go.wp_at_zero Go.wp_at_succ
def encB (s : ByteArray) : ByteArray := strOfNums (B64.b64h_encGo (bytesOf s) 0 0)
def decB (s : ByteArray) : ByteArray × Bool := match B64.b64h_decGo (bytesOf s) 0 0 with
  | none => (⟨#[]⟩, false)
  | some l => (strOfNums l, true)
theorem encB_size (s : ByteArray) : ((encB s).size : Int) = (s.size * 8 + 5) / 6 := by
  have h := (B64.dec_enc _ (bytesOf s) (Nat.le_refl _) (B64.bytes_range s)).2.2
  rw [bytesOf_length] at h
  unfold encB
  rw [strOfNums_size]
  exact h
theorem decB_size (s : ByteArray) : (decB s).1.size ≤ s.size := by
  unfold decB
  cases hd : B64.b64h_decGo (bytesOf s) 0 0 with
  | none => exact Nat.zero_le _
  | some x =>
    have h := (B64.enc_dec _ (bytesOf s) x (Nat.le_refl _) (B64.bytes_range s) hd).2.2
    rw [bytesOf_length] at h
    show (strOfNums x).size ≤ _
    rw [strOfNums_size]
    exact h
theorem encode_calls (s : ByteArray) (w : World) (hs : s.size ≤ 100000) :
    Calls Try.prog 22 #[.string s] w fun e w' => e = .returned (.string (encB s)) ∧ Below w.heap.size w w' := B64.b64h_encode_calls s w hs
theorem decode_calls (s : ByteArray) (w : World) (hs : s.size ≤ 100000) :
    Calls Try.prog 36 #[.string s] w fun e w' => e = .returned (.tuple #[.string (decB s).1, .bool (decB s).2]) ∧ Below w.heap.size w w' := by
  refine B64.b64_Decode.calls s (decB s).1 (decB s).2 w ?_
  unfold B64.b64_Decode.f decB
  rw [if_pos hs]
  cases B64.b64h_decGo (bytesOf s) 0 0 <;> rfl
theorem ref_decode (s : ByteArray) (hz : s.size ≤ 30000) : B64.nuncioref03_Decode.f 500000 s = some (decB s) := by
  unfold B64.nuncioref03_Decode.f
  rw [B64.ref_dec s hz (s.size + 1) 500000 [] 0 (by omega) (by omega) (by omega) (by simp) (by simp) (by simp) (by omega)]
  simp only [Int.toNat_zero, List.drop_zero, List.nil_append]
  unfold decB
  cases hd : B64.b64h_decGo (bytesOf s) 0 0 with
  | some x =>
    have hr := B64.ref_of_dec _ _ x (Nat.le_refl _) hd
    rw [hr]
    have he := (B64.enc_dec _ (bytesOf s) x (Nat.le_refl _) (B64.bytes_range s) hd).1
    simp [B64.close, he]
  | none =>
    cases hr : B64.refGo (bytesOf s) with
    | none => simp
    | some x =>
      have hx := B64.ref_range _ _ x (Nat.le_refl _) hr
      have hne : ¬ B64.b64h_encGo x 0 0 = bytesOf s := by
        intro e
        have := (B64.dec_enc _ x (Nat.le_refl _) hx.1).1
        rw [e, hd] at this
        exact absurd this (by simp)
      simp [B64.close, hne]
theorem refDecode_calls (s : ByteArray) (w : World) (hs : s.size ≤ 30000) :
    Calls Try.prog 25 #[.string s] w fun e w' => e = .returned (.tuple #[.string (decB s).1, .bool (decB s).2]) ∧ Below w.heap.size w w' :=
  B64.nuncioref03_Decode.calls 500000 s (decB s).1 (decB s).2 w (ref_decode s hs)
def headT : ByteArray := ⟨#[47, 100, 110, 115, 45, 113, 117, 101, 114, 121, 63, 100, 110, 115, 61]⟩
def targetF (s : ByteArray) : ByteArray := headT ++ encB s
set_option maxHeartbeats 2000000 in
theorem target_calls (s : ByteArray) (w : World) (hs : s.size ≤ 100000) :
    Calls Try.prog 13 #[.string s] w fun e w' => e = .returned (.string (targetF s)) ∧ Below w.heap.size w w' := by
    have hz := encB_size s
    have hc := fun w => encode_calls s w hs
    obtain ⟨p, hp⟩ : ∃ p, targetF s = p := ⟨_, rfl⟩
    rw [hp]
    unfold targetF headT at hp
    generalize encB s = q at *
    have A1 := fun W => show (Op.stringOp .add ⟨#[47, 100, 110, 115, 45, 113, 117, 101, 114, 121, 63, 100, 110, 115, 61]⟩ q).run Try.prog W = .ok (.string p) W by rw [← hp]; exact run_string_add_sum (P := Try.prog) W _ q (by show 15 + _ ≤ _; omega)
    clear hp hz
    have HB := Aside0.mk (Below.refl w.heap.size w)
    go_enter Try.func13, Try.ntmps13
    go_wp2_with fail
    refine (hc _).mono ?_
    rintro e w2 ⟨rfl, hb⟩
    have HB2 := Aside0.mk (HB.out.trans (hb.mono HB.out.size))
    clear hb HB
    go_wp2_with fail
    go_ret
    exact ⟨rfl, HB2.out⟩
end Go.Proofs.Ytfoflodgegehfaa.M
set_option linter.unusedVariables false
set_option linter.unusedSimpArgs false
namespace Go.Proofs.Ytfoflodgegehfaa.M
open Go.RowKit Go.Proofs.YtfoflodgegehfaaW.PrintWords Go.Proofs.YtfoflodgegehfaaW.PrintLast Go.Proofs.YtfoflodgegehfaaW.PrintMore
theorem infoS : (Try.prog.info? 9).map (fun i => (i.zero, i.size, i.bytes)) = some (some (.string ⟨#[]⟩), 1, 16) := by kernel_rfl
theorem info32 : (Try.prog.info? 81).map (fun i => (i.zero, i.size, i.bytes)) = some (some (.int .u32 0), 1, 4) := by kernel_rfl
theorem infoRec : (Try.prog.info? 85).map (fun i => (i.zero, i.size, i.bytes)) = some (some (.agg #[(.string ⟨#[]⟩), (.int .u16 0), (.int .u16 0), (.int .u32 0), (.slice none 0 0), (.slice none 0 0), (.slice none 0 0)]), 7, 96) := by kernel_rfl
theorem infoQues : (Try.prog.info? 63).map (fun i => (i.zero, i.size, i.bytes)) = some (some (.agg #[(.string ⟨#[]⟩), (.int .u16 0), (.int .u16 0)]), 3, 24) := by kernel_rfl
section
variable {ops : Array Oper} {rest : List Oper} {o : Oper} {a : Act} {Q : Exit → Act → World → Prop}
theorem app32 {w0 W : World} {base : Nat} (hgd : o.guard = none) (s x : Operand) (ho : o.op = .call { callee := .builtin .append, args := #[s, x], argTypes := #[83, 83] })
    {v : Value} {xs : List (Int)} {p : Int} {ok : Nat → Prop} (hs : a.eval s = v) (hx : a.eval x = .slice (some ⟨W.heap.size, 0, none⟩) 1 1)
    (HO : Kd.R (Kd.int .u32) 81 W base ok v xs) (HB : Below base w0 W) (hfresh : ∀ k, base ≤ k → W.heap.size ≤ k → ok k) (hbase : base ≤ W.heap.size) (hl : (xs.length + 1) * 4 ≤ 140737488355328)
    (h : ∀ v1 w1, Kd.R (Kd.int .u32) 81 w1 base ok v1 (xs ++ [p]) → Below base w0 w1 → W.grownBy w1 v.ownBlock → (v1.ownBlock = v.ownBlock ∨ ∃ b, v1.ownBlock = some b ∧ W.heap.size ≤ b) → wpList Try.prog ops Q rest (a.put o.dst v1) w1) :
    wpList Try.prog ops Q (o :: rest) a (W.alloc (.cells #[.int .u32 p] 81)) :=
  Kd.R_append (Kd.int .u32) (w0 := w0) base hgd s x 83 81 (.int .u32 0) 4 ho Try.underlying83 info32 rfl (by decide) (by omega) v xs p [.int .u32 p] ok (fun _ => False) hs hx rfl (fun _ hk => hk.elim) (fun k hk => hfresh k (Nat.le_trans hbase hk) hk) HO HB hbase hl h
end
section
variable {ops : Array Oper} {rest : List Oper} {o : Oper} {a : Act} {Q : Exit → Act → World → Prop}
theorem appS {w0 W : World} {base : Nat} (hgd : o.guard = none) (s x : Operand) (ho : o.op = .call { callee := .builtin .append, args := #[s, x], argTypes := #[82, 82] })
    {v : Value} {xs : List (ByteArray)} {p : ByteArray} {ok : Nat → Prop} (hs : a.eval s = v) (hx : a.eval x = .slice (some ⟨W.heap.size, 0, none⟩) 1 1)
    (HO : Kd.R Kd.string 9 W base ok v xs) (HB : Below base w0 W) (hfresh : ∀ k, base ≤ k → W.heap.size ≤ k → ok k) (hbase : base ≤ W.heap.size) (hl : (xs.length + 1) * 16 ≤ 140737488355328)
    (h : ∀ v1 w1, Kd.R Kd.string 9 w1 base ok v1 (xs ++ [p]) → Below base w0 w1 → W.grownBy w1 v.ownBlock → (v1.ownBlock = v.ownBlock ∨ ∃ b, v1.ownBlock = some b ∧ W.heap.size ≤ b) → wpList Try.prog ops Q rest (a.put o.dst v1) w1) :
    wpList Try.prog ops Q (o :: rest) a (W.alloc (.cells #[.string p] 9)) :=
  Kd.R_append Kd.string (w0 := w0) base hgd s x 82 9 (.string ⟨#[]⟩) 16 ho Try.underlying82 infoS rfl (by decide) (by omega) v xs p [.string p] ok (fun _ => False) hs hx rfl (fun _ hk => hk.elim) (fun k hk => hfresh k (Nat.le_trans hbase hk) hk) HO HB hbase hl h
end
structure Rec where
  f0 : ByteArray
  f1 : Int
  f2 : Int
  f3 : Int
  f4 : (List ByteArray)
  f5 : (List Int)
  f6 : (List ByteArray)
def zRec : Rec := ⟨(⟨#[]⟩ : ByteArray), (0 : Int), (0 : Int), (0 : Int), ([] : List ByteArray), ([] : List Int), ([] : List ByteArray)⟩
def kRec : Kd Rec := Kd.iso (Kd.pair Kd.string (Kd.pair (Kd.int .u16) (Kd.pair (Kd.int .u16) (Kd.pair (Kd.int .u32) (Kd.pair (Kd.slice 9 Kd.string) (Kd.pair (Kd.slice 81 (Kd.int .u32)) (Kd.slice 9 Kd.string))))))) (fun x : Rec => (x.f0, x.f1, x.f2, x.f3, x.f4, x.f5, x.f6))
theorem kRec_open {w : World} {x : Rec} {cs : List Value} (h : kRec.K w x cs) : ∃ A4 c4 A5 c5 A6 c6, cs = [.string x.f0, .int .u16 x.f1, .int .u16 x.f2, .int .u32 x.f3, .slice A4 x.f4.length c4, .slice A5 x.f5.length c5, .slice A6 x.f6.length c6] ∧ x.f4.length ≤ c4 ∧ Kd.string.C w A4 x.f4.length x.f4 ∧ x.f5.length ≤ c5 ∧ (Kd.int .u32).C w A5 x.f5.length x.f5 ∧ x.f6.length ≤ c6 ∧ Kd.string.C w A6 x.f6.length x.f6 := by
  obtain ⟨_, _, rfl, rfl, ⟨_, _, rfl, rfl, ⟨_, _, rfl, rfl, ⟨_, _, rfl, rfl, ⟨_, _, rfl, ⟨A4, c4, rfl, l4, g4⟩, ⟨_, _, rfl, ⟨A5, c5, rfl, l5, g5⟩, ⟨A6, c6, rfl, l6, g6⟩⟩⟩⟩⟩⟩⟩ := h
  exact ⟨A4, c4, A5, c5, A6, c6, rfl, l4, g4, l5, g5, l6, g6⟩
theorem kRec_mkM (w : World) (base : Nat) (ok : Nat → Prop) (x : Rec) {v4 : Value} (g4 : Kd.string.R 9 w base ok v4 x.f4) {v5 : Value} (g5 : (Kd.int .u32).R 81 w base ok v5 x.f5) {v6 : Value} (g6 : Kd.string.R 9 w base ok v6 x.f6) : kRec.M w base ok x [.string x.f0, .int .u16 x.f1, .int .u16 x.f2, .int .u32 x.f3, v4, v5, v6] := ⟨[.string x.f0], [.int .u16 x.f1, .int .u16 x.f2, .int .u32 x.f3, v4, v5, v6], rfl, rfl, ⟨[.int .u16 x.f1], [.int .u16 x.f2, .int .u32 x.f3, v4, v5, v6], rfl, rfl, ⟨[.int .u16 x.f2], [.int .u32 x.f3, v4, v5, v6], rfl, rfl, ⟨[.int .u32 x.f3], [v4, v5, v6], rfl, rfl, ⟨[v4], [v5, v6], rfl, ⟨v4, rfl, g4⟩, ⟨[v5], [v6], rfl, ⟨v5, rfl, g5⟩, ⟨v6, rfl, g6⟩⟩⟩⟩⟩⟩⟩
def rd_TRec (xs : List Rec) (i : Int) : Rec := xs.getD i.toNat zRec
theorem at_TRec {w : World} {A : Option Addr} {n : Nat} {xs : List Rec} (h : Kd.C kRec w A n xs) (i : Int) (h0 : 0 ≤ i) (h1 : i < n) : ∃ ad A4 c4 A5 c5 A6 c6, A = some ad ∧ w.cell? (ad.add (i.toNat * 7)) = some (.string (rd_TRec xs i).f0) ∧ w.cell? ⟨(ad.add (i.toNat * 7)).block, (ad.add (i.toNat * 7)).off + 1, none⟩ = some (.int .u16 (rd_TRec xs i).f1) ∧ w.cell? ⟨(ad.add (i.toNat * 7)).block, (ad.add (i.toNat * 7)).off + 2, none⟩ = some (.int .u16 (rd_TRec xs i).f2) ∧ w.cell? ⟨(ad.add (i.toNat * 7)).block, (ad.add (i.toNat * 7)).off + 3, none⟩ = some (.int .u32 (rd_TRec xs i).f3) ∧ w.cell? ⟨(ad.add (i.toNat * 7)).block, (ad.add (i.toNat * 7)).off + 4, none⟩ = some (.slice A4 (rd_TRec xs i).f4.length c4) ∧ w.cell? ⟨(ad.add (i.toNat * 7)).block, (ad.add (i.toNat * 7)).off + 5, none⟩ = some (.slice A5 (rd_TRec xs i).f5.length c5) ∧ w.cell? ⟨(ad.add (i.toNat * 7)).block, (ad.add (i.toNat * 7)).off + 6, none⟩ = some (.slice A6 (rd_TRec xs i).f6.length c6) ∧ (rd_TRec xs i).f4.length ≤ c4 ∧ Kd.string.C w A4 (rd_TRec xs i).f4.length (rd_TRec xs i).f4 ∧ (rd_TRec xs i).f5.length ≤ c5 ∧ (Kd.int .u32).C w A5 (rd_TRec xs i).f5.length (rd_TRec xs i).f5 ∧ (rd_TRec xs i).f6.length ≤ c6 ∧ Kd.string.C w A6 (rd_TRec xs i).f6.length (rd_TRec xs i).f6 := by
  obtain ⟨ad, c, e, _, hK, hc0⟩ := Kd.C_get h zRec i h0 h1
  have hc : ∀ j u, c[j]? = some u → w.cell? (ad.add (i.toNat * 7 + j)) = some u := hc0
  obtain ⟨A4, c4, A5, c5, A6, c6, rfl, l4, g4, l5, g5, l6, g6⟩ := kRec_open hK
  exact ⟨ad, A4, c4, A5, c5, A6, c6, e, hc 0 _ rfl, by rw [← add_field _ _ 1 (by omega)]; exact hc 1 _ rfl, by rw [← add_field _ _ 2 (by omega)]; exact hc 2 _ rfl, by rw [← add_field _ _ 3 (by omega)]; exact hc 3 _ rfl, by rw [← add_field _ _ 4 (by omega)]; exact hc 4 _ rfl, by rw [← add_field _ _ 5 (by omega)]; exact hc 5 _ rfl, by rw [← add_field _ _ 6 (by omega)]; exact hc 6 _ rfl, l4, g4, l5, g5, l6, g6⟩
structure Ques where
  f0 : ByteArray
  f1 : Int
  f2 : Int
def zQues : Ques := ⟨(⟨#[]⟩ : ByteArray), (0 : Int), (0 : Int)⟩
def kQues : Kd Ques := Kd.iso (Kd.pair Kd.string (Kd.pair (Kd.int .u16) (Kd.int .u16))) (fun x : Ques => (x.f0, x.f1, x.f2))
theorem kQues_open {w : World} {x : Ques} {cs : List Value} (h : kQues.K w x cs) : cs = [.string x.f0, .int .u16 x.f1, .int .u16 x.f2] := by
  obtain ⟨_, _, rfl, rfl, ⟨_, _, rfl, rfl, rfl⟩⟩ := h
  exact rfl
theorem kQues_mkM (w : World) (base : Nat) (ok : Nat → Prop) (x : Ques)  : kQues.M w base ok x [.string x.f0, .int .u16 x.f1, .int .u16 x.f2] := ⟨[.string x.f0], [.int .u16 x.f1, .int .u16 x.f2], rfl, rfl, ⟨[.int .u16 x.f1], [.int .u16 x.f2], rfl, rfl, rfl⟩⟩
def rd_TQues (xs : List Ques) (i : Int) : Ques := xs.getD i.toNat zQues
theorem at_TQues {w : World} {A : Option Addr} {n : Nat} {xs : List Ques} (h : Kd.C kQues w A n xs) (i : Int) (h0 : 0 ≤ i) (h1 : i < n) : ∃ ad , A = some ad ∧ w.cell? (ad.add (i.toNat * 3)) = some (.string (rd_TQues xs i).f0) ∧ w.cell? ⟨(ad.add (i.toNat * 3)).block, (ad.add (i.toNat * 3)).off + 1, none⟩ = some (.int .u16 (rd_TQues xs i).f1) ∧ w.cell? ⟨(ad.add (i.toNat * 3)).block, (ad.add (i.toNat * 3)).off + 2, none⟩ = some (.int .u16 (rd_TQues xs i).f2) := by
  obtain ⟨ad, c, e, _, hK, hc0⟩ := Kd.C_get h zQues i h0 h1
  have hc : ∀ j u, c[j]? = some u → w.cell? (ad.add (i.toNat * 3 + j)) = some u := hc0
  obtain rfl := kQues_open hK
  exact ⟨ad, e, hc 0 _ rfl, by rw [← add_field _ _ 1 (by omega)]; exact hc 1 _ rfl, by rw [← add_field _ _ 2 (by omega)]; exact hc 2 _ rfl⟩
structure Msg where
  id : Int
  flags : Int
  qs : List Ques
  ans : List Rec
  auth : List Rec
  add : List Rec
def RecAt (w : World) (v : Value) (x : Rec) : Prop := ∃ A4 c4 A5 c5 A6 c6, v = .agg #[.string x.f0, .int .u16 x.f1, .int .u16 x.f2, .int .u32 x.f3, .slice A4 x.f4.length c4, .slice A5 x.f5.length c5, .slice A6 x.f6.length c6] ∧ x.f4.length ≤ c4 ∧ Kd.string.C w A4 x.f4.length x.f4 ∧ x.f5.length ≤ c5 ∧ (Kd.int .u32).C w A5 x.f5.length x.f5 ∧ x.f6.length ≤ c6 ∧ Kd.string.C w A6 x.f6.length x.f6
theorem RecAt.below {w w1 : World} {v : Value} {x : Rec} (h : RecAt w v x) (hb : Below w.heap.size w w1) : RecAt w1 v x := by
  obtain ⟨A4, c4, A5, c5, A6, c6, rfl, l4, g4, l5, g5, l6, g6⟩ := h
  exact ⟨A4, c4, A5, c5, A6, c6, rfl, l4, Kd.C_below g4 hb, l5, Kd.C_below g5 hb, l6, Kd.C_below g6 hb⟩
def MsgAt (w : World) (v : Value) (m : Msg) : Prop := ∃ A2 c2 A3 c3 A4 c4 A5 c5, v = .agg #[.int .u16 m.id, .int .u16 m.flags, .slice A2 m.qs.length c2, .slice A3 m.ans.length c3, .slice A4 m.auth.length c4, .slice A5 m.add.length c5] ∧
  m.qs.length ≤ c2 ∧ kQues.C w A2 m.qs.length m.qs ∧ m.ans.length ≤ c3 ∧ kRec.C w A3 m.ans.length m.ans ∧ m.auth.length ≤ c4 ∧ kRec.C w A4 m.auth.length m.auth ∧ m.add.length ≤ c5 ∧ kRec.C w A5 m.add.length m.add
theorem MsgAt.below {w w1 : World} {v : Value} {m : Msg} (h : MsgAt w v m) (hb : Below w.heap.size w w1) : MsgAt w1 v m := by
  obtain ⟨A2, c2, A3, c3, A4, c4, A5, c5, rfl, l2, g2, l3, g3, l4, g4, l5, g5⟩ := h
  exact ⟨A2, c2, A3, c3, A4, c4, A5, c5, rfl, l2, Kd.C_below g2 hb, l3, Kd.C_below g3 hb, l4, Kd.C_below g4 hb, l5, Kd.C_below g5 hb⟩
theorem at_str {w : World} {A : Option Addr} {n : Nat} {xs : List ByteArray} (h : Kd.string.C w A n xs) (k : Nat) (h1 : k < n) : ∃ ad, A = some ad ∧ w.cell? (ad.add k) = some (.string (xs.getD k ⟨#[]⟩)) := by
  obtain ⟨ad, c, e, _, hK, hc⟩ := Kd.C_get h (⟨#[]⟩ : ByteArray) k (by omega) (by omega)
  obtain rfl : c = [.string (xs.getD k ⟨#[]⟩)] := hK
  exact ⟨ad, e, by have := hc 0 _ rfl; simpa [Kd.string, Kd.scalar] using this⟩
theorem at_int {κ : IntKind} {w : World} {A : Option Addr} {n : Nat} {xs : List Int} (h : (Kd.int κ).C w A n xs) (k : Nat) (h1 : k < n) : ∃ ad, A = some ad ∧ w.cell? (ad.add k) = some (.int κ (xs.getD k 0)) := by
  obtain ⟨ad, c, e, _, hK, hc⟩ := Kd.C_get h (0 : Int) k (by omega) (by omega)
  obtain rfl : c = [.int κ (xs.getD k 0)] := hK
  exact ⟨ad, e, by have := hc 0 _ rfl; simpa [Kd.int, Kd.scalar] using this⟩
theorem at_rec {w : World} {A : Option Addr} {n : Nat} {xs : List Rec} (h : kRec.C w A n xs) (k : Nat) (h1 : k < n) : ∃ ad A4 c4 A5 c5 A6 c6 r, A = some ad ∧ xs.getD k zRec = r ∧ w.cell? (ad.add (k * 7)) = some (.string r.f0) ∧ w.cell? ⟨(ad.add (k * 7)).block, (ad.add (k * 7)).off + 1, none⟩ = some (.int .u16 r.f1) ∧ w.cell? ⟨(ad.add (k * 7)).block, (ad.add (k * 7)).off + 2, none⟩ = some (.int .u16 r.f2) ∧ w.cell? ⟨(ad.add (k * 7)).block, (ad.add (k * 7)).off + 3, none⟩ = some (.int .u32 r.f3) ∧
    w.cell? ⟨(ad.add (k * 7)).block, (ad.add (k * 7)).off + 4, none⟩ = some (.slice A4 r.f4.length c4) ∧ w.cell? ⟨(ad.add (k * 7)).block, (ad.add (k * 7)).off + 5, none⟩ = some (.slice A5 r.f5.length c5) ∧ w.cell? ⟨(ad.add (k * 7)).block, (ad.add (k * 7)).off + 6, none⟩ = some (.slice A6 r.f6.length c6) ∧ RecAt w (.agg #[.string r.f0, .int .u16 r.f1, .int .u16 r.f2, .int .u32 r.f3, .slice A4 r.f4.length c4, .slice A5 r.f5.length c5, .slice A6 r.f6.length c6]) r := by
  obtain ⟨ad, A4, c4, A5, c5, A6, c6, e, h0, h1, h2, h3, h4, h5, h6, l4, g4, l5, g5, l6, g6⟩ := at_TRec h k (by omega) (by omega)
  rw [Int.toNat_natCast] at h0 h1 h2 h3 h4 h5 h6
  exact ⟨ad, A4, c4, A5, c5, A6, c6, _, e, rfl, h0, h1, h2, h3, h4, h5, h6, A4, c4, A5, c5, A6, c6, rfl, l4, g4, l5, g5, l6, g6⟩
theorem at_ques {w : World} {A : Option Addr} {n : Nat} {xs : List Ques} (h : kQues.C w A n xs) (k : Nat) (h1 : k < n) : ∃ ad q, A = some ad ∧ xs.getD k zQues = q ∧ w.cell? (ad.add (k * 3)) = some (.string q.f0) ∧ w.cell? ⟨(ad.add (k * 3)).block, (ad.add (k * 3)).off + 1, none⟩ = some (.int .u16 q.f1) ∧ w.cell? ⟨(ad.add (k * 3)).block, (ad.add (k * 3)).off + 2, none⟩ = some (.int .u16 q.f2) := by
  obtain ⟨ad, e, h0, h1, h2⟩ := at_TQues h k (by omega) (by omega)
  rw [Int.toNat_natCast] at h0 h1 h2
  exact ⟨ad, _, e, rfl, h0, h1, h2⟩
end Go.Proofs.Ytfoflodgegehfaa.M
set_option linter.unusedVariables false
set_option linter.unusedSimpArgs false
namespace Go.Proofs.Ytfoflodgegehfaa.M
open Go.RowKit Go.Proofs.YtfoflodgegehfaaW.PrintWords Go.Proofs.YtfoflodgegehfaaW.PrintLast Go.Proofs.YtfoflodgegehfaaW.PrintMore
attribute [local go_sem] max2_int min2_int max_two min_two max_three min_three max_four min_four
def nb (s : ByteArray) (i : Nat) : Nat := if h : i < s.size then (s[i]'h).toNat else 0
theorem nb_lt (s : ByteArray) (i : Nat) : nb s i < 256 := by
  unfold nb
  split
  · exact UInt8.toNat_lt _
  · omega
theorem nb_at (s : ByteArray) (i : Nat) : ∀ h : i < s.size, ((s[i]'h).toNat : Int) = (nb s i : Int) := by
  intro h
  unfold nb
  rw [dif_pos h]
def splitF : Nat → ByteArray → List ByteArray → List ByteArray × Bool
  | 0, _, _ => ([], false)
  | k + 1, s, out => if s.size = 0 then ([], false) else if nb s 0 = 0 then (out, s.size == 1) else if 63 < nb s 0 ∨ s.size ≤ nb s 0 then ([], false)
    else splitF k (s.extract (nb s 0 + 1) s.size) (out ++ [s.extract 1 (nb s 0 + 1)])
def split (s : ByteArray) : List ByteArray × Bool := if 255 < s.size then ([], false) else splitF (s.size + 1) s []
def isName (s : ByteArray) : Bool := (split s).2
theorem one_beq (a : Nat) : ((a : Int) == 1) = (a == 1) := by
  rw [Bool.eq_iff_iff]
  simp only [beq_iff_eq]
  omega
set_option maxHeartbeats 2000000 in
set_option maxRecDepth 100000 in
theorem split_calls (s : ByteArray) (w : World) :
    Calls Try.prog 81 #[.string s] w fun e w' => ∃ v, e = .returned (.tuple #[v, .bool (split s).2]) ∧ Kd.R Kd.string 9 w' w.heap.size (fun _ => True) v (split s).1 ∧ Below w.heap.size w w' := by
  have HB := Aside0.mk (Below.refl w.heap.size w)
  obtain ⟨r, hr⟩ : ∃ r, split s = r := ⟨_, rfl⟩
  rw [hr]
  by_cases hl : 255 < s.size
  · obtain rfl : r = ([], false) := by rw [← hr]; unfold split; rw [if_pos hl]
    have h1 : decide ((255 : Int) < (s.size : Int)) = true := decide_eq_true (by omega)
    have h2 : decide (255 < s.size) = true := decide_eq_true hl
    clear hl hr
    go_enter Try.func81, Try.ntmps81
    go_wp2
    go_ret2
    exact ⟨_, rfl, Kd.R_nil _ _ _ _ _, HB.out⟩
  · have h1 : decide ((255 : Int) < (s.size : Int)) = false := decide_eq_false (by omega)
    have h2 : decide (255 < s.size) = false := decide_eq_false hl
    have HR := Aside0.mk (show splitF (s.size + 1) s [] = r by rw [← hr]; unfold split; rw [if_neg hl])
    have HS := Aside0.mk (show s.size ≤ 255 by omega)
    clear hl hr
    go_enter Try.func81, Try.ntmps81
    go_wp2
    go_loopg [0, 4] (s.size + 1) (fun kq v0 v4 w' => ∃ (x : ByteArray) (out : List ByteArray), v0 = .string x ∧ Aside0 (splitF kq x out = r) ∧ Aside0 (x.size < kq) ∧ Aside0 (x.size ≤ 255) ∧ Aside0 (out.length + x.size ≤ 255) ∧ Aside0 (Kd.R Kd.string 9 w' w.heap.size (fun _ => True) v4 out) ∧ Aside0 (Below w.heap.size w w'))
    case atStart => exact ⟨s, [], rfl, HR, ⟨Nat.lt_succ_self _⟩, HS, ⟨by simpa using HS.out⟩, ⟨Kd.R_nil _ _ _ _ _⟩, HB⟩
    case round =>
      clear HR HB h1 h2
      obtain ⟨x, out, rfl, HR, HK, HX, HL, HO, HB⟩ := hrel
      obtain ⟨k, rfl⟩ : ∃ k, gk = k + 1 := ⟨gk - 1, by have := HK.out; omega⟩
      have hr := HR.out
      simp only [splitF] at hr
      clear HR
      by_cases c1 : x.size = 0
      · rw [if_pos c1] at hr
        subst hr
        have d1 : decide ((0 : Int) < (x.size : Int)) = false := decide_eq_false (by omega)
        have d2 : decide (0 < x.size) = false := decide_eq_false (by omega)
        clear c1
        go_wp2
        go_ret2
        exact ⟨_, rfl, Kd.R_nil _ _ _ _ _, HB.out⟩
      · rw [if_neg c1] at hr
        have q1 : 0 < x.size := by omega
        have d1 : decide ((0 : Int) < (x.size : Int)) = true := decide_eq_true (by omega)
        have d2 : decide (0 < x.size) = true := decide_eq_true (by omega)
        have hx := nb_at x 0
        have hn := nb_lt x 0
        obtain ⟨n, hnb⟩ : ∃ n, nb x 0 = n := ⟨_, rfl⟩
        rw [hnb] at hx hn hr
        clear hnb c1
        by_cases c2 : n = 0
        · subst c2
          rw [if_pos rfl] at hr
          subst hr
          go_wp2
          go_ret2
          exact ⟨_, by rw [← one_beq]; rfl, HO.out, HB.out⟩
        · rw [if_neg c2] at hr
          have q2 : (0 : Int) < (n : Int) := by omega
          have q3 : (n : Int) ≤ 255 := by omega
          have e2 : ((n : Int) == 0) = false := beq_eq_false_iff_ne.mpr (by omega)
          clear c2
          by_cases c3 : 63 < n ∨ x.size ≤ n
          · rw [if_pos c3] at hr
            subst hr
            by_cases c4 : 63 < n
            · have e3 : decide ((63 : Int) < (n : Int)) = true := decide_eq_true (by omega)
              clear c3 c4
              go_wp2
              go_ret2
              exact ⟨_, rfl, Kd.R_nil _ _ _ _ _, HB.out⟩
            · have e3 : decide ((63 : Int) < (n : Int)) = false := decide_eq_false (by omega)
              have e4 : x.size ≤ n := by omega
              clear c3 c4
              go_wp2
              go_ret2
              exact ⟨_, rfl, Kd.R_nil _ _ _ _ _, HB.out⟩
          · rw [if_neg c3] at hr
            have HR := Aside0.mk hr
            clear hr
            have e3 : decide ((63 : Int) < (n : Int)) = false := decide_eq_false (by omega)
            have e4 : decide (x.size ≤ n) = false := decide_eq_false (by omega)
            have q4 : (n : Int) + 1 ≤ (x.size : Int) := by omega
            have q5 : (1 : Int) ≤ (n : Int) + 1 := by omega
            have q6 : (0 : Int) ≤ (n : Int) + 1 := by omega
            clear c3
            have HS2 := Aside0.mk (show (out.length + 1) * 16 ≤ 140737488355328 by have := HL.out; omega)
            go_wp2_with ((with_reducible refine gate_builtin (b := .append) (xs := #[.tmp 29, .tmp 34]) rfl ?_); at_builtin; refine appS rfl (.tmp 29) (.tmp 34) rfl rfl rfl HO.out HB.out (fun _ _ _ => trivial) (below_size HB.out) HS2.out ?_; intro v1 w1 ho1 hb1 hg1 hat1; have HO1 := Aside0.mk ho1; have HB1 := Aside0.mk hb1; clear ho1 hb1 hg1 hat1)
            go_roundg k
            case measure => omega
            case rel => exact ⟨_, _, rfl, HR, ⟨by have := HK.out; simp [ByteArray.size_extract]; omega⟩, ⟨by have := HX.out; simp [ByteArray.size_extract]; omega⟩, ⟨by have := HL.out; simp [ByteArray.size_extract]; omega⟩, HO1, HB1⟩
theorem isName_yes (s : ByteArray) (w : World) (h : isName s = true) : Calls Try.prog 64 #[.string s] w fun e w' => e = .returned (.bool true) ∧ Below w.heap.size w w' := by
  have h0 : (split s).2 = true := h
  have H := Lib.hid h0
  clear h h0
  go_enter Try.func64, Try.ntmps64
  go_wp2_with (go_at_call 81; refine (split_calls s _).mono ?_; rintro e w' ⟨v, rfl, _, hb⟩; rw [H.out]; have HB := Aside0.mk hb; clear hb)
  go_ret
  exact ⟨rfl, HB.out⟩
theorem isName_no (s : ByteArray) (w : World) (h : isName s = false) : Calls Try.prog 64 #[.string s] w fun e w' => e = .returned (.bool false) ∧ Below w.heap.size w w' := by
  have h0 : (split s).2 = false := h
  have H := Lib.hid h0
  clear h h0
  go_enter Try.func64, Try.ntmps64
  go_wp2_with (go_at_call 81; refine (split_calls s _).mono ?_; rintro e w' ⟨v, rfl, _, hb⟩; rw [H.out]; have HB := Aside0.mk hb; clear hb)
  go_ret
  exact ⟨rfl, HB.out⟩
end Go.Proofs.Ytfoflodgegehfaa.M
set_option linter.unusedVariables false
set_option linter.unusedSimpArgs false
namespace Go.Proofs.Ytfoflodgegehfaa.M
open Go.RowKit Go.Maps Go.Proofs.YtfoflodgegehfaaW.PrintWords Go.Proofs.YtfoflodgegehfaaW.PrintLast Go.Proofs.YtfoflodgegehfaaW.PrintMore
attribute [local go_sem] max2_int min2_int max_two min_two max_three min_three max_four min_four
attribute [local go_sem ↓] Go.wp_at_zero Go.wp_at_succ
def Byt (w : World) (G K : Nat) (xs : List Int) : Prop := ∃ pad : List Value, xs.length + pad.length = K ∧ w.heap[G]? = some (.cells (xs.map (Value.int .u8) ++ pad).toArray 5 (K, K + 1))
section
variable {w w1 : World} {G K : Nat} {xs : List Int}
theorem Byt.new (w : World) (s : ByteArray) : Byt (Lib.bytesWorld w 5 s) w.heap.size (Lib.bytesCells w 5 s).size (bytesOf s) := by
  refine ⟨List.replicate (grownCap w s.size 0 5 - s.size) (.int .u8 0), ?_, ?_⟩
  · simp [Lib.bytesCells, bytesOf_length]
  · rw [Lib.bytesWorld_at_new]
    congr 2
    apply Array.ext'
    simp [Lib.bytesCells, bytesOf]
theorem Byt.cell (h : Byt w G K xs) (j : Nat) (hj : j < xs.length) : w.cell? ⟨G, j, none⟩ = some (.int .u8 (xs.getD j 0)) := by
  obtain ⟨pad, h1, h2⟩ := h
  simp [World.cell?, h2, List.getElem?_append, hj]
theorem Byt.frozen (h : Byt w G K xs) (j : Nat) (hj : j < xs.length) : w.frozen? ⟨G, j, none⟩ = false := by
  obtain ⟨pad, h1, h2⟩ := h
  simp [World.frozen?, h2]
  omega
theorem Byt.set (h : Byt w G K xs) (j : Nat) (x : Int) (hj : j < xs.length) : Byt (w.setCell ⟨G, j, none⟩ (.int .u8 x)) G K (xs.set j x) := by
  obtain ⟨pad, h1, h2⟩ := h
  refine ⟨pad, by simpa using h1, ?_⟩
  simp [World.setCell, Array.getElem?_modify, h2, List.set_append, hj, List.map_set]
theorem Byt.reads (h : Byt w G K xs) (hl : xs.length ≤ 9223372036854775807) : (Kd.int .u8).C w (some ⟨G, 0, none⟩) xs.length xs :=
  Kd.C_of_reads (enc := Value.int .u8) (d := (0 : Int)) (h1 := fun _ => rfl) ⟨rfl, hl, fun _ => ⟨_, rfl, fun j hj => by rw [add_plain]; exact h.cell j hj⟩⟩
theorem Byt.str (h : Byt w G K xs) (hl : xs.length ≤ 9223372036854775807) (c : Nat) : (convert 48 9 (.slice (some ⟨G, 0, none⟩) xs.length c)).run Try.prog w = .ok (.string (strOfNums xs)) w :=
  Kd.C_string Try.underlying48 Try.underlying5 Try.underlying9 (h.reads hl)
end
def foldI (c : Int) : Int := if 65 ≤ c ∧ c ≤ 90 then c + 32 else c
def foldS (s : ByteArray) : ByteArray := strOfNums ((bytesOf s).map foldI)
def foldTo (s : ByteArray) (j : Nat) : List Int := ((bytesOf s).take j).map foldI ++ (bytesOf s).drop j
theorem foldTo_len (s : ByteArray) (j : Nat) : (foldTo s j).length = s.size := by
  unfold foldTo
  rw [← bytesOf_length s]
  simp
  omega
theorem foldTo_at (s : ByteArray) (j : Nat) (hj : j < s.size) : (foldTo s j).getD j 0 = bt s (j : Int) := by
  rw [← bt_getD]
  have hl : j < (bytesOf s).length := by rw [bytesOf_length]; exact hj
  unfold foldTo
  simp [List.getD_eq_getElem?_getD, List.getElem?_append, Nat.min_eq_left (Nat.le_of_lt hl)]
theorem foldTo_next (s : ByteArray) (j : Nat) (hj : j < s.size) : foldTo s (j + 1) = (foldTo s j).set j (foldI (bt s (j : Int))) := by
  have hl : j < (bytesOf s).length := by rw [bytesOf_length]; exact hj
  have hb := bt_getD s j
  unfold foldTo
  rw [List.drop_eq_getElem_cons hl, List.take_succ_eq_append_getElem hl, List.map_append, List.map_singleton, List.set_append]
  have hlen : (List.map foldI (List.take j (bytesOf s))).length = j := by simp [Nat.min_eq_left (Nat.le_of_lt hl)]
  rw [if_neg (by omega), hlen, Nat.sub_self, List.set_cons_zero]
  simp [← hb, List.getD_eq_getElem?_getD, hl]
theorem set_same (l : List Int) (j : Nat) (hj : j < l.length) : l.set j (l.getD j 0) = l := by
  rw [List.getD_eq_getElem?_getD, List.getElem?_eq_getElem hj]
  simp
theorem foldTo_zero (s : ByteArray) : foldTo s 0 = bytesOf s := by simp [foldTo]
theorem foldTo_all (s : ByteArray) : foldTo s s.size = (bytesOf s).map foldI := by
  unfold foldTo
  rw [List.take_of_length_le (by rw [bytesOf_length]; omega), List.drop_of_length_le (by rw [bytesOf_length]; omega)]
  simp
set_option maxHeartbeats 4000000 in
set_option maxRecDepth 100000 in
theorem fold_calls (s : ByteArray) (w : World) (hs : s.size ≤ 1000000000000) :
    Calls Try.prog 65 #[.string s] w fun e w' => e = .returned (.string (foldS s)) ∧ Below w.heap.size w w' := by
  have kb := fun W => print_bytes (P := Try.prog) 9 48 5 Try.underlying9 Try.underlying48 Try.underlying5 s W
  go_enter Try.func65, Try.ntmps65
  go_wp2_with fail
  have hB := bytes_below (Below.refl w.heap.size w) (Nat.le_refl _) 5 s
  have hY := Byt.new w s
  rw [← foldTo_zero] at hY
  clear kb
  generalize hC : grownCap w s.size 0 5 = C
  generalize hW : Lib.bytesWorld w 5 s = wB at *
  generalize (Lib.bytesCells w 5 s).size = K at *
  obtain ⟨G, hG⟩ : ∃ G, w.heap.size = G := ⟨_, rfl⟩
  rw [hG] at hY
  simp only [hG]
  have HG := Lib.hid hG
  have HB := Aside0.mk hB
  have HY := Aside0.mk hY
  have HS := Lib.hid hs
  have q3 : (s.size : Int) ≤ 1000000000000 := by omega
  clear hC hW hG hB hY hs
  go_loopg [10] s.size (fun kq v10 w' => ∃ j : Nat, v10 = .int .i64 j ∧ Aside0 (kq + j = s.size) ∧ Aside0 (Byt w' G K (foldTo s j)) ∧ Aside0 (Below w.heap.size w w'))
  case atStart => exact ⟨0, rfl, ⟨rfl⟩, HY, HB⟩
  case round =>
    clear HB HY
    obtain ⟨j, rfl, HK, HY, HB⟩ := hrel
    cases gk with
    | zero =>
      obtain rfl : j = s.size := by have := HK.out; omega
      have hst := HY.out.str (by rw [foldTo_len]; omega) C
      rw [foldTo_len] at hst
      have HT := Lib.hid (show strOfNums (foldTo s s.size) = foldS s by rw [foldTo_all]; rfl)
      go_wp2_with fail
      go_ret
      exact ⟨congrArg (fun x => Ending.returned (.string x)) HT.out, HB.out⟩
    | succ k =>
      have hj : j < s.size := by have := HK.out; omega
      have hx := HY.out.cell j (by rw [foldTo_len]; exact hj)
      rw [foldTo_at s j hj] at hx
      have fx := HY.out.frozen j (by rw [foldTo_len]; exact hj)
      obtain ⟨c0, c1⟩ := bt_range s j
      have HN := Lib.hid (foldTo_next s j hj)
      obtain ⟨c, hc⟩ : ∃ c, bt s (j : Int) = c := ⟨_, rfl⟩
      have hF := foldTo_at s j hj
      rw [hc] at hx c0 c1 HN hF
      have HF := Lib.hid hF
      have q1 : (0 : Int) ≤ (j : Int) := by omega
      have q2 : (j : Int) < (s.size : Int) := by omega
      clear hc hF
      by_cases h : 65 ≤ c ∧ c ≤ 90
      · obtain ⟨h1, h2⟩ := h
        have HY2 := Aside0.mk (show Byt (wr.setCell ⟨G, j, none⟩ (.int .u8 (c + 97 - 65))) G K (foldTo s (j + 1)) by
          rw [HN.out, show foldI c = c + 97 - 65 by unfold foldI; rw [if_pos ⟨h1, h2⟩]; omega]
          exact HY.out.set j _ (by rw [foldTo_len]; exact hj))
        have HB2 := Aside0.mk (HB.out.setCell (p := ⟨G, j, none⟩) (by rw [← HG.out]; exact Nat.le_refl _) (.int .u8 (c + 97 - 65)))
        have d1 : decide (c - 65 < 26) = true := decide_eq_true (by omega)
        go_wp2_with fail
        go_roundg k
        case measure => omega
        case rel => exact ⟨j + 1, by go_num, ⟨by have := HK.out; omega⟩, HY2, HB2⟩
      · have HY2 := Aside0.mk (show Byt wr G K (foldTo s (j + 1)) by
          rw [HN.out, show foldI c = c by unfold foldI; rw [if_neg h]]
          rw [← HF.out, set_same _ _ (by rw [foldTo_len]; exact hj)]
          exact HY.out)
        have hm : IntKind.u8.wrap (c - 65) = (c - 65) % 256 := by simp [IntKind.wrap, IntKind.bits, IntKind.signed]
        have d1 : decide ((c - 65) % 256 < 26) = false := decide_eq_false (by omega)
        go_wp2_with fail
        go_roundg k
        case measure => omega
        case rel => exact ⟨j + 1, by go_num, ⟨by have := HK.out; omega⟩, HY2, HB⟩
end Go.Proofs.Ytfoflodgegehfaa.M
set_option linter.unusedVariables false
set_option linter.unusedSimpArgs false
namespace Go.Proofs.Ytfoflodgegehfaa.M
open Go.RowKit Go.Proofs.YtfoflodgegehfaaW.PrintWords Go.Proofs.YtfoflodgegehfaaW.PrintLast Go.Proofs.YtfoflodgegehfaaW.PrintMore
attribute [local go_sem] max2_int min2_int max_two min_two max_three min_three max_four min_four
def partF (s : ByteArray) (at' sz : Int) : Option ByteArray := if at' < 0 ∨ sz < 0 ∨ s.size < at' ∨ s.size - at' < sz then none else some (s.extract at'.toNat (at' + sz).toNat)
def partE : Option ByteArray → Ending
  | none => .returned (.tuple #[.string ⟨#[]⟩, .bool false])
  | some t => .returned (.tuple #[.string t, .bool true])
set_option maxHeartbeats 2000000 in
set_option maxRecDepth 100000 in
theorem part_calls (s : ByteArray) (a n : Int) (w : World) (hs : s.size ≤ 1000000000000) :
    Calls Try.prog 77 #[.string s, .int .i64 a, .int .i64 n] w fun e w' => e = partE (partF s a n) ∧ Below w.heap.size w w' := by
  have hb := Below.refl w.heap.size w
  obtain ⟨R, hR⟩ : ∃ R, partF s a n = R := ⟨_, rfl⟩
  rw [hR]
  unfold partF at hR
  by_cases h1 : a < 0
  · rw [if_pos (.inl h1)] at hR
    subst hR
    have d1 : decide (a < 0) = true := decide_eq_true h1
    go_enter Try.func77, Try.ntmps77
    go_wp2
    go_ret2
    exact ⟨rfl, hb⟩
  have d1 : decide (a < 0) = false := decide_eq_false h1
  by_cases h2 : n < 0
  · rw [if_pos (.inr (.inl h2))] at hR
    subst hR
    have d2 : decide (n < 0) = true := decide_eq_true h2
    clear h1
    go_enter Try.func77, Try.ntmps77
    go_wp2
    go_ret2
    exact ⟨rfl, hb⟩
  have d2 : decide (n < 0) = false := decide_eq_false h2
  by_cases h3 : (s.size : Int) < a
  · rw [if_pos (.inr (.inr (.inl h3)))] at hR
    subst hR
    have d3 : decide ((s.size : Int) < a) = true := decide_eq_true h3
    clear h1 h2
    go_enter Try.func77, Try.ntmps77
    go_wp2
    go_ret2
    exact ⟨rfl, hb⟩
  have d3 : decide ((s.size : Int) < a) = false := decide_eq_false h3
  have q1 : 0 ≤ a := by omega
  have q2 : a ≤ (s.size : Int) := by omega
  have q3 : (s.size : Int) ≤ 1000000000000 := by omega
  by_cases h4 : (s.size : Int) - a < n
  · rw [if_pos (.inr (.inr (.inr h4)))] at hR
    subst hR
    have d4 : decide ((s.size : Int) - a < n) = true := decide_eq_true h4
    clear h1 h2 h3
    go_enter Try.func77, Try.ntmps77
    go_wp2
    go_ret2
    exact ⟨rfl, hb⟩
  have d4 : decide ((s.size : Int) - a < n) = false := decide_eq_false h4
  rw [if_neg (by omega)] at hR
  subst hR
  have q4 : a + n ≤ (s.size : Int) := by omega
  have q5 : a ≤ a + n := by omega
  have q6 : 0 ≤ a + n := by omega
  clear h1 h2 h3 h4
  go_enter Try.func77, Try.ntmps77
  go_wp2
  go_ret2
  exact ⟨rfl, hb⟩
def valF : Int → List Int → Int
  | n, [] => n
  | n, c :: l => valF (n * 256 + c) l
def getF (s : ByteArray) (a n : Int) : Option Int := if n < 1 ∨ 8 < n then none else (partF s a n).map fun t => valF 0 (bytesOf t)
def getE : Option Int → Ending
  | none => .returned (.tuple #[.int .u64 0, .bool false])
  | some n => .returned (.tuple #[.int .u64 n, .bool true])
theorem part_size {s t : ByteArray} {a n : Int} (h : partF s a n = some t) : (t.size : Int) = n ∧ 0 ≤ n ∧ 0 ≤ a ∧ a + n ≤ s.size ∧ t = s.extract a.toNat (a + n).toNat := by
  unfold partF at h
  by_cases hc : a < 0 ∨ n < 0 ∨ s.size < a ∨ s.size - a < n
  · rw [if_pos hc] at h
    exact absurd h (by simp)
  · rw [if_neg hc] at h
    obtain rfl := Option.some.inj h
    refine ⟨?_, by omega, by omega, by omega, rfl⟩
    rw [ByteArray.size_extract]
    omega
theorem or_eight (n c : Int) (h0 : 0 ≤ n) (h1 : n < 72057594037927936) (c0 : 0 ≤ c) (c1 : c < 256) : bits .or .u64 (n * 256) c = n * 256 + c := by
  obtain ⟨m, rfl⟩ := Int.eq_ofNat_of_zero_le h0
  obtain ⟨d, rfl⟩ := Int.eq_ofNat_of_zero_le c0
  have hk : ∀ n : Int, 0 ≤ n → n < 2 ^ 64 → IntKind.u64.wrap n = n := by
    intro n h0 h1
    simp [IntKind.wrap, IntKind.bits, IntKind.signed]
    omega
  have h := (bits_nat .u64 64 (by decide) hk (m * 256) d (by omega) (by omega)).2
  rw [show ((m * 256 : Nat) : Int) = (m : Int) * 256 by omega] at h
  rw [h, show m * 256 = 2 ^ 8 * m by omega, ← Nat.two_pow_add_eq_or_of_lt (by omega) m]
  omega
set_option maxHeartbeats 2000000 in
set_option maxRecDepth 100000 in
theorem get_calls (s : ByteArray) (a n : Int) (w : World) (hs : s.size ≤ 1000000000000) :
    Calls Try.prog 61 #[.string s, .int .i64 a, .int .i64 n] w fun e w' => e = getE (getF s a n) ∧ Below w.heap.size w w' := by
  obtain ⟨R, hR⟩ : ∃ R, getF s a n = R := ⟨_, rfl⟩
  rw [hR]
  unfold getF at hR
  cases hp : partF s a n with
  | none =>
    have hn : R = none := by
      rw [← hR, hp]
      split <;> rfl
    subst hn
    have HP := Lib.hid hp
    clear hR hp
    go_enter Try.func61, Try.ntmps61
    go_wp2_with fail
    refine (part_calls s a n _ hs).mono ?_
    rw [HP.out]
    rintro e w1 ⟨rfl, hb⟩
    have HB := Aside0.mk hb
    clear hb
    simp only [partE]
    go_wp2_with fail
    go_ret2
    exact ⟨rfl, HB.out⟩
  | some t =>
    have HP := Lib.hid hp
    obtain ⟨hz, n0, a0, an, -⟩ := part_size hp
    by_cases h1 : n < 1
    · rw [if_pos (.inl h1)] at hR
      subst hR
      have d1 : decide (n < 1) = true := decide_eq_true h1
      clear hp h1
      go_enter Try.func61, Try.ntmps61
      go_wp2_with fail
      refine (part_calls s a n _ hs).mono ?_
      rw [HP.out]
      rintro e w1 ⟨rfl, hb⟩
      have HB := Aside0.mk hb
      clear hb
      simp only [partE]
      go_wp2_with fail
      go_ret2
      exact ⟨rfl, HB.out⟩
    have d1 : decide (n < 1) = false := decide_eq_false h1
    by_cases h2 : 8 < n
    · rw [if_pos (.inr h2)] at hR
      subst hR
      have d2 : decide (8 < n) = true := decide_eq_true h2
      clear hp h1 h2
      go_enter Try.func61, Try.ntmps61
      go_wp2_with fail
      refine (part_calls s a n _ hs).mono ?_
      rw [HP.out]
      rintro e w1 ⟨rfl, hb⟩
      have HB := Aside0.mk hb
      clear hb
      simp only [partE]
      go_wp2_with fail
      go_ret2
      exact ⟨rfl, HB.out⟩
    have d2 : decide (8 < n) = false := decide_eq_false h2
    rw [if_neg (by omega), hp] at hR
    have HR := Lib.hid hR
    have ht : t.size ≤ 8 := by omega
    clear hz
    have kb := fun W => print_bytes (P := Try.prog) 9 48 5 Try.underlying9 Try.underlying48 Try.underlying5 t W
    clear hp h1 h2 hR
    go_enter Try.func61, Try.ntmps61
    go_wp2_with fail
    refine (part_calls s a n _ hs).mono ?_
    rw [HP.out]
    rintro e w1 ⟨rfl, hb⟩
    have HB := Aside0.mk hb
    clear hb
    simp only [partE]
    go_wp2_with fail
    have hbb := bytes_below HB.out HB.out.size 5 t
    have hcells := mine_bytes_cells w1 5 t
    have hsz : w1.heap.size < (Lib.bytesWorld w1 5 t).heap.size := by rw [Lib.bytesWorld_size]; omega
    clear HB kb
    generalize hC : grownCap w1 t.size 0 5 = C
    generalize hW : Lib.bytesWorld w1 5 t = wB at *
    generalize hG : w1.heap.size = G at *
    have HB := Aside0.mk hbb
    have HE := Aside0.mk hcells
    have HT := Aside0.mk ht
    clear hC hW hG hbb hcells hsz
    go_loopg [10, 33] t.size (fun kq v10 v33 w' => ∃ (j : Nat) (m : Int), v10 = .int .u64 m ∧ v33 = .int .i64 j ∧ Aside0 (kq + j = t.size) ∧ Aside0 (valF 0 (bytesOf t) = valF m ((bytesOf t).drop j)) ∧ Aside0 (0 ≤ m ∧ m < 256 ^ j) ∧ Aside0 (w'.heap[G]? = wB.heap[G]?) ∧ Aside0 (Below w.heap.size w w'))
    case atStart => exact ⟨0, 0, rfl, rfl, ⟨by omega⟩, ⟨rfl⟩, ⟨by omega, by decide⟩, ⟨rfl⟩, HB⟩
    case round =>
      clear HB
      obtain ⟨j, m, rfl, rfl, HK, HV, HM, HBk, HB⟩ := hrel
      by_cases hj : j < t.size
      · have hx := (World.cell?_of_block (w := wB) (a := ⟨G, j, none⟩) HBk.out).trans (HE.out j hj)
        obtain ⟨c0, c1⟩ := bt_range t j
        have HD := Lib.hid (drop_bytes t j hj)
        obtain ⟨c, hc⟩ : ∃ c, bt t (j : Int) = c := ⟨_, rfl⟩
        rw [hc] at hx c0 c1 HD
        have hm0 := HM.out.1
        have hpow : (256 : Int) ^ j ≤ 256 ^ 7 := by
          have : (256 : Nat) ^ j ≤ 256 ^ 7 := Nat.pow_le_pow_right (by decide) (by have := HT.out; omega)
          exact_mod_cast this
        have hm1 : m < 72057594037927936 := by have := HM.out.2; omega
        have hor := or_eight m c hm0 hm1 c0 c1
        have hsh : IntKind.u64.wrap (m * 256) = m * 256 := by
          simp [IntKind.wrap, IntKind.bits, IntKind.signed]
          omega
        have q1 : (0 : Int) ≤ (j : Int) := by omega
        have q2 : (j : Int) < (t.size : Int) := by omega
        have q3 : (t.size : Int) ≤ 8 := by omega
        clear hc hpow
        go_wp2_with fail
        go_roundg (t.size - (j + 1))
        case measure => have := HK.out; omega
        case rel =>
          refine ⟨j + 1, m * 256 + c, ?_, by go_num, ⟨by omega⟩, ⟨by rw [HV.out, HD.out]; rfl⟩, ⟨by omega, ?_⟩, HBk, HB⟩
          · first | rfl | (rw [hor]; done) | skip
          · have := HM.out.2
            rw [Int.pow_succ]
            omega
      · obtain rfl : j = t.size := by have := HK.out; omega
        have HF := Lib.hid (show valF 0 (bytesOf t) = m by rw [HV.out, List.drop_of_length_le (by rw [bytesOf_length]; omega)]; rfl)
        go_wp2_with fail
        go_ret2
        exact ⟨by rw [← HR.out, Option.map_some, HF.out]; rfl, HB.out⟩
theorem get_no {s : ByteArray} {a n : Int} (h : getF s a n = none) (w : World) (hs : s.size ≤ 1000000000000) :
    Calls Try.prog 61 #[.string s, .int .i64 a, .int .i64 n] w fun e w' => e = .returned (.tuple #[.int .u64 0, .bool false]) ∧ Below w.heap.size w w' :=
  (get_calls s a n w hs).mono fun e w' ⟨h1, h2⟩ => ⟨by rw [h1, h]; rfl, h2⟩
theorem get_yes {s : ByteArray} {a n m : Int} (h : getF s a n = some m) (w : World) (hs : s.size ≤ 1000000000000) :
    Calls Try.prog 61 #[.string s, .int .i64 a, .int .i64 n] w fun e w' => e = .returned (.tuple #[.int .u64 m, .bool true]) ∧ Below w.heap.size w w' :=
  (get_calls s a n w hs).mono fun e w' ⟨h1, h2⟩ => ⟨by rw [h1, h]; rfl, h2⟩
theorem part_no {s : ByteArray} {a n : Int} (h : partF s a n = none) (w : World) (hs : s.size ≤ 1000000000000) :
    Calls Try.prog 77 #[.string s, .int .i64 a, .int .i64 n] w fun e w' => e = .returned (.tuple #[.string ⟨#[]⟩, .bool false]) ∧ Below w.heap.size w w' :=
  (part_calls s a n w hs).mono fun e w' ⟨h1, h2⟩ => ⟨by rw [h1, h]; rfl, h2⟩
theorem part_yes {s t : ByteArray} {a n : Int} (h : partF s a n = some t) (w : World) (hs : s.size ≤ 1000000000000) :
    Calls Try.prog 77 #[.string s, .int .i64 a, .int .i64 n] w fun e w' => e = .returned (.tuple #[.string t, .bool true]) ∧ Below w.heap.size w w' :=
  (part_calls s a n w hs).mono fun e w' ⟨h1, h2⟩ => ⟨by rw [h1, h]; rfl, h2⟩
end Go.Proofs.Ytfoflodgegehfaa.M
set_option linter.unusedVariables false
set_option linter.unusedSimpArgs false
namespace Go.Proofs.Ytfoflodgegehfaa.M
open Go.RowKit Go.Maps Go.Proofs.YtfoflodgegehfaaW.PrintWords Go.Proofs.YtfoflodgegehfaaW.PrintLast Go.Proofs.YtfoflodgegehfaaW.PrintMore
attribute [local go_sem] max2_int min2_int max_two min_two max_three min_three max_four min_four
attribute [local go_sem ↓] Go.wp_at_zero Go.wp_at_succ
structure Only (g : Nat) (w w' : World) : Prop where
  os : w'.os = w.os
  tape : w'.tape = w.tape
  output : w'.output = w.output
  size : w.heap.size ≤ w'.heap.size
  block : ∀ k, k < w.heap.size → k ≠ g → w'.heap[k]? = w.heap[k]?
section
variable {w w1 w2 : World} {g B : Nat}
theorem Only.refl (g : Nat) (w : World) : Only g w w := ⟨rfl, rfl, rfl, Nat.le_refl _, fun _ _ _ => rfl⟩
theorem Only.trans (h : Only g w w1) (h2 : Only g w1 w2) : Only g w w2 :=
  ⟨h2.os.trans h.os, h2.tape.trans h.tape, h2.output.trans h.output, Nat.le_trans h.size h2.size, fun k hk hg => (h2.block k (Nat.lt_of_lt_of_le hk h.size) hg).trans (h.block k hk hg)⟩
theorem Only.of_below (h : Below w.heap.size w w1) (g : Nat) : Only g w w1 := ⟨h.os, h.tape, h.output, h.size, fun k hk _ => h.block k hk⟩
theorem Only.drew (h : Only g w w1) : Only g w w1.drew := ⟨h.os, h.tape, h.output, h.size, h.block⟩
theorem Only.set (h : Only g w w1) (j : Nat) (v : Value) : Only g w (w1.setCell ⟨g, j, none⟩ v) :=
  ⟨h.os, h.tape, h.output, by simpa using h.size, fun k hk hg => (Below.heap_setCell w1 _ v k hg).trans (h.block k hk hg)⟩
theorem Only.below (h : Only g w w1) (hb : Below B w2 w) (hB : B ≤ w.heap.size) (hg : B ≤ g) : Below B w2 w1 :=
  ⟨h.os.trans hb.os, h.tape.trans hb.tape, h.output.trans hb.output, Nat.le_trans hb.size h.size, fun k hk => (h.block k (by omega) (by omega)).trans (hb.block k hk)⟩
theorem Only.at_ {k : Nat} {o : Obj} (h : Only g w w1) (hk : w.heap[k]? = some o) (hg : k ≠ g) : w1.heap[k]? = some o := by
  obtain ⟨hl, _⟩ := Array.getElem?_eq_some_iff.1 hk
  exact (h.block k hl hg).trans hk
end
theorem Only.grown {w w1 : World} {g : Nat} (h : Only g w w1) : w.grownBy w1 (some g) := ⟨h.os, h.tape, h.output, h.size, fun k hk hg => h.block k hk (fun e => hg (congrArg some e))⟩
theorem Only.of_grown {w w1 w2 : World} {g : Nat} {row : Option Nat} (h : Only g w w1) (hg : w1.grownBy w2 row) (hr : ∀ k, row = some k → w.heap.size ≤ k) : Only g w w2 :=
  ⟨hg.os.trans h.os, hg.tape.trans h.tape, hg.output.trans h.output, Nat.le_trans h.size hg.size, fun k hk hk2 => (hg.block k (Nat.lt_of_lt_of_le hk h.size) (fun e => by have := hr k e.symm; omega)).trans (h.block k hk hk2)⟩
def RAt (w : World) (g : Nat) (s : ByteArray) (a : Int) : Prop := w.heap[g]? = some (.cells #[.string s, .int .i64 a] 68 (0, 0))
theorem RAt.c0 {w : World} {g : Nat} {s : ByteArray} {a : Int} (h : RAt w g s a) : w.cell? ⟨g, 0, none⟩ = some (.string s) := (blk_cell h 0).trans rfl
theorem RAt.c1 {w : World} {g : Nat} {s : ByteArray} {a : Int} (h : RAt w g s a) : w.cell? ⟨g, 1, none⟩ = some (.int .i64 a) := (blk_cell h 1).trans rfl
theorem RAt.below {w w1 : World} {g : Nat} {s : ByteArray} {a : Int} (h : RAt w g s a) (hb : Below w.heap.size w w1) : RAt w1 g s a := blk_below h hb
theorem RAt.set {w : World} {g : Nat} {s : ByteArray} {a : Int} (h : RAt w g s a) (b : Int) : RAt (w.setCell ⟨g, 1, none⟩ (.int .i64 b)) g s b := by
  unfold RAt
  rw [blk_set h 1 _]
  rfl
theorem R_only {α : Type} {d : Kd α} {e base : Nat} {ok : Nat → Prop} {w w1 : World} {v : Value} {xs : List α} {g : Nat} {s : ByteArray} {a : Int} (h : d.R e w base ok v xs) (hr : RAt w g s a) (ht : ∀ q, q ∈ e :: d.E → q ≠ 68) (ho : Only g w w1) : d.R e w1 base ok v xs :=
  Kd.R_drop (Kd.R_grown (Kd.R_types h hr ht) ho.grown (fun k hk e => hk.2 (Option.some.inj e)))
theorem RAt.over {w w1 : World} {g base : Nat} {s : ByteArray} {a : Int} {ok : Nat → Prop} {v : Value} {xs : List Int} (h : RAt w g s a) (ho : B8 w base ok v xs) (hg : w.grownBy w1 v.ownBlock) : RAt w1 g s a := blk_grown h hg (Kd.R_ne ho h (by decide))
abbrev gaveUp (c : Int) : Ending := .panicked [{ v := .iface 42 (.int .i64 c), recovered := false }]
theorem get_part {s : ByteArray} {a n m : Int} (h : getF s a n = some m) : ∃ t, partF s a n = some t ∧ m = valF 0 (bytesOf t) ∧ 1 ≤ n ∧ n ≤ 8 := by
  unfold getF at h
  by_cases hc : n < 1 ∨ 8 < n
  · rw [if_pos hc] at h
    exact absurd h (by simp)
  · rw [if_neg hc] at h
    obtain ⟨t, h1, h2⟩ := Option.map_eq_some_iff.1 h
    exact ⟨t, h1, h2.symm, by omega, by omega⟩
theorem get_at {s : ByteArray} {a n m : Int} (h : getF s a n = some m) : 0 ≤ a ∧ 0 ≤ n ∧ a + n ≤ s.size := by
  obtain ⟨t, h1, _⟩ := get_part h
  obtain ⟨_, h2, h3, h4, _⟩ := part_size h1
  exact ⟨h3, h2, h4⟩
theorem part_at {s t : ByteArray} {a n : Int} (h : partF s a n = some t) : 0 ≤ a ∧ 0 ≤ n ∧ a + n ≤ s.size := by
  obtain ⟨_, h2, h3, h4, _⟩ := part_size h
  exact ⟨h3, h2, h4⟩
set_option maxHeartbeats 2000000 in
set_option maxRecDepth 100000 in
theorem num_no {w : World} {g : Nat} {s : ByteArray} {a n : Int} (h : RAt w g s a) (hs : s.size ≤ 1000000) (hp : getF s a n = none) :
    Calls Try.prog 47 #[.pointer (some ⟨g, 0, none⟩), .int .i64 n] w fun e w' => e = gaveUp 2 ∧ Only g w w' := by
  have HP := Lib.hid hp
  clear hp
  obtain ⟨HR, HO⟩ : Aside0 (RAt w g s a) ∧ Aside0 (Only g w w) := ⟨⟨h⟩, ⟨Only.refl g w⟩⟩
  have z0 := h.c0
  have z1 := h.c1
  clear h
  go_enter Try.func47, Try.ntmps47
  go_wp2_with fail
  refine start_ (n := 15) (S := fun w' => w'.cell? ⟨g, 0, none⟩ = some (.string s) ∧ w'.cell? ⟨g, 1, none⟩ = some (.int .i64 a)) (ds := []) (Array.replicate 15 false) (by kernel_rfl) (by kernel_rfl) rfl ⟨z0, z1⟩ (fun hS => ?_)
  refine dpure 0 (some 8) rfl rfl (by kernel_rfl) (fun _ _ _ h => h) (by rfl) (v := ?_) (a' := ?_) ?_ ?_ ?_
  rotate_left 2
  · intro w'; go_simp; with_reducible rfl
  · simp only [Act.put, List.setIfInBounds_toArray, List.set_cons_zero, List.set_cons_succ]; rfl
  refine dpure 1 (some 9) rfl rfl (by kernel_rfl) (fun _ _ _ h => h) (by rfl) (v := ?_) (a' := ?_) ?_ ?_ ?_
  rotate_left 2
  · intro w'; go_simp; with_reducible rfl
  · simp only [Act.put, List.setIfInBounds_toArray, List.set_cons_zero, List.set_cons_succ]; rfl
  refine dpure 2 (some 10) rfl rfl (by kernel_rfl) (fun _ _ _ h => h) (by rfl) (v := ?_) (a' := ?_) ?_ ?_ ?_
  rotate_left 2
  · intro w'; go_simp; with_reducible rfl
  · simp only [Act.put, List.setIfInBounds_toArray, List.set_cons_zero, List.set_cons_succ]; rfl
  refine dtake 3 (some 11) rfl rfl (by kernel_rfl) (fun _ _ _ h => h) (by rfl) hS (v := ?_) (a' := ?_) ?_ ?_ ?_
  rotate_left 2
  · rintro w' ⟨s0,s1⟩; go_simp; with_reducible rfl
  · simp only [Act.put, List.setIfInBounds_toArray, List.set_cons_zero, List.set_cons_succ]; rfl
  refine dpure 4 (some 12) rfl rfl (by kernel_rfl) (fun _ _ _ h => h) (by rfl) (v := ?_) (a' := ?_) ?_ ?_ ?_
  rotate_left 2
  · intro w'; go_simp; with_reducible rfl
  · simp only [Act.put, List.setIfInBounds_toArray, List.set_cons_zero, List.set_cons_succ]; rfl
  refine dpure 5 (some 13) rfl rfl (by kernel_rfl) (fun _ _ _ h => h) (by rfl) (v := ?_) (a' := ?_) ?_ ?_ ?_
  rotate_left 2
  · intro w'; go_simp; with_reducible rfl
  · simp only [Act.put, List.setIfInBounds_toArray, List.set_cons_zero, List.set_cons_succ]; rfl
  refine dpure 6 (some 14) rfl rfl (by kernel_rfl) (fun _ _ _ h => h) (by rfl) (v := ?_) (a' := ?_) ?_ ?_ ?_
  rotate_left 2
  · intro w'; go_simp; with_reducible rfl
  · simp only [Act.put, List.setIfInBounds_toArray, List.set_cons_zero, List.set_cons_succ]; rfl
  refine dtake 7 (some 15) rfl rfl (by kernel_rfl) (fun _ _ _ h => h) (by rfl) hS (v := ?_) (a' := ?_) ?_ ?_ ?_
  rotate_left 2
  · rintro w' ⟨s0,s1⟩; go_simp; with_reducible rfl
  · simp only [Act.put, List.setIfInBounds_toArray, List.set_cons_zero, List.set_cons_succ]; rfl
  refine dpure 8 (some 16) rfl rfl (by kernel_rfl) (fun _ _ _ h => h) (by rfl) (v := ?_) (a' := ?_) ?_ ?_ ?_
  rotate_left 2
  · intro w'; go_simp; with_reducible rfl
  · simp only [Act.put, List.setIfInBounds_toArray, List.set_cons_zero, List.set_cons_succ]; rfl
  refine done1 9 (some 17) rfl rfl (by kernel_rfl) (by decide) (fun K hK => ?_)
  refine goes_ Try.func61 (by kernel_rfl) rfl #[.string s, .int .i64 a, .int .i64 n] (by rfl) rfl rfl (by kernel_rfl) ?_
  refine (get_no HP.out _ (by omega)).mono ?_
  rintro e w2 ⟨rfl, hb⟩
  refine ⟨_, rfl, ?_⟩
  have HR2 := RAt.below (w := w.drew) HR.out hb
  have HO2 := Aside0.mk (HO.out.drew.trans (Only.of_below hb g))
  clear z0 z1 hb
  refine hK.out _ _ ⟨HR2.c0, HR2.c1⟩ (fun hS => ?_)
  clear hK K
  refine norm_ (a' := ?_) ?_ ?_
  rotate_left
  · simp only [Act.put, List.setIfInBounds_toArray, List.set_cons_zero, List.set_cons_succ]; rfl
  refine dpure 10 (some 7) rfl rfl (by kernel_rfl) (fun _ _ _ h => h) (by rfl) (v := ?_) (a' := ?_) ?_ ?_ ?_
  rotate_left 2
  · intro w'; go_simp; with_reducible rfl
  · simp only [Act.put, List.setIfInBounds_toArray, List.set_cons_zero, List.set_cons_succ]; rfl
  refine dpure 11 (some 18) rfl rfl (by kernel_rfl) (fun _ _ _ h => h) (by rfl) (v := ?_) (a' := ?_) ?_ ?_ ?_
  rotate_left 2
  · intro w'; go_simp; with_reducible rfl
  · simp only [Act.put, List.setIfInBounds_toArray, List.set_cons_zero, List.set_cons_succ]; rfl
  refine dpure 12 (some 19) rfl rfl (by kernel_rfl) (fun _ _ _ h => h) (by rfl) (v := ?_) (a' := ?_) ?_ ?_ ?_
  rotate_left 2
  · intro w'; go_simp; with_reducible rfl
  · simp only [Act.put, List.setIfInBounds_toArray, List.set_cons_zero, List.set_cons_succ]; rfl
  refine dpure 13 (some 5) rfl rfl (by kernel_rfl) (fun _ _ _ h => h) (by rfl) (v := ?_) (a' := ?_) ?_ ?_ ?_
  rotate_left 2
  · intro w'; go_simp; with_reducible rfl
  · simp only [Act.put, List.setIfInBounds_toArray, List.set_cons_zero, List.set_cons_succ]; rfl
  refine dpure 14 (some 6) rfl rfl (by kernel_rfl) (fun _ _ _ h => h) (by rfl) (v := ?_) (a' := ?_) ?_ ?_ ?_
  rotate_left 2
  · intro w'; go_simp; with_reducible rfl
  · simp only [Act.put, List.setIfInBounds_toArray, List.set_cons_zero, List.set_cons_succ]; rfl
  refine done_ (by kernel_rfl) ?_
  have z0 := HR2.c0
  have z1 := HR2.c1
  go_wp2_with fail
  exact ⟨rfl, rfl, HO2.out⟩
set_option maxHeartbeats 2000000 in
set_option maxRecDepth 100000 in
theorem num_yes {w : World} {g : Nat} {s : ByteArray} {a n : Int} {t : Int} (h : RAt w g s a) (hs : s.size ≤ 1000000) (hp : getF s a n = some t) :
    Calls Try.prog 47 #[.pointer (some ⟨g, 0, none⟩), .int .i64 n] w fun e w' => e = .returned (.int .u64 t) ∧ RAt w' g s (a + n) ∧ Only g w w' := by
  have HP := Lib.hid hp
  obtain ⟨a0, n0, an⟩ := get_at hp
  have q1 : a + n ≤ 1000000 := by omega
  have q2 : 0 ≤ a + n := by omega
  clear hp
  obtain ⟨HR, HO⟩ : Aside0 (RAt w g s a) ∧ Aside0 (Only g w w) := ⟨⟨h⟩, ⟨Only.refl g w⟩⟩
  have z0 := h.c0
  have z1 := h.c1
  clear h
  go_enter Try.func47, Try.ntmps47
  go_wp2_with fail
  refine start_ (n := 15) (S := fun w' => w'.cell? ⟨g, 0, none⟩ = some (.string s) ∧ w'.cell? ⟨g, 1, none⟩ = some (.int .i64 a)) (ds := []) (Array.replicate 15 false) (by kernel_rfl) (by kernel_rfl) rfl ⟨z0, z1⟩ (fun hS => ?_)
  refine dpure 0 (some 8) rfl rfl (by kernel_rfl) (fun _ _ _ h => h) (by rfl) (v := ?_) (a' := ?_) ?_ ?_ ?_
  rotate_left 2
  · intro w'; go_simp; with_reducible rfl
  · simp only [Act.put, List.setIfInBounds_toArray, List.set_cons_zero, List.set_cons_succ]; rfl
  refine dpure 1 (some 9) rfl rfl (by kernel_rfl) (fun _ _ _ h => h) (by rfl) (v := ?_) (a' := ?_) ?_ ?_ ?_
  rotate_left 2
  · intro w'; go_simp; with_reducible rfl
  · simp only [Act.put, List.setIfInBounds_toArray, List.set_cons_zero, List.set_cons_succ]; rfl
  refine dpure 2 (some 10) rfl rfl (by kernel_rfl) (fun _ _ _ h => h) (by rfl) (v := ?_) (a' := ?_) ?_ ?_ ?_
  rotate_left 2
  · intro w'; go_simp; with_reducible rfl
  · simp only [Act.put, List.setIfInBounds_toArray, List.set_cons_zero, List.set_cons_succ]; rfl
  refine dtake 3 (some 11) rfl rfl (by kernel_rfl) (fun _ _ _ h => h) (by rfl) hS (v := ?_) (a' := ?_) ?_ ?_ ?_
  rotate_left 2
  · rintro w' ⟨s0,s1⟩; go_simp; with_reducible rfl
  · simp only [Act.put, List.setIfInBounds_toArray, List.set_cons_zero, List.set_cons_succ]; rfl
  refine dpure 4 (some 12) rfl rfl (by kernel_rfl) (fun _ _ _ h => h) (by rfl) (v := ?_) (a' := ?_) ?_ ?_ ?_
  rotate_left 2
  · intro w'; go_simp; with_reducible rfl
  · simp only [Act.put, List.setIfInBounds_toArray, List.set_cons_zero, List.set_cons_succ]; rfl
  refine dpure 5 (some 13) rfl rfl (by kernel_rfl) (fun _ _ _ h => h) (by rfl) (v := ?_) (a' := ?_) ?_ ?_ ?_
  rotate_left 2
  · intro w'; go_simp; with_reducible rfl
  · simp only [Act.put, List.setIfInBounds_toArray, List.set_cons_zero, List.set_cons_succ]; rfl
  refine dpure 6 (some 14) rfl rfl (by kernel_rfl) (fun _ _ _ h => h) (by rfl) (v := ?_) (a' := ?_) ?_ ?_ ?_
  rotate_left 2
  · intro w'; go_simp; with_reducible rfl
  · simp only [Act.put, List.setIfInBounds_toArray, List.set_cons_zero, List.set_cons_succ]; rfl
  refine dtake 7 (some 15) rfl rfl (by kernel_rfl) (fun _ _ _ h => h) (by rfl) hS (v := ?_) (a' := ?_) ?_ ?_ ?_
  rotate_left 2
  · rintro w' ⟨s0,s1⟩; go_simp; with_reducible rfl
  · simp only [Act.put, List.setIfInBounds_toArray, List.set_cons_zero, List.set_cons_succ]; rfl
  refine dpure 8 (some 16) rfl rfl (by kernel_rfl) (fun _ _ _ h => h) (by rfl) (v := ?_) (a' := ?_) ?_ ?_ ?_
  rotate_left 2
  · intro w'; go_simp; with_reducible rfl
  · simp only [Act.put, List.setIfInBounds_toArray, List.set_cons_zero, List.set_cons_succ]; rfl
  refine done1 9 (some 17) rfl rfl (by kernel_rfl) (by decide) (fun K hK => ?_)
  refine goes_ Try.func61 (by kernel_rfl) rfl #[.string s, .int .i64 a, .int .i64 n] (by rfl) rfl rfl (by kernel_rfl) ?_
  refine (get_yes HP.out _ (by omega)).mono ?_
  rintro e w2 ⟨rfl, hb⟩
  refine ⟨_, rfl, ?_⟩
  have HR2 := RAt.below (w := w.drew) HR.out hb
  have HO2 := Aside0.mk (HO.out.drew.trans (Only.of_below hb g))
  clear z0 z1 hb
  refine hK.out _ _ ⟨HR2.c0, HR2.c1⟩ (fun hS => ?_)
  clear hK K
  refine norm_ (a' := ?_) ?_ ?_
  rotate_left
  · simp only [Act.put, List.setIfInBounds_toArray, List.set_cons_zero, List.set_cons_succ]; rfl
  refine dpure 10 (some 7) rfl rfl (by kernel_rfl) (fun _ _ _ h => h) (by rfl) (v := ?_) (a' := ?_) ?_ ?_ ?_
  rotate_left 2
  · intro w'; go_simp; with_reducible rfl
  · simp only [Act.put, List.setIfInBounds_toArray, List.set_cons_zero, List.set_cons_succ]; rfl
  refine dpure 11 (some 18) rfl rfl (by kernel_rfl) (fun _ _ _ h => h) (by rfl) (v := ?_) (a' := ?_) ?_ ?_ ?_
  rotate_left 2
  · intro w'; go_simp; with_reducible rfl
  · simp only [Act.put, List.setIfInBounds_toArray, List.set_cons_zero, List.set_cons_succ]; rfl
  refine dpure 12 (some 19) rfl rfl (by kernel_rfl) (fun _ _ _ h => h) (by rfl) (v := ?_) (a' := ?_) ?_ ?_ ?_
  rotate_left 2
  · intro w'; go_simp; with_reducible rfl
  · simp only [Act.put, List.setIfInBounds_toArray, List.set_cons_zero, List.set_cons_succ]; rfl
  refine dpure 13 (some 5) rfl rfl (by kernel_rfl) (fun _ _ _ h => h) (by rfl) (v := ?_) (a' := ?_) ?_ ?_ ?_
  rotate_left 2
  · intro w'; go_simp; with_reducible rfl
  · simp only [Act.put, List.setIfInBounds_toArray, List.set_cons_zero, List.set_cons_succ]; rfl
  refine dpure 14 (some 6) rfl rfl (by kernel_rfl) (fun _ _ _ h => h) (by rfl) (v := ?_) (a' := ?_) ?_ ?_ ?_
  rotate_left 2
  · intro w'; go_simp; with_reducible rfl
  · simp only [Act.put, List.setIfInBounds_toArray, List.set_cons_zero, List.set_cons_succ]; rfl
  refine done_ (by kernel_rfl) ?_
  have z0 := HR2.c0
  have z1 := HR2.c1
  have f1 : w2.frozen? ⟨g, 1, none⟩ = false := blk_frozen HR2 1
  go_wp2_with fail
  go_ret
  exact ⟨rfl, HR2.set _, HO2.out.set 1 _⟩
set_option maxHeartbeats 2000000 in
set_option maxRecDepth 100000 in
theorem text_no {w : World} {g : Nat} {s : ByteArray} {a n : Int} (h : RAt w g s a) (hs : s.size ≤ 1000000) (hp : partF s a n = none) :
    Calls Try.prog 78 #[.pointer (some ⟨g, 0, none⟩), .int .i64 n] w fun e w' => e = gaveUp 2 ∧ Only g w w' := by
  have HP := Lib.hid hp
  clear hp
  obtain ⟨HR, HO⟩ : Aside0 (RAt w g s a) ∧ Aside0 (Only g w w) := ⟨⟨h⟩, ⟨Only.refl g w⟩⟩
  have z0 := h.c0
  have z1 := h.c1
  clear h
  go_enter Try.func78, Try.ntmps78
  go_wp2_with fail
  refine start_ (n := 15) (S := fun w' => w'.cell? ⟨g, 0, none⟩ = some (.string s) ∧ w'.cell? ⟨g, 1, none⟩ = some (.int .i64 a)) (ds := []) (Array.replicate 15 false) (by kernel_rfl) (by kernel_rfl) rfl ⟨z0, z1⟩ (fun hS => ?_)
  refine dpure 0 (some 8) rfl rfl (by kernel_rfl) (fun _ _ _ h => h) (by rfl) (v := ?_) (a' := ?_) ?_ ?_ ?_
  rotate_left 2
  · intro w'; go_simp; with_reducible rfl
  · simp only [Act.put, List.setIfInBounds_toArray, List.set_cons_zero, List.set_cons_succ]; rfl
  refine dpure 1 (some 9) rfl rfl (by kernel_rfl) (fun _ _ _ h => h) (by rfl) (v := ?_) (a' := ?_) ?_ ?_ ?_
  rotate_left 2
  · intro w'; go_simp; with_reducible rfl
  · simp only [Act.put, List.setIfInBounds_toArray, List.set_cons_zero, List.set_cons_succ]; rfl
  refine dpure 2 (some 10) rfl rfl (by kernel_rfl) (fun _ _ _ h => h) (by rfl) (v := ?_) (a' := ?_) ?_ ?_ ?_
  rotate_left 2
  · intro w'; go_simp; with_reducible rfl
  · simp only [Act.put, List.setIfInBounds_toArray, List.set_cons_zero, List.set_cons_succ]; rfl
  refine dtake 3 (some 11) rfl rfl (by kernel_rfl) (fun _ _ _ h => h) (by rfl) hS (v := ?_) (a' := ?_) ?_ ?_ ?_
  rotate_left 2
  · rintro w' ⟨s0,s1⟩; go_simp; with_reducible rfl
  · simp only [Act.put, List.setIfInBounds_toArray, List.set_cons_zero, List.set_cons_succ]; rfl
  refine dpure 4 (some 12) rfl rfl (by kernel_rfl) (fun _ _ _ h => h) (by rfl) (v := ?_) (a' := ?_) ?_ ?_ ?_
  rotate_left 2
  · intro w'; go_simp; with_reducible rfl
  · simp only [Act.put, List.setIfInBounds_toArray, List.set_cons_zero, List.set_cons_succ]; rfl
  refine dpure 5 (some 13) rfl rfl (by kernel_rfl) (fun _ _ _ h => h) (by rfl) (v := ?_) (a' := ?_) ?_ ?_ ?_
  rotate_left 2
  · intro w'; go_simp; with_reducible rfl
  · simp only [Act.put, List.setIfInBounds_toArray, List.set_cons_zero, List.set_cons_succ]; rfl
  refine dpure 6 (some 14) rfl rfl (by kernel_rfl) (fun _ _ _ h => h) (by rfl) (v := ?_) (a' := ?_) ?_ ?_ ?_
  rotate_left 2
  · intro w'; go_simp; with_reducible rfl
  · simp only [Act.put, List.setIfInBounds_toArray, List.set_cons_zero, List.set_cons_succ]; rfl
  refine dtake 7 (some 15) rfl rfl (by kernel_rfl) (fun _ _ _ h => h) (by rfl) hS (v := ?_) (a' := ?_) ?_ ?_ ?_
  rotate_left 2
  · rintro w' ⟨s0,s1⟩; go_simp; with_reducible rfl
  · simp only [Act.put, List.setIfInBounds_toArray, List.set_cons_zero, List.set_cons_succ]; rfl
  refine dpure 8 (some 16) rfl rfl (by kernel_rfl) (fun _ _ _ h => h) (by rfl) (v := ?_) (a' := ?_) ?_ ?_ ?_
  rotate_left 2
  · intro w'; go_simp; with_reducible rfl
  · simp only [Act.put, List.setIfInBounds_toArray, List.set_cons_zero, List.set_cons_succ]; rfl
  refine done1 9 (some 17) rfl rfl (by kernel_rfl) (by decide) (fun K hK => ?_)
  refine goes_ Try.func77 (by kernel_rfl) rfl #[.string s, .int .i64 a, .int .i64 n] (by rfl) rfl rfl (by kernel_rfl) ?_
  refine (part_no HP.out _ (by omega)).mono ?_
  rintro e w2 ⟨rfl, hb⟩
  refine ⟨_, rfl, ?_⟩
  have HR2 := RAt.below (w := w.drew) HR.out hb
  have HO2 := Aside0.mk (HO.out.drew.trans (Only.of_below hb g))
  clear z0 z1 hb
  refine hK.out _ _ ⟨HR2.c0, HR2.c1⟩ (fun hS => ?_)
  clear hK K
  refine norm_ (a' := ?_) ?_ ?_
  rotate_left
  · simp only [Act.put, List.setIfInBounds_toArray, List.set_cons_zero, List.set_cons_succ]; rfl
  refine dpure 10 (some 7) rfl rfl (by kernel_rfl) (fun _ _ _ h => h) (by rfl) (v := ?_) (a' := ?_) ?_ ?_ ?_
  rotate_left 2
  · intro w'; go_simp; with_reducible rfl
  · simp only [Act.put, List.setIfInBounds_toArray, List.set_cons_zero, List.set_cons_succ]; rfl
  refine dpure 11 (some 18) rfl rfl (by kernel_rfl) (fun _ _ _ h => h) (by rfl) (v := ?_) (a' := ?_) ?_ ?_ ?_
  rotate_left 2
  · intro w'; go_simp; with_reducible rfl
  · simp only [Act.put, List.setIfInBounds_toArray, List.set_cons_zero, List.set_cons_succ]; rfl
  refine dpure 12 (some 19) rfl rfl (by kernel_rfl) (fun _ _ _ h => h) (by rfl) (v := ?_) (a' := ?_) ?_ ?_ ?_
  rotate_left 2
  · intro w'; go_simp; with_reducible rfl
  · simp only [Act.put, List.setIfInBounds_toArray, List.set_cons_zero, List.set_cons_succ]; rfl
  refine dpure 13 (some 5) rfl rfl (by kernel_rfl) (fun _ _ _ h => h) (by rfl) (v := ?_) (a' := ?_) ?_ ?_ ?_
  rotate_left 2
  · intro w'; go_simp; with_reducible rfl
  · simp only [Act.put, List.setIfInBounds_toArray, List.set_cons_zero, List.set_cons_succ]; rfl
  refine dpure 14 (some 6) rfl rfl (by kernel_rfl) (fun _ _ _ h => h) (by rfl) (v := ?_) (a' := ?_) ?_ ?_ ?_
  rotate_left 2
  · intro w'; go_simp; with_reducible rfl
  · simp only [Act.put, List.setIfInBounds_toArray, List.set_cons_zero, List.set_cons_succ]; rfl
  refine done_ (by kernel_rfl) ?_
  have z0 := HR2.c0
  have z1 := HR2.c1
  go_wp2_with fail
  exact ⟨rfl, rfl, HO2.out⟩
set_option maxHeartbeats 2000000 in
set_option maxRecDepth 100000 in
theorem text_yes {w : World} {g : Nat} {s : ByteArray} {a n : Int} {t : ByteArray} (h : RAt w g s a) (hs : s.size ≤ 1000000) (hp : partF s a n = some t) :
    Calls Try.prog 78 #[.pointer (some ⟨g, 0, none⟩), .int .i64 n] w fun e w' => e = .returned (.string t) ∧ RAt w' g s (a + n) ∧ Only g w w' := by
  have HP := Lib.hid hp
  obtain ⟨a0, n0, an⟩ := part_at hp
  have q1 : a + n ≤ 1000000 := by omega
  have q2 : 0 ≤ a + n := by omega
  clear hp
  obtain ⟨HR, HO⟩ : Aside0 (RAt w g s a) ∧ Aside0 (Only g w w) := ⟨⟨h⟩, ⟨Only.refl g w⟩⟩
  have z0 := h.c0
  have z1 := h.c1
  clear h
  go_enter Try.func78, Try.ntmps78
  go_wp2_with fail
  refine start_ (n := 15) (S := fun w' => w'.cell? ⟨g, 0, none⟩ = some (.string s) ∧ w'.cell? ⟨g, 1, none⟩ = some (.int .i64 a)) (ds := []) (Array.replicate 15 false) (by kernel_rfl) (by kernel_rfl) rfl ⟨z0, z1⟩ (fun hS => ?_)
  refine dpure 0 (some 8) rfl rfl (by kernel_rfl) (fun _ _ _ h => h) (by rfl) (v := ?_) (a' := ?_) ?_ ?_ ?_
  rotate_left 2
  · intro w'; go_simp; with_reducible rfl
  · simp only [Act.put, List.setIfInBounds_toArray, List.set_cons_zero, List.set_cons_succ]; rfl
  refine dpure 1 (some 9) rfl rfl (by kernel_rfl) (fun _ _ _ h => h) (by rfl) (v := ?_) (a' := ?_) ?_ ?_ ?_
  rotate_left 2
  · intro w'; go_simp; with_reducible rfl
  · simp only [Act.put, List.setIfInBounds_toArray, List.set_cons_zero, List.set_cons_succ]; rfl
  refine dpure 2 (some 10) rfl rfl (by kernel_rfl) (fun _ _ _ h => h) (by rfl) (v := ?_) (a' := ?_) ?_ ?_ ?_
  rotate_left 2
  · intro w'; go_simp; with_reducible rfl
  · simp only [Act.put, List.setIfInBounds_toArray, List.set_cons_zero, List.set_cons_succ]; rfl
  refine dtake 3 (some 11) rfl rfl (by kernel_rfl) (fun _ _ _ h => h) (by rfl) hS (v := ?_) (a' := ?_) ?_ ?_ ?_
  rotate_left 2
  · rintro w' ⟨s0,s1⟩; go_simp; with_reducible rfl
  · simp only [Act.put, List.setIfInBounds_toArray, List.set_cons_zero, List.set_cons_succ]; rfl
  refine dpure 4 (some 12) rfl rfl (by kernel_rfl) (fun _ _ _ h => h) (by rfl) (v := ?_) (a' := ?_) ?_ ?_ ?_
  rotate_left 2
  · intro w'; go_simp; with_reducible rfl
  · simp only [Act.put, List.setIfInBounds_toArray, List.set_cons_zero, List.set_cons_succ]; rfl
  refine dpure 5 (some 13) rfl rfl (by kernel_rfl) (fun _ _ _ h => h) (by rfl) (v := ?_) (a' := ?_) ?_ ?_ ?_
  rotate_left 2
  · intro w'; go_simp; with_reducible rfl
  · simp only [Act.put, List.setIfInBounds_toArray, List.set_cons_zero, List.set_cons_succ]; rfl
  refine dpure 6 (some 14) rfl rfl (by kernel_rfl) (fun _ _ _ h => h) (by rfl) (v := ?_) (a' := ?_) ?_ ?_ ?_
  rotate_left 2
  · intro w'; go_simp; with_reducible rfl
  · simp only [Act.put, List.setIfInBounds_toArray, List.set_cons_zero, List.set_cons_succ]; rfl
  refine dtake 7 (some 15) rfl rfl (by kernel_rfl) (fun _ _ _ h => h) (by rfl) hS (v := ?_) (a' := ?_) ?_ ?_ ?_
  rotate_left 2
  · rintro w' ⟨s0,s1⟩; go_simp; with_reducible rfl
  · simp only [Act.put, List.setIfInBounds_toArray, List.set_cons_zero, List.set_cons_succ]; rfl
  refine dpure 8 (some 16) rfl rfl (by kernel_rfl) (fun _ _ _ h => h) (by rfl) (v := ?_) (a' := ?_) ?_ ?_ ?_
  rotate_left 2
  · intro w'; go_simp; with_reducible rfl
  · simp only [Act.put, List.setIfInBounds_toArray, List.set_cons_zero, List.set_cons_succ]; rfl
  refine done1 9 (some 17) rfl rfl (by kernel_rfl) (by decide) (fun K hK => ?_)
  refine goes_ Try.func77 (by kernel_rfl) rfl #[.string s, .int .i64 a, .int .i64 n] (by rfl) rfl rfl (by kernel_rfl) ?_
  refine (part_yes HP.out _ (by omega)).mono ?_
  rintro e w2 ⟨rfl, hb⟩
  refine ⟨_, rfl, ?_⟩
  have HR2 := RAt.below (w := w.drew) HR.out hb
  have HO2 := Aside0.mk (HO.out.drew.trans (Only.of_below hb g))
  clear z0 z1 hb
  refine hK.out _ _ ⟨HR2.c0, HR2.c1⟩ (fun hS => ?_)
  clear hK K
  refine norm_ (a' := ?_) ?_ ?_
  rotate_left
  · simp only [Act.put, List.setIfInBounds_toArray, List.set_cons_zero, List.set_cons_succ]; rfl
  refine dpure 10 (some 7) rfl rfl (by kernel_rfl) (fun _ _ _ h => h) (by rfl) (v := ?_) (a' := ?_) ?_ ?_ ?_
  rotate_left 2
  · intro w'; go_simp; with_reducible rfl
  · simp only [Act.put, List.setIfInBounds_toArray, List.set_cons_zero, List.set_cons_succ]; rfl
  refine dpure 11 (some 18) rfl rfl (by kernel_rfl) (fun _ _ _ h => h) (by rfl) (v := ?_) (a' := ?_) ?_ ?_ ?_
  rotate_left 2
  · intro w'; go_simp; with_reducible rfl
  · simp only [Act.put, List.setIfInBounds_toArray, List.set_cons_zero, List.set_cons_succ]; rfl
  refine dpure 12 (some 19) rfl rfl (by kernel_rfl) (fun _ _ _ h => h) (by rfl) (v := ?_) (a' := ?_) ?_ ?_ ?_
  rotate_left 2
  · intro w'; go_simp; with_reducible rfl
  · simp only [Act.put, List.setIfInBounds_toArray, List.set_cons_zero, List.set_cons_succ]; rfl
  refine dpure 13 (some 5) rfl rfl (by kernel_rfl) (fun _ _ _ h => h) (by rfl) (v := ?_) (a' := ?_) ?_ ?_ ?_
  rotate_left 2
  · intro w'; go_simp; with_reducible rfl
  · simp only [Act.put, List.setIfInBounds_toArray, List.set_cons_zero, List.set_cons_succ]; rfl
  refine dpure 14 (some 6) rfl rfl (by kernel_rfl) (fun _ _ _ h => h) (by rfl) (v := ?_) (a' := ?_) ?_ ?_ ?_
  rotate_left 2
  · intro w'; go_simp; with_reducible rfl
  · simp only [Act.put, List.setIfInBounds_toArray, List.set_cons_zero, List.set_cons_succ]; rfl
  refine done_ (by kernel_rfl) ?_
  have z0 := HR2.c0
  have z1 := HR2.c1
  have f1 : w2.frozen? ⟨g, 1, none⟩ = false := blk_frozen HR2 1
  go_wp2_with fail
  go_ret
  exact ⟨rfl, HR2.set _, HO2.out.set 1 _⟩
end Go.Proofs.Ytfoflodgegehfaa.M
set_option linter.unusedVariables false
set_option linter.unusedSimpArgs false
namespace Go.Proofs.Ytfoflodgegehfaa.M
open Go.RowKit Go.Maps Go.Proofs.YtfoflodgegehfaaW.PrintWords Go.Proofs.YtfoflodgegehfaaW.PrintLast Go.Proofs.YtfoflodgegehfaaW.PrintMore
attribute [local go_sem] max2_int min2_int max_two min_two max_three min_three max_four min_four
attribute [local go_sem ↓] Go.wp_at_zero Go.wp_at_succ
def nameR : Nat → ByteArray → List Int → Int → Int → Int → Except Int (List Int × Int)
  | 0, _, _, _, _, _ => .error 2
  | k + 1, s, b, part, nx, a =>
    match getF s a 1 with
    | none => .error 2
    | some n =>
      if n = 0 then .ok (b ++ [0], if 0 ≤ nx then nx else a + 1)
      else if 191 < n then
        match getF s (a + 1) 1 with
        | none => .error 2
        | some m => if part ≤ n % 64 * 256 + m then .error 42 else nameR k s b (n % 64 * 256 + m) (if nx < 0 then a + 2 else nx) (n % 64 * 256 + m)
      else if 63 < n then .error 41
      else
        match partF s (a + 1) n with
        | none => .error 2
        | some l => if 255 < b.length + n + 2 then .error 40 else nameR k s (b ++ [n] ++ bytesOf l) part nx (a + 1 + n)
def nameAt (s : ByteArray) (a : Int) : Except Int (List Int × Int) := nameR (a.toNat * 256 + 257) s [] a (-1) a
structure TextEnds (R : Except Int (List Int × Int)) (w : World) (g : Nat) (s : ByteArray) (e : Ending) (w' : World) : Prop where
  bad : ∀ c, R = .error c → e = gaveUp c
  good : ∀ b a, R = .ok (b, a) → e = .returned (.string (strOfNums b)) ∧ RAt w' g s a
  only : Only g w w'
theorem TextEnds.err {R : Except Int (List Int × Int)} {w w' : World} {g : Nat} {s : ByteArray} {c : Int} (h : R = .error c) (ho : Only g w w') : TextEnds R w g s (gaveUp c) w' :=
  ⟨fun d hd => by rw [h] at hd; rw [Except.error.inj hd], fun b a hb => by rw [h] at hb; exact absurd hb (by simp), ho⟩
theorem TextEnds.ok {R : Except Int (List Int × Int)} {w w' : World} {g : Nat} {s : ByteArray} {b : List Int} {a : Int} (h : R = .ok (b, a)) (hr : RAt w' g s a) (ho : Only g w w') : TextEnds R w g s (.returned (.string (strOfNums b))) w' :=
  ⟨fun d hd => by rw [h] at hd; exact absurd hd (by simp), fun b' a' hb => by rw [h] at hb; obtain ⟨rfl, rfl⟩ := Prod.mk.inj (Except.ok.inj hb); exact ⟨rfl, hr⟩, ho⟩
theorem get1 {s : ByteArray} {a n : Int} (h : getF s a 1 = some n) : 0 ≤ n ∧ n ≤ 255 ∧ 0 ≤ a ∧ a + 1 ≤ s.size := by
  obtain ⟨t, h1, rfl, _⟩ := get_part h
  obtain ⟨h2, _, h3, h4, _⟩ := part_size h1
  have hl := bytesOf_length t
  match hb : bytesOf t, hl with
  | [x], _ =>
    have hm : x ∈ bytesOf t := by rw [hb]; simp
    unfold bytesOf at hm
    obtain ⟨b, _, rfl⟩ := List.mem_map.1 hm
    have := b.toNat_lt
    simp only [valF]
    omega
  | [], hl => simp at hl; omega
  | _ :: _ :: _, hl => simp at hl; omega
theorem and63 (n : Int) (h0 : 0 ≤ n) (h1 : n ≤ 255) : bits .and .i64 n 63 = n % 64 :=
  bits_mask .i64 60 (by decide) (by intro n h0 h1; rw [IntKind.wrap_i64]; omega) 6 (by decide) n h0 (by omega)
theorem or_low (x y : Int) (h0 : 0 ≤ x) (h1 : x < 64) (y0 : 0 ≤ y) (y1 : y ≤ 255) : bits .or .i64 (x * 256) y = x * 256 + y :=
  bits_join .i64 60 (by decide) (by intro n h0 h1; rw [IntKind.wrap_i64]; omega) 8 (x * 256) y (by omega) (by omega) (by omega) (by omega) (by omega) (by omega)
set_option maxHeartbeats 4000000 in
set_option maxRecDepth 100000 in
theorem name_calls' {w : World} {g : Nat} {s : ByteArray} {a : Int} (h : RAt w g s a) (hs : s.size ≤ 1000000) (wf : -9223372036854775808 ≤ a) (wf1 : a ≤ 9223372036854775807) :
    Calls Try.prog 62 #[.pointer (some ⟨g, 0, none⟩)] w fun e w' => TextEnds (nameAt s a) w g s e w' := by
  obtain ⟨R, hR⟩ : ∃ R, nameAt s a = R := ⟨_, rfl⟩
  rw [hR]
  have z1 := h.c1
  have HR := Aside0.mk h
  have HE := Aside0.mk hR
  have HS := Aside0.mk hs
  have HO := Aside0.mk (Only.refl g w)
  clear h hR
  go_enter Try.func62, Try.ntmps62
  go_wp2_with fail
  clear z1
  go_loopg [3, 4, 5] (a.toNat * 256 + 257) (fun kq v3 v4 v5 w' => ∃ (b : List Int) (part nx at' : Int), v4 = .int .i64 part ∧ v5 = .int .i64 nx ∧ Aside0 (nameR kq s b part nx at' = R) ∧ Aside0 (part.toNat * 256 + 256 < kq + b.length) ∧ Aside0 (b.length ≤ 254) ∧ Aside0 (-1 ≤ nx ∧ nx ≤ 1000000) ∧ Aside0 (RAt w' g s at') ∧ Aside0 (Only g w w') ∧ Aside0 (B8 w' w.heap.size (fun _ => True) v3 b))
  case atStart => exact ⟨[], a, -1, a, rfl, rfl, HE, ⟨by simp⟩, ⟨by simp⟩, ⟨by omega⟩, HR, HO, ⟨Kd.R_nil _ _ _ _ _⟩⟩
  case round =>
    clear HR HE HO
    obtain ⟨b, part, nx, at', rfl, rfl, HE, HK, HL, HX, HR, HO, HB⟩ := hrel
    obtain ⟨k, rfl⟩ : ∃ k, gk = k + 1 := ⟨gk - 1, by have := HK.out; have := HL.out; omega⟩
    have he := HE.out
    unfold nameR at he
    clear HE
    cases h1 : getF s at' 1 with
    | none =>
      rw [h1] at he
      have H1 := Lib.hid h1
      have HE := Lib.hid he
      clear he h1
      go_wp2_with fail
      refine (num_no HR.out HS.out H1.out).mono ?_
      rintro e w2 ⟨rfl, ho⟩
      exact ⟨rfl, TextEnds.err HE.out.symm (HO.out.trans ho)⟩
    | some n =>
      rw [h1] at he
      simp only [] at he
      have H1 := Lib.hid h1
      obtain ⟨n0, n1, a0, a1⟩ := get1 h1
      clear h1
      go_wp2_with fail
      refine (num_yes HR.out HS.out H1.out).mono ?_
      rintro e w2 ⟨rfl, hr, ho⟩
      have HR2 := Aside0.mk hr
      have HO2 := Aside0.mk (HO.out.trans ho)
      have HB2 := Aside0.mk (R_only HB.out HR.out (by decide) ho)
      clear hr ho
      have hw1 : IntKind.i64.wrap n = n := by rw [IntKind.wrap_i64]; omega
      have q0 : at' + 1 ≤ 1000000 := by have := HS.out; omega
      have HN := Lib.hid (show 0 ≤ n ∧ n ≤ 255 from ⟨n0, n1⟩)
      by_cases c1 : n = 0
      · rw [if_pos c1] at he
        subst c1
        have e1 : ((0 : Int) == 0) = true := rfl
        have HLn := Aside0.mk (show (b.length + 1) * 1 ≤ 140737488355328 by have := HL.out; omega)
        by_cases c2 : 0 ≤ nx
        · rw [if_pos c2] at he
          have HE := Lib.hid he
          have d2 : decide (0 ≤ nx) = true := decide_eq_true c2
          have y1 := HR2.out.c1
          have f1 : w2.frozen? ⟨g, 1, none⟩ = false := blk_frozen HR2.out 1
          clear he
          have HBs := Aside0.mk (Kd.R_set HB2.out HR2.out (by intro q hq; rw [show q = 5 by simpa [Kd.int, Kd.scalar] using hq]; decide) 1 (.int .i64 nx))
          have HRs := Aside0.mk (HR2.out.set nx)
          have HOs := Aside0.mk (HO2.out.set 1 (.int .i64 nx))
          go_wp2_with (((with_reducible refine gate_builtin (b := .append) (xs := #[.tmp 42, .tmp 43]) rfl ?_); at_builtin; go_must (refine app8 rfl (.tmp 42) (.tmp 43) rfl rfl (by first | rfl | (go_simp; done)) HBs.out (Below.refl _ _) (fun _ _ _ => trivial) HOs.out.size HLn.out ?_; intro va wa hoa hba hga hata)); go_must (have hcv := strOf hoa; have HRa := Aside0.mk (HRs.out.over HBs.out hga); have HOa := Aside0.mk (HOs.out.of_grown hga (Kd.R_base HBs.out)); clear hoa hba hga hata))
          go_ret
          exact TextEnds.ok HE.out.symm HRa.out HOa.out
        · rw [if_neg c2] at he
          have HE := Lib.hid he
          have d2 : decide (0 ≤ nx) = false := decide_eq_false c2
          clear he
          have HBs := HB2
          have HRs := HR2
          have HOs := HO2
          go_wp2_with (((with_reducible refine gate_builtin (b := .append) (xs := #[.tmp 42, .tmp 43]) rfl ?_); at_builtin; go_must (refine app8 rfl (.tmp 42) (.tmp 43) rfl rfl (by first | rfl | (go_simp; done)) HBs.out (Below.refl _ _) (fun _ _ _ => trivial) HOs.out.size HLn.out ?_; intro va wa hoa hba hga hata)); go_must (have hcv := strOf hoa; have HRa := Aside0.mk (HRs.out.over HBs.out hga); have HOa := Aside0.mk (HOs.out.of_grown hga (Kd.R_base HBs.out)); clear hoa hba hga hata))
          go_ret
          exact TextEnds.ok HE.out.symm HRa.out HOa.out
      rw [if_neg c1] at he
      have e1 : (n == 0) = false := beq_eq_false_iff_ne.mpr c1
      by_cases c3 : 191 < n
      · rw [if_pos c3] at he
        have d3 : decide (191 < n) = true := decide_eq_true c3
        have hand := and63 n n0 n1
        have hsh : IntKind.i64.wrap (n % 64 * 256) = n % 64 * 256 := by rw [IntKind.wrap_i64]; omega
        clear c1
        cases h2 : getF s (at' + 1) 1 with
        | none =>
          rw [h2] at he
          have H2 := Lib.hid h2
          have HE := Lib.hid he
          clear he h2
          go_wp2_with fail
          refine (num_no HR2.out HS.out H2.out).mono ?_
          rintro e w3 ⟨rfl, ho⟩
          exact ⟨rfl, TextEnds.err HE.out.symm (HO2.out.trans ho)⟩
        | some m =>
          rw [h2] at he
          simp only [] at he
          have H2 := Lib.hid h2
          obtain ⟨m0, m1, _, a2⟩ := get1 h2
          have hw2 : IntKind.i64.wrap m = m := by rw [IntKind.wrap_i64]; omega
          have hor := or_low (n % 64) m (by omega) (by omega) m0 m1
          obtain ⟨tq, hto⟩ : ∃ tq, n % 64 * 256 + m = tq := ⟨_, rfl⟩
          rw [hto] at he hor
          have HTo := Lib.hid (show 0 ≤ tq ∧ tq ≤ 16383 by omega)
          have q1 : at' + 1 + 1 ≤ 1000000 := by have := HS.out; omega
          clear h2 hto
          by_cases c4 : part ≤ tq
          · rw [if_pos c4] at he
            have HE := Lib.hid he
            have d4 : decide (part ≤ tq) = true := decide_eq_true c4
            clear he
            go_wp2_with fail
            refine (num_yes HR2.out HS.out H2.out).mono ?_
            rintro e w3 ⟨rfl, hr, ho⟩
            have HR3 := Aside0.mk hr
            have HO3 := Aside0.mk (HO2.out.trans ho)
            have HB3 := Aside0.mk (R_only HB2.out HR2.out (by decide) ho)
            have y1 := hr.c1
            have f1 : w3.frozen? ⟨g, 1, none⟩ = false := blk_frozen hr 1
            clear hr ho
            go_wp2_with fail
            exact ⟨rfl, TextEnds.err HE.out.symm HO3.out⟩
          · rw [if_neg c4] at he
            have d4 : decide (part ≤ tq) = false := decide_eq_false c4
            have HMs := Aside0.mk (show tq.toNat * 256 + 256 < k + b.length by have := HK.out; have := HTo.out; have := HL.out; omega)
            by_cases c5 : nx < 0
            · rw [if_pos c5] at he
              have HE := Aside0.mk he
              have d5 : decide (nx < 0) = true := decide_eq_true c5
              clear he
              go_wp2_with fail
              refine (num_yes HR2.out HS.out H2.out).mono ?_
              rintro e w3 ⟨rfl, hr, ho⟩
              have HR3 := Aside0.mk hr
              have HO3 := Aside0.mk (HO2.out.trans ho)
              have HB3 := Aside0.mk (R_only HB2.out HR2.out (by decide) ho)
              have y1 := hr.c1
              have f1 : w3.frozen? ⟨g, 1, none⟩ = false := blk_frozen hr 1
              clear hr ho
              go_wp2_with fail
              go_roundg k
              case measure => omega
              case rel => exact ⟨b, tq, at' + 2, tq, rfl, by first | rfl | (congr 1; omega), HE, HMs, HL, ⟨by omega⟩, ⟨HR3.out.set tq⟩, ⟨HO3.out.set 1 (.int .i64 tq)⟩, ⟨Kd.R_set HB3.out HR3.out (by intro q hq; rw [show q = 5 by simpa [Kd.int, Kd.scalar] using hq]; decide) 1 (.int .i64 tq)⟩⟩
            · rw [if_neg c5] at he
              have HE := Aside0.mk he
              have d5 : decide (nx < 0) = false := decide_eq_false c5
              clear he
              go_wp2_with fail
              refine (num_yes HR2.out HS.out H2.out).mono ?_
              rintro e w3 ⟨rfl, hr, ho⟩
              have HR3 := Aside0.mk hr
              have HO3 := Aside0.mk (HO2.out.trans ho)
              have HB3 := Aside0.mk (R_only HB2.out HR2.out (by decide) ho)
              have y1 := hr.c1
              have f1 : w3.frozen? ⟨g, 1, none⟩ = false := blk_frozen hr 1
              clear hr ho
              go_wp2_with fail
              go_roundg k
              case measure => omega
              case rel => exact ⟨b, tq, nx, tq, rfl, rfl, HE, HMs, HL, HX, ⟨HR3.out.set tq⟩, ⟨HO3.out.set 1 (.int .i64 tq)⟩, ⟨Kd.R_set HB3.out HR3.out (by intro q hq; rw [show q = 5 by simpa [Kd.int, Kd.scalar] using hq]; decide) 1 (.int .i64 tq)⟩⟩
      rw [if_neg c3] at he
      have d3 : decide (191 < n) = false := decide_eq_false c3
      by_cases c6 : 63 < n
      · rw [if_pos c6] at he
        have HE := Lib.hid he
        have d6 : decide (63 < n) = true := decide_eq_true c6
        clear he c1
        go_wp2_with fail
        exact ⟨rfl, TextEnds.err HE.out.symm HO2.out⟩
      rw [if_neg c6] at he
      have d6 : decide (63 < n) = false := decide_eq_false c6
      cases h3 : partF s (at' + 1) n with
      | none =>
        rw [h3] at he
        have H3 := Lib.hid h3
        have HE := Lib.hid he
        clear he h3 c1
        go_wp2_with fail
        refine (text_no HR2.out HS.out H3.out).mono ?_
        rintro e w3 ⟨rfl, ho⟩
        exact ⟨rfl, TextEnds.err HE.out.symm (HO2.out.trans ho)⟩
      | some l =>
        rw [h3] at he
        simp only [] at he
        have H3 := Lib.hid h3
        obtain ⟨lz, -, -, l3, -⟩ := part_size h3
        have HLz := Lib.hid (show (l.size : Int) = n ∧ at' + 1 + n ≤ 1000000 from ⟨lz, by have := HS.out; omega⟩)
        have hu8 : IntKind.u8.wrap n = n := by rw [IntKind.wrap_u8]; omega
        have q5 : (b.length : Int) ≤ 254 := by have := HL.out; omega
        have q6 : n ≤ 63 := by omega
        clear h3 c1 lz l3
        by_cases c7 : 255 < (b.length : Int) + n + 2
        · rw [if_pos c7] at he
          have HE := Lib.hid he
          have d7 : decide (255 < (b.length : Int) + n + 2) = true := decide_eq_true c7
          clear he
          go_wp2_with fail
          refine (text_yes HR2.out HS.out H3.out).mono ?_
          rintro e w3 ⟨rfl, hr, ho⟩
          have HR3 := Aside0.mk hr
          have HO3 := Aside0.mk (HO2.out.trans ho)
          have HB3 := Aside0.mk (R_only HB2.out HR2.out (by decide) ho)
          clear hr ho
          obtain ⟨A3, c3, rfl⟩ := Kd.R_slice HB3.out
          go_wp2_with fail
          exact ⟨rfl, TextEnds.err HE.out.symm HO3.out⟩
        · rw [if_neg c7] at he
          have HE := Aside0.mk he
          have d7 : decide (255 < (b.length : Int) + n + 2) = false := decide_eq_false c7
          clear he
          have HL1 := Aside0.mk (show (b.length + 1) * 1 ≤ 140737488355328 by have := HL.out; omega)
          have HL2 := Aside0.mk (show (b ++ [n]).length + l.size ≤ 140737488355328 by have := HL.out; have := HLz.out.1; rw [List.length_append, List.length_singleton]; omega)
          go_wp2_with fail
          refine (text_yes HR2.out HS.out H3.out).mono ?_
          rintro e w3 ⟨rfl, hr, ho⟩
          have HR3 := Aside0.mk hr
          have HO3 := Aside0.mk (HO2.out.trans ho)
          have HB3 := Aside0.mk (R_only HB2.out HR2.out (by decide) ho)
          clear hr ho
          obtain ⟨A3, c3, rfl⟩ := Kd.R_slice HB3.out
          go_wp2_with (first | (((with_reducible refine gate_builtin (b := .append) (xs := #[.tmp 26, .tmp 29]) rfl ?_); at_builtin; go_must (refine app8 rfl (.tmp 26) (.tmp 29) rfl rfl (by first | rfl | (go_simp; done)) HB3.out (Below.refl _ _) (fun _ _ _ => trivial) HO3.out.size HL1.out ?_; intro va wa hoa hba hga hata)); go_must (have HR4 := Aside0.mk (HR3.out.over HB3.out hga); have HO4 := Aside0.mk (HO3.out.of_grown hga (Kd.R_base HB3.out)); have HB4 := Aside0.mk hoa; clear hoa hba hga hata)) | (((with_reducible refine gate_builtin (b := .append) (xs := #[.tmp 30, .tmp 31]) rfl ?_); at_builtin; go_must (refine app8s rfl (.tmp 30) (.tmp 31) rfl rfl rfl HB4.out (Below.refl _ _) HO4.out.size HL2.out ?_; intro vb wb hob hbb hgb)); go_must (have HR5 := Aside0.mk (HR4.out.over HB4.out hgb); have HO5 := Aside0.mk (HO4.out.of_grown hgb (Kd.R_base HB4.out)); have HB5 := Aside0.mk hob; clear hob hbb hgb)))
          go_roundg k
          case measure => omega
          case rel => exact ⟨_, part, nx, at' + 1 + n, rfl, rfl, HE, ⟨by have := HK.out; have := HLz.out.1; simp only [List.length_append, List.length_singleton, bytesOf_length]; omega⟩, ⟨by have := HLz.out.1; simp only [List.length_append, List.length_singleton, bytesOf_length]; omega⟩, HX, HR5, HO5, HB5⟩
end Go.Proofs.Ytfoflodgegehfaa.M
set_option linter.unusedVariables false
set_option linter.unusedSimpArgs false
namespace Go.Proofs.Ytfoflodgegehfaa.M
open Go.RowKit Go.Maps Go.Proofs.YtfoflodgegehfaaW.PrintWords Go.Proofs.YtfoflodgegehfaaW.PrintLast Go.Proofs.YtfoflodgegehfaaW.PrintMore
attribute [local go_sem] max2_int min2_int max_two min_two max_three min_three max_four min_four
attribute [local go_sem ↓] Go.wp_at_zero Go.wp_at_succ
def bareR : Nat → ByteArray → List Int → Int → Except Int (List Int × Int)
  | 0, _, _, _ => .error 2
  | k + 1, s, b, a =>
    match getF s a 1 with
    | none => .error 2
    | some n =>
      if n = 0 then .ok (b ++ [0], a + 1)
      else if 191 < n then .error 50
      else if 63 < n then .error 41
      else if 255 < b.length + n + 2 then .error 40
      else
        match partF s (a + 1) n with
        | none => .error 2
        | some l => bareR k s (b ++ [n] ++ bytesOf l) (a + 1 + n)
def bareAt (s : ByteArray) (a : Int) : Except Int (List Int × Int) := bareR 257 s [] a
set_option maxHeartbeats 4000000 in
set_option maxRecDepth 100000 in
theorem bare_calls {w : World} {g : Nat} {s : ByteArray} {a : Int} (h : RAt w g s a) (hs : s.size ≤ 1000000) :
    Calls Try.prog 96 #[.pointer (some ⟨g, 0, none⟩)] w fun e w' => TextEnds (bareAt s a) w g s e w' := by
  obtain ⟨R, hR⟩ : ∃ R, bareAt s a = R := ⟨_, rfl⟩
  rw [hR]
  have HR := Aside0.mk h
  have HE := Aside0.mk hR
  have HS := Aside0.mk hs
  have HO := Aside0.mk (Only.refl g w)
  clear h hR
  go_enter Try.func96, Try.ntmps96
  go_wp2_with fail
  go_loopg [3] 257 (fun kq v3 w' => ∃ (b : List Int) (at' : Int), Aside0 (bareR kq s b at' = R) ∧ Aside0 (256 < kq + b.length) ∧ Aside0 (b.length ≤ 254) ∧ Aside0 (RAt w' g s at') ∧ Aside0 (Only g w w') ∧ Aside0 (B8 w' w.heap.size (fun _ => True) v3 b))
  case atStart => exact ⟨[], a, HE, ⟨by simp⟩, ⟨by simp⟩, HR, HO, ⟨Kd.R_nil _ _ _ _ _⟩⟩
  case round =>
    clear HR HE HO
    obtain ⟨b, at', HE, HK, HL, HR, HO, HB⟩ := hrel
    obtain ⟨k, rfl⟩ : ∃ k, gk = k + 1 := ⟨gk - 1, by have := HK.out; have := HL.out; omega⟩
    have he := HE.out
    unfold bareR at he
    clear HE
    cases h1 : getF s at' 1 with
    | none =>
      rw [h1] at he
      have H1 := Lib.hid h1
      have HE := Lib.hid he
      clear he h1
      go_wp2_with fail
      refine (num_no HR.out HS.out H1.out).mono ?_
      rintro e w2 ⟨rfl, ho⟩
      exact ⟨rfl, TextEnds.err HE.out.symm (HO.out.trans ho)⟩
    | some n =>
      rw [h1] at he
      simp only [] at he
      have H1 := Lib.hid h1
      obtain ⟨n0, n1, a0, a1⟩ := get1 h1
      clear h1
      go_wp2_with fail
      refine (num_yes HR.out HS.out H1.out).mono ?_
      rintro e w2 ⟨rfl, hr, ho⟩
      have HR2 := Aside0.mk hr
      have HO2 := Aside0.mk (HO.out.trans ho)
      have HB2 := Aside0.mk (R_only HB.out HR.out (by decide) ho)
      clear hr ho
      have hw1 : IntKind.i64.wrap n = n := by rw [IntKind.wrap_i64]; omega
      have q0 : at' + 1 ≤ 1000000 := by have := HS.out; omega
      have HN := Lib.hid (show 0 ≤ n ∧ n ≤ 255 from ⟨n0, n1⟩)
      have HL1 := Aside0.mk (show (b.length + 1) * 1 ≤ 140737488355328 by have := HL.out; omega)
      by_cases c1 : n = 0
      · rw [if_pos c1] at he
        subst c1
        have HE := Lib.hid he
        have e1 : ((0 : Int) == 0) = true := rfl
        clear he
        go_wp2_with (((with_reducible refine gate_builtin (b := .append) (xs := #[.tmp 11, .tmp 12]) rfl ?_); at_builtin; go_must (refine app8 rfl (.tmp 11) (.tmp 12) rfl rfl (by first | rfl | (go_simp; done)) HB2.out (Below.refl _ _) (fun _ _ _ => trivial) HO2.out.size HL1.out ?_; intro va wa hoa hba hga hata)); go_must (have hcv := strOf hoa; have HRa := Aside0.mk (HR2.out.over HB2.out hga); have HOa := Aside0.mk (HO2.out.of_grown hga (Kd.R_base HB2.out)); clear hoa hba hga hata))
        go_ret
        exact TextEnds.ok HE.out.symm HRa.out HOa.out
      rw [if_neg c1] at he
      have e1 : (n == 0) = false := beq_eq_false_iff_ne.mpr c1
      by_cases c3 : 191 < n
      · rw [if_pos c3] at he
        have HE := Lib.hid he
        have d3 : decide (191 < n) = true := decide_eq_true c3
        clear he c1
        go_wp2_with fail
        exact ⟨rfl, TextEnds.err HE.out.symm HO2.out⟩
      rw [if_neg c3] at he
      have d3 : decide (191 < n) = false := decide_eq_false c3
      by_cases c6 : 63 < n
      · rw [if_pos c6] at he
        have HE := Lib.hid he
        have d6 : decide (63 < n) = true := decide_eq_true c6
        clear he c1
        go_wp2_with fail
        exact ⟨rfl, TextEnds.err HE.out.symm HO2.out⟩
      rw [if_neg c6] at he
      have d6 : decide (63 < n) = false := decide_eq_false c6
      have q5 : (b.length : Int) ≤ 254 := by have := HL.out; omega
      have q6 : n ≤ 63 := by omega
      have hu8 : IntKind.u8.wrap n = n := by rw [IntKind.wrap_u8]; omega
      obtain ⟨A3, c3', rfl⟩ := Kd.R_slice HB2.out
      by_cases c7 : 255 < (b.length : Int) + n + 2
      · rw [if_pos c7] at he
        have HE := Lib.hid he
        have d7 : decide (255 < (b.length : Int) + n + 2) = true := decide_eq_true c7
        clear he c1
        go_wp2_with fail
        exact ⟨rfl, TextEnds.err HE.out.symm HO2.out⟩
      rw [if_neg c7] at he
      have d7 : decide (255 < (b.length : Int) + n + 2) = false := decide_eq_false c7
      cases h3 : partF s (at' + 1) n with
      | none =>
        rw [h3] at he
        have H3 := Lib.hid h3
        have HE := Lib.hid he
        clear he h3 c1
        go_wp2_with (((with_reducible refine gate_builtin (b := .append) (xs := #[.tmp 31, .tmp 34]) rfl ?_); at_builtin; go_must (refine app8 rfl (.tmp 31) (.tmp 34) rfl rfl (by first | rfl | (go_simp; done)) HB2.out (Below.refl _ _) (fun _ _ _ => trivial) HO2.out.size HL1.out ?_; intro va wa hoa hba hga hata)); go_must (have HR4 := Aside0.mk (HR2.out.over HB2.out hga); have HO4 := Aside0.mk (HO2.out.of_grown hga (Kd.R_base HB2.out)); clear hoa hba hga hata))
        refine (text_no HR4.out HS.out H3.out).mono ?_
        rintro e w3 ⟨rfl, ho⟩
        exact ⟨rfl, TextEnds.err HE.out.symm (HO4.out.trans ho)⟩
      | some l =>
        rw [h3] at he
        simp only [] at he
        have H3 := Lib.hid h3
        obtain ⟨lz, -, -, l3, -⟩ := part_size h3
        have HLz := Lib.hid (show (l.size : Int) = n ∧ at' + 1 + n ≤ 1000000 from ⟨lz, by have := HS.out; omega⟩)
        have HE := Aside0.mk he
        have HL2 := Aside0.mk (show (b ++ [n]).length + l.size ≤ 140737488355328 by have := HL.out; have := HLz.out.1; rw [List.length_append, List.length_singleton]; omega)
        have HM := Lib.hid (show (b.length : Int) + n + 2 ≤ 255 by omega)
        clear h3 c1 lz l3 he
        go_wp2_with (((with_reducible refine gate_builtin (b := .append) (xs := #[.tmp 31, .tmp 34]) rfl ?_); at_builtin; go_must (refine app8 rfl (.tmp 31) (.tmp 34) rfl rfl (by first | rfl | (go_simp; done)) HB2.out (Below.refl _ _) (fun _ _ _ => trivial) HO2.out.size HL1.out ?_; intro va wa hoa hba hga hata)); go_must (have HR4 := Aside0.mk (HR2.out.over HB2.out hga); have HO4 := Aside0.mk (HO2.out.of_grown hga (Kd.R_base HB2.out)); have HB4 := Aside0.mk hoa; clear hoa hba hga hata))
        refine (text_yes HR4.out HS.out H3.out).mono ?_
        rintro e w3 ⟨rfl, hr, ho⟩
        have HR3 := Aside0.mk hr
        have HO3 := Aside0.mk (HO4.out.trans ho)
        have HB3 := Aside0.mk (R_only HB4.out HR4.out (by decide) ho)
        clear hr ho
        go_wp2_with (((with_reducible refine gate_builtin (b := .append) (xs := #[.tmp 35, .tmp 38]) rfl ?_); at_builtin; go_must (refine app8s rfl (.tmp 35) (.tmp 38) rfl rfl rfl HB3.out (Below.refl _ _) HO3.out.size HL2.out ?_; intro vb wb hob hbb hgb)); go_must (have HR5 := Aside0.mk (HR3.out.over HB3.out hgb); have HO5 := Aside0.mk (HO3.out.of_grown hgb (Kd.R_base HB3.out)); have HB5 := Aside0.mk hob; clear hob hbb hgb))
        go_roundg k
        case measure => omega
        case rel => exact ⟨_, at' + 1 + n, HE, ⟨by have := HK.out; have := HLz.out.1; have := HN.out; simp only [List.length_append, List.length_singleton, bytesOf_length]; omega⟩, ⟨by have := HLz.out.1; have := HM.out; simp only [List.length_append, List.length_singleton, bytesOf_length]; omega⟩, HR5, HO5, HB5⟩
def endsR : Nat → ByteArray → Int → Int → Bool
  | 0, _, _, _ => false
  | k + 1, s, a, en => if a < en then
      (if nb s a.toNat = 0 then true else if 191 < nb s a.toNat then decide (a + 2 ≤ en) else if 63 < nb s a.toNat then true else endsR k s (a + (nb s a.toNat + 1)) en)
    else false
def endsF (s : ByteArray) (a en : Int) : Bool := endsR ((en - a).toNat + 1) s a en
set_option maxHeartbeats 4000000 in
set_option maxRecDepth 100000 in
theorem ends_calls {w : World} {g : Nat} {s : ByteArray} {a en : Int} (h : RAt w g s a) (hs : s.size ≤ 1000000) (h0 : 0 ≤ a) (ha : a ≤ s.size) (he : en ≤ s.size) (he0 : 0 ≤ en) :
    Calls Try.prog 97 #[.pointer (some ⟨g, 0, none⟩), .int .i64 en] w fun e w' => e = .returned (.bool (endsF s a en)) ∧ Below w.heap.size w w' := by
  obtain ⟨R, hR⟩ : ∃ R, endsF s a en = R := ⟨_, rfl⟩
  rw [hR]
  have HR := Aside0.mk h
  have HE := Aside0.mk hR
  have HB := Aside0.mk (Below.refl w.heap.size w)
  have z1 := h.c1
  have p1 : (s.size : Int) ≤ 1000000 := by omega
  have HI := Lib.hid (show 0 ≤ en ∧ en ≤ s.size from ⟨he0, he⟩)
  have HA := Lib.hid (show 0 ≤ a ∧ a ≤ s.size + 256 by omega)
  clear h hR hs h0 ha
  go_enter Try.func97, Try.ntmps97
  go_wp2_with fail
  clear z1
  go_loopg [5] ((en - a).toNat + 1) (fun kq v5 w' => ∃ at' : Int, v5 = .int .i64 at' ∧ Aside0 (endsR kq s at' en = R) ∧ Aside0 ((en - at').toNat < kq) ∧ Aside0 (0 ≤ at' ∧ at' ≤ s.size + 256) ∧ Aside0 (Below w.heap.size w w'))
  case atStart => exact ⟨a, rfl, HE, ⟨Nat.lt_succ_self _⟩, ⟨HA.out⟩, HB⟩
  case round =>
    clear HE HB HA
    obtain ⟨at', rfl, HE, HK, HA, HB⟩ := hrel
    obtain ⟨k, rfl⟩ : ∃ k, gk = k + 1 := ⟨gk - 1, by have := HK.out; omega⟩
    have he := HE.out
    unfold endsR at he
    have z0 := (RAt.below HR.out HB.out).c0
    clear HE
    obtain ⟨a0, a1⟩ := HA.out
    by_cases c1 : at' < en
    · rw [if_pos c1] at he
      have d1 : decide (at' < en) = true := decide_eq_true c1
      have hlt : at'.toNat < s.size := by have := HI.out; omega
      have q1 : at' < (s.size : Int) := by have := HI.out; omega
      have hx := nb_at s at'.toNat
      have hn := nb_lt s at'.toNat
      obtain ⟨n, hnb⟩ : ∃ n, nb s at'.toNat = n := ⟨_, rfl⟩
      rw [hnb] at hx hn he
      have hN := Lib.hid hn
      have hC := Lib.hid c1
      clear hnb c1
      by_cases c2 : n = 0
      · subst c2
        rw [if_pos rfl] at he
        subst he
        go_wp2_with fail
        go_ret
        exact ⟨rfl, HB.out⟩
      rw [if_neg c2] at he
      have e2 : ((n : Int) == 0) = false := beq_eq_false_iff_ne.mpr (by omega)
      have q3 : (n : Int) ≤ 255 := by omega
      clear c2
      by_cases c3 : 191 < n
      · rw [if_pos c3] at he
        have d3 : decide ((191 : Int) < (n : Int)) = true := decide_eq_true (by omega)
        have HE := Lib.hid he
        clear he c3
        go_wp2_with fail
        go_ret
        exact ⟨by rw [← HE.out]; rfl, HB.out⟩
      rw [if_neg c3] at he
      have d3 : decide ((191 : Int) < (n : Int)) = false := decide_eq_false (by omega)
      clear c3
      by_cases c4 : 63 < n
      · rw [if_pos c4] at he
        subst he
        have d4 : decide ((63 : Int) < (n : Int)) = true := decide_eq_true (by omega)
        clear c4
        go_wp2_with fail
        go_ret
        exact ⟨rfl, HB.out⟩
      rw [if_neg c4] at he
      have HE := Aside0.mk he
      have d4 : decide ((63 : Int) < (n : Int)) = false := decide_eq_false (by omega)
      clear c4 he
      go_wp2_with fail
      go_roundg k
      case measure => omega
      case rel => exact ⟨at' + ((n : Int) + 1), rfl, HE, ⟨by have := HK.out; have := hC.out; omega⟩, ⟨by have := hN.out; omega⟩, HB⟩
    · rw [if_neg c1] at he
      subst he
      have d1 : decide (at' < en) = false := decide_eq_false c1
      clear c1
      go_wp2_with fail
      go_ret
      exact ⟨rfl, HB.out⟩
def withinF (s : ByteArray) (kind a en : Int) : Except Int (List Int × Int) := if endsF s a en = false then .error 50 else if kind = 33 then bareAt s a else nameAt s a
set_option maxHeartbeats 4000000 in
set_option maxRecDepth 100000 in
theorem within_calls {w : World} {g : Nat} {s : ByteArray} {kind a en : Int} (h : RAt w g s a) (hs : s.size ≤ 1000000) (h0 : 0 ≤ a) (ha : a ≤ s.size) (he : en ≤ s.size) (he0 : 0 ≤ en) :
    Calls Try.prog 90 #[.pointer (some ⟨g, 0, none⟩), .int .u16 kind, .int .i64 en] w fun e w' => TextEnds (withinF s kind a en) w g s e w' := by
  have hmf : ∀ (fn : Fn) (first cap : Array Value) (w : World), (Instr.makeFunc fn first cap).run Try.prog w = .ok (.func fn first cap) w := fun _ _ _ _ => rfl
  obtain ⟨R, hR⟩ : ∃ R, withinF s kind a en = R := ⟨_, rfl⟩
  rw [hR]
  unfold withinF at hR
  have HR := Aside0.mk h
  have HA := Lib.hid (show 0 ≤ a ∧ a ≤ s.size ∧ en ≤ s.size ∧ 0 ≤ en from ⟨h0, ha, he, he0⟩)
  clear h h0 ha he he0
  by_cases k1 : kind = 33
  · have e1 : (kind == 33) = true := beq_iff_eq.mpr k1
    rw [if_pos k1] at hR
    have HE := Lib.hid hR
    clear k1 hR
    go_enter Try.func90, Try.ntmps90
    go_wp2_with fail
    refine (ends_calls HR.out hs HA.out.1 HA.out.2.1 HA.out.2.2.1 HA.out.2.2.2).mono ?_
    obtain ⟨q, hq⟩ : ∃ q, endsF s a en = q := ⟨_, rfl⟩
    have he := HE.out
    rw [hq] at he
    rw [hq]
    rintro e w2 ⟨rfl, hb⟩
    have HR2 := Aside0.mk (HR.out.below hb)
    have HO2 := Aside0.mk (Only.of_below hb g)
    clear hb hq HE
    cases q with
    | false =>
      rw [if_pos rfl] at he
      have HE := Lib.hid he
      clear he
      go_wp2_with fail
      exact ⟨rfl, TextEnds.err HE.out.symm HO2.out⟩
    | true =>
      rw [if_neg (by decide)] at he
      go_wp2_with fail
      refine (bare_calls HR2.out hs).mono ?_
      intro e w3 ht
      rw [he] at ht
      have HO3 := Aside0.mk (HO2.out.trans ht.only)
      cases R with
      | error c =>
        obtain rfl := ht.bad c rfl
        exact ⟨rfl, TextEnds.err rfl HO3.out⟩
      | ok x =>
        obtain ⟨b, a'⟩ := x
        obtain ⟨rfl, hr⟩ := ht.good b a' rfl
        have HR3 := Aside0.mk hr
        clear ht hr he
        go_wp2_with fail
        go_ret
        exact TextEnds.ok rfl HR3.out HO3.out
  · have e1 : (kind == 33) = false := beq_eq_false_iff_ne.mpr k1
    rw [if_neg k1] at hR
    have HE := Lib.hid hR
    clear k1 hR
    go_enter Try.func90, Try.ntmps90
    go_wp2_with fail
    refine (ends_calls HR.out hs HA.out.1 HA.out.2.1 HA.out.2.2.1 HA.out.2.2.2).mono ?_
    obtain ⟨q, hq⟩ : ∃ q, endsF s a en = q := ⟨_, rfl⟩
    have he := HE.out
    rw [hq] at he
    rw [hq]
    rintro e w2 ⟨rfl, hb⟩
    have HR2 := Aside0.mk (HR.out.below hb)
    have HO2 := Aside0.mk (Only.of_below hb g)
    clear hb hq HE
    cases q with
    | false =>
      rw [if_pos rfl] at he
      have HE := Lib.hid he
      clear he
      go_wp2_with fail
      exact ⟨rfl, TextEnds.err HE.out.symm HO2.out⟩
    | true =>
      rw [if_neg (by decide)] at he
      go_wp2_with fail
      refine (name_calls' HR2.out hs (by have := HA.out; omega) (by have := HA.out; omega)).mono ?_
      intro e w3 ht
      rw [he] at ht
      have HO3 := Aside0.mk (HO2.out.trans ht.only)
      cases R with
      | error c =>
        obtain rfl := ht.bad c rfl
        exact ⟨rfl, TextEnds.err rfl HO3.out⟩
      | ok x =>
        obtain ⟨b, a'⟩ := x
        obtain ⟨rfl, hr⟩ := ht.good b a' rfl
        have HR3 := Aside0.mk hr
        clear ht hr he
        go_wp2_with fail
        go_ret
        exact TextEnds.ok rfl HR3.out HO3.out
def numsR (s : ByteArray) (sz en : Int) : Nat → List Int → Int → Except Int (List Int × Int)
  | 0, out, a => .ok (out, a)
  | k + 1, out, a => if en - a < sz then .error 50 else
    match getF s a sz with
    | none => .error 2
    | some n => numsR s sz en k (out ++ [n]) (a + sz)
structure Ends {α : Type} (P : α → Value → World → Prop) (R : Except Int (α × Int)) (w : World) (g : Nat) (s : ByteArray) (e : Ending) (w' : World) : Prop where
  bad : ∀ c, R = .error c → e = gaveUp c
  good : ∀ x a, R = .ok (x, a) → ∃ v, e = .returned v ∧ P x v w' ∧ RAt w' g s a
  only : Only g w w'
section
variable {α : Type} {P : α → Value → World → Prop} {R : Except Int (α × Int)} {w w' : World} {g : Nat} {s : ByteArray} {a c : Int} {v : Value} {x : α}
theorem Ends.err (h : R = .error c) (ho : Only g w w') : Ends P R w g s (gaveUp c) w' :=
  ⟨fun d hd => by rw [h] at hd; rw [Except.error.inj hd], fun b a hb => by rw [h] at hb; exact absurd hb (by simp), ho⟩
theorem Ends.ok (h : R = .ok (x, a)) (hp : P x v w') (hr : RAt w' g s a) (ho : Only g w w') : Ends P R w g s (.returned v) w' :=
  ⟨fun d hd => by rw [h] at hd; exact absurd hd (by simp), fun b' a' hb => by rw [h] at hb; obtain ⟨rfl, rfl⟩ := Prod.mk.inj (Except.ok.inj hb); exact ⟨v, rfl, hp, hr⟩, ho⟩
end
theorem val_bound (l : List Int) (hl : ∀ x ∈ l, 0 ≤ x ∧ x < 256) (n : Int) (N : Nat) (h0 : 0 ≤ n) (h1 : n < 256 ^ N) : 0 ≤ valF n l ∧ valF n l < 256 ^ (N + l.length) := by
  induction l generalizing n N with
  | nil => exact ⟨h0, h1⟩
  | cons c l ih =>
    have hc := hl c (by simp)
    have := ih (fun x hx => hl x (by simp [hx])) (n * 256 + c) (N + 1) (by omega) (by rw [Int.pow_succ]; omega)
    rw [show N + (c :: l).length = N + 1 + l.length by simp; omega]
    exact this
theorem get_bound {s : ByteArray} {a : Int} {z : Nat} {n : Int} (h : getF s a z = some n) : 0 ≤ n ∧ n < 256 ^ z := by
  obtain ⟨t, h1, rfl, _⟩ := get_part h
  obtain ⟨h2, _⟩ := part_size h1
  have := val_bound (bytesOf t) (fun x hx => by
    unfold bytesOf at hx
    obtain ⟨b, _, rfl⟩ := List.mem_map.1 hx
    have := b.toNat_lt
    omega) 0 0 (by omega) (by decide)
  rw [bytesOf_length, show t.size = z by omega, Nat.zero_add] at this
  exact this
def NumsP (B : Nat) (l : List Int) (v : Value) (w' : World) : Prop := Kd.R (Kd.int .u32) 81 w' B (fun _ => True) v l
set_option maxHeartbeats 4000000 in
set_option maxRecDepth 100000 in
theorem numbers_calls {w : World} {g : Nat} {s : ByteArray} {a en : Int} {count z : Nat} (h : RAt w g s a) (hs : s.size ≤ 1000000) (h0 : 0 ≤ a) (ha : a ≤ s.size) (he : en ≤ s.size) (he0 : 0 ≤ en) (hc : count ≤ 10) (hz : z = 2 ∨ z = 4) :
    Calls Try.prog 89 #[.pointer (some ⟨g, 0, none⟩), .int .i64 count, .int .i64 z, .int .i64 en] w fun e w' => Ends (NumsP w.heap.size) (numsR s z en count [] a) w g s e w' := by
  obtain ⟨R, hR⟩ : ∃ R, numsR s z en count [] a = R := ⟨_, rfl⟩
  rw [hR]
  have HR := Aside0.mk h
  have HE := Aside0.mk hR
  have HO := Aside0.mk (Only.refl g w)
  have HS := Lib.hid (show s.size ≤ 1000000 ∧ en ≤ s.size ∧ 0 ≤ en from ⟨hs, he, he0⟩)
  have HZ := Lib.hid hz
  have HA := Lib.hid (show 0 ≤ a ∧ a ≤ s.size from ⟨h0, ha⟩)
  have p1 : (count : Int) ≤ 10 := by omega
  have p2 : 0 ≤ en := he0
  have p3 : en ≤ 1000000 := by omega
  have HC := Lib.hid hc
  clear h hR hs hz h0 ha he he0 hc
  go_enter Try.func89, Try.ntmps89
  go_wp2_with fail
  go_loopg [9, 11] count (fun kq v9 v11 w' => ∃ (i : Nat) (out : List Int) (at' : Int), v11 = .int .i64 i ∧ Aside0 (numsR s z en kq out at' = R) ∧ Aside0 (kq + i = count) ∧ Aside0 (out.length = i) ∧ Aside0 (0 ≤ at' ∧ at' ≤ s.size) ∧ Aside0 (RAt w' g s at') ∧ Aside0 (Only g w w') ∧ Aside0 (NumsP w.heap.size out v9 w'))
  case atStart => exact ⟨0, [], a, rfl, HE, ⟨rfl⟩, ⟨rfl⟩, ⟨HA.out⟩, HR, HO, ⟨Kd.R_nil _ _ _ _ _⟩⟩
  case round =>
    clear HE HO HR HA
    obtain ⟨i, out, at', rfl, HE, HK, HL, HA, HR, HO, HB⟩ := hrel
    have he := HE.out
    clear HE
    cases gk with
    | zero =>
      have HE := Lib.hid he
      obtain rfl : i = count := by have := HK.out; omega
      clear he
      go_wp2_with fail
      go_ret
      exact Ends.ok HE.out.symm HB.out HR.out HO.out
    | succ k =>
      unfold numsR at he
      have z1 := HR.out.c1
      obtain ⟨a0, a1⟩ := HA.out
      have q1 : (i : Int) < (count : Int) := by have := HK.out; omega
      have q2 : at' ≤ 1000000 := by have := HS.out.1; omega
      have q3 : (z : Int) ≤ 4 := by have := HZ.out; omega
      by_cases c1 : en - at' < z
      · rw [if_pos c1] at he
        have HE := Lib.hid he
        have d1 : decide (en - at' < (z : Int)) = true := decide_eq_true c1
        clear he c1
        go_wp2_with fail
        exact ⟨rfl, Ends.err HE.out.symm HO.out⟩
      rw [if_neg c1] at he
      have d1 : decide (en - at' < (z : Int)) = false := decide_eq_false c1
      cases h1 : getF s at' z with
      | none =>
        rw [h1] at he
        have H1 := Lib.hid h1
        have HE := Lib.hid he
        clear he h1 c1
        go_wp2_with fail
        refine (num_no HR.out HS.out.1 H1.out).mono ?_
        rintro e w2 ⟨rfl, ho⟩
        exact ⟨rfl, Ends.err HE.out.symm (HO.out.trans ho)⟩
      | some n =>
        rw [h1] at he
        simp only [] at he
        have HE := Aside0.mk he
        have H1 := Lib.hid h1
        obtain ⟨n0, n1⟩ := get_bound h1
        have hn32 : n < 4294967296 := by
          rcases HZ.out with hz | hz
          · rw [hz] at n1; omega
          · rw [hz] at n1; omega
        have hw : IntKind.u32.wrap n = n := by rw [IntKind.wrap_u32]; omega
        have ga := get_at h1
        have HA2 := Aside0.mk (show 0 ≤ at' + z ∧ at' + z ≤ s.size by omega)
        have HL1 := Aside0.mk (show (out.length + 1) * 4 ≤ 140737488355328 by have := HL.out; have := HK.out; have := HC.out; omega)
        clear h1 c1 he n1 ga
        go_wp2_with fail
        refine (num_yes HR.out HS.out.1 H1.out).mono ?_
        rintro e w2 ⟨rfl, hr, ho⟩
        have HR2 := Aside0.mk hr
        have HO2 := Aside0.mk (HO.out.trans ho)
        have HB2 := Aside0.mk (R_only HB.out HR.out (by decide) ho)
        clear hr ho z1
        go_wp2_with (((with_reducible refine gate_builtin (b := .append) (xs := #[.tmp 22, .tmp 27]) rfl ?_); at_builtin; go_must (refine app32 rfl (.tmp 22) (.tmp 27) rfl rfl (by first | rfl | (go_simp; done)) HB2.out (Below.refl _ _) (fun _ _ _ => trivial) HO2.out.size HL1.out ?_; intro va wa hoa hba hga hata)); go_must (have HR4 := Aside0.mk (blk_grown HR2.out hga (Kd.R_ne HB2.out HR2.out (by decide))); have HO4 := Aside0.mk (HO2.out.of_grown hga (Kd.R_base HB2.out)); have HB4 := Aside0.mk hoa; clear hoa hba hga hata))
        go_roundg k
        case measure => omega
        case rel => exact ⟨i + 1, _, at' + z, by go_num, HE, ⟨by have := HK.out; omega⟩, ⟨by have := HL.out; rw [List.length_append, List.length_singleton]; omega⟩, HA2, HR4, HO4, HB4⟩
end Go.Proofs.Ytfoflodgegehfaa.M
set_option linter.unusedVariables false
set_option linter.unusedSimpArgs false
namespace Go.Proofs.Ytfoflodgegehfaa.M
open Go.RowKit Go.Proofs.YtfoflodgegehfaaW.PrintWords Go.Proofs.YtfoflodgegehfaaW.PrintLast Go.Proofs.YtfoflodgegehfaaW.PrintMore
attribute [local go_sem] max2_int min2_int max_two min_two max_three min_three max_four min_four
def idxOf (p : ByteArray → Bool) (xs : List ByteArray) : Int := match xs.findIdx? p with | some i => i | none => -1
theorem upto_succ {P : Nat → Prop} {k : Nat} (h : ∀ j, j < k → P j) (hk : P k) : ∀ j, j < k + 1 → P j := by
  intro j hj
  by_cases e : j = k
  · rw [e]; exact hk
  · exact h j (by omega)
theorem idxOf_yes {p : ByteArray → Bool} {xs : List ByteArray} {k : Nat} (h : ∀ j, j < k → p (xs.getD j ⟨#[]⟩) = false) (hk : k < xs.length) (hp : p (xs.getD k ⟨#[]⟩) = true) : idxOf p xs = k := by
  unfold idxOf
  have : xs.findIdx? p = some k := by
    rw [List.findIdx?_eq_some_iff_getElem]
    refine ⟨hk, ?_, fun j hj => ?_⟩
    · simpa [List.getD_eq_getElem?_getD, List.getElem?_eq_getElem hk] using hp
    · have := h j hj
      simpa [List.getD_eq_getElem?_getD, List.getElem?_eq_getElem (show j < xs.length by omega)] using this
  rw [this]
theorem idxOf_no {p : ByteArray → Bool} {xs : List ByteArray} (h : ∀ j, j < xs.length → p (xs.getD j ⟨#[]⟩) = false) : idxOf p xs = -1 := by
  unfold idxOf
  have : xs.findIdx? p = none := by
    rw [List.findIdx?_eq_none_iff]
    intro x hx
    obtain ⟨j, hj, rfl⟩ := List.getElem_of_mem hx
    have := h j hj
    simpa [List.getD_eq_getElem?_getD, List.getElem?_eq_getElem hj] using this
  rw [this]
def tooLong (s : ByteArray) : Bool := decide (255 < s.size)
theorem tooLong_yes (s : ByteArray) (w : World) (h : tooLong s = true) : Calls Try.prog 99 #[.string s] w fun e w' => e = .returned (.bool true) ∧ Below w.heap.size w w' := by
  have h1 : decide (255 < s.size) = true := h
  have h2 : decide ((255 : Int) < (s.size : Int)) = true := decide_eq_true (by have := of_decide_eq_true h1; omega)
  clear h
  go_enter Try.func99, Try.ntmps99
  go_wp2
  go_ret
  exact ⟨rfl, Below.refl _ _⟩
theorem tooLong_no (s : ByteArray) (w : World) (h : tooLong s = false) : Calls Try.prog 99 #[.string s] w fun e w' => e = .returned (.bool false) ∧ Below w.heap.size w w' := by
  have h1 : decide (255 < s.size) = false := h
  have h2 : decide ((255 : Int) < (s.size : Int)) = false := decide_eq_false (by have := of_decide_eq_false h1; omega)
  clear h
  go_enter Try.func99, Try.ntmps99
  go_wp2
  go_ret
  exact ⟨rfl, Below.refl _ _⟩
set_option maxHeartbeats 1000000 in
theorem IndexFunc_tooLong (A : Option Addr) (c : Nat) (xs : List ByteArray) (w : World) (hr : Kd.string.C w A xs.length xs) (hm : xs.length ≤ 1000000000000) :
    Calls Try.prog 98 #[.slice A xs.length c, .func (.func 99) #[] #[]] w fun e w' => e = .returned (.int .i64 (idxOf tooLong xs)) ∧ Below w.heap.size w w' := by
  have HC := Aside0.mk hr
  have HB := Aside0.mk (Below.refl w.heap.size w)
  clear hr
  go_enter Try.func98, Try.ntmps98
  go_wp2
  go_loopw [8] (fun t wr => ∃ k : Nat, t = .int .i64 k ∧ Aside0 (k ≤ xs.length) ∧ Aside0 (∀ j, j < k → tooLong (xs.getD j ⟨#[]⟩) = false) ∧ Aside0 (Below w.heap.size w wr)) (fun t _ => xs.length - (intOf t).toNat)
  case atStart => exact ⟨0, rfl, ⟨Nat.zero_le _⟩, ⟨fun j hj => absurd hj (by omega)⟩, HB⟩
  case round =>
    clear HB
    obtain ⟨k, rfl, HK, HN, HB⟩ := hrel
    by_cases hk : k < xs.length
    · obtain ⟨ad, rfl, hcell⟩ := at_str (Kd.C_below HC.out HB.out) k hk
      have q1 : (0 : Int) ≤ (k : Int) := by omega
      have q2 : (k : Int) < (xs.length : Int) := by omega
      obtain ⟨s, hs⟩ : ∃ s, xs.getD k ⟨#[]⟩ = s := ⟨_, rfl⟩
      rw [hs] at hcell
      have HS := Lib.hid hs
      clear hs
      by_cases hq : tooLong s = true
      · have HQ := Lib.hid hq
        clear hq
        go_wp2_with (go_at_call 99; refine (tooLong_yes s _ HQ.out).mono ?_; rintro e w' ⟨rfl, hb⟩; have HB' := Aside0.mk (HB.out.trans (hb.mono (below_size HB.out))); clear hb)
        go_ret
        exact ⟨by rw [idxOf_yes HN.out hk (by rw [HS.out]; exact HQ.out)]; rfl, HB'.out⟩
      · have HQ := Lib.hid (Bool.eq_false_iff.mpr hq)
        clear hq
        go_wp2_with (go_at_call 99; refine (tooLong_no s _ HQ.out).mono ?_; rintro e w' ⟨rfl, hb⟩; have HB' := Aside0.mk (HB.out.trans (hb.mono (below_size HB.out))); clear hb)
        go_roundw
        case rel => exact ⟨k + 1, by go_num, ⟨hk⟩, ⟨upto_succ HN.out (by rw [HS.out]; exact HQ.out)⟩, HB'⟩
        case measure => simp [intOf]; omega
    · go_wp2
      go_ret
      have := HK.out
      obtain rfl : k = xs.length := by omega
      exact ⟨by rw [idxOf_no HN.out]; rfl, HB.out⟩
def notName (s : ByteArray) : Bool := !isName s
theorem notName_yes (s : ByteArray) (w : World) (h : notName s = true) : Calls Try.prog 92 #[.string s] w fun e w' => e = .returned (.bool true) ∧ Below w.heap.size w w' := by
  have H := Lib.hid (show isName s = false by unfold notName at h; simpa using h)
  clear h
  go_enter Try.func92, Try.ntmps92
  go_wp2_with (go_at_call 64; refine (isName_no s _ H.out).mono ?_; rintro e w' ⟨rfl, hb⟩; have HB := Aside0.mk hb; clear hb)
  go_ret
  exact ⟨rfl, HB.out⟩
theorem notName_no (s : ByteArray) (w : World) (h : notName s = false) : Calls Try.prog 92 #[.string s] w fun e w' => e = .returned (.bool false) ∧ Below w.heap.size w w' := by
  have H := Lib.hid (show isName s = true by unfold notName at h; simpa using h)
  clear h
  go_enter Try.func92, Try.ntmps92
  go_wp2_with (go_at_call 64; refine (isName_yes s _ H.out).mono ?_; rintro e w' ⟨rfl, hb⟩; have HB := Aside0.mk hb; clear hb)
  go_ret
  exact ⟨rfl, HB.out⟩
set_option maxHeartbeats 1000000 in
theorem IndexFunc_notName (A : Option Addr) (c : Nat) (xs : List ByteArray) (w : World) (hr : Kd.string.C w A xs.length xs) (hm : xs.length ≤ 1000000000000) :
    Calls Try.prog 98 #[.slice A xs.length c, .func (.func 92) #[] #[]] w fun e w' => e = .returned (.int .i64 (idxOf notName xs)) ∧ Below w.heap.size w w' := by
  have HC := Aside0.mk hr
  have HB := Aside0.mk (Below.refl w.heap.size w)
  clear hr
  go_enter Try.func98, Try.ntmps98
  go_wp2
  go_loopw [8] (fun t wr => ∃ k : Nat, t = .int .i64 k ∧ Aside0 (k ≤ xs.length) ∧ Aside0 (∀ j, j < k → notName (xs.getD j ⟨#[]⟩) = false) ∧ Aside0 (Below w.heap.size w wr)) (fun t _ => xs.length - (intOf t).toNat)
  case atStart => exact ⟨0, rfl, ⟨Nat.zero_le _⟩, ⟨fun j hj => absurd hj (by omega)⟩, HB⟩
  case round =>
    clear HB
    obtain ⟨k, rfl, HK, HN, HB⟩ := hrel
    by_cases hk : k < xs.length
    · obtain ⟨ad, rfl, hcell⟩ := at_str (Kd.C_below HC.out HB.out) k hk
      have q1 : (0 : Int) ≤ (k : Int) := by omega
      have q2 : (k : Int) < (xs.length : Int) := by omega
      obtain ⟨s, hs⟩ : ∃ s, xs.getD k ⟨#[]⟩ = s := ⟨_, rfl⟩
      rw [hs] at hcell
      have HS := Lib.hid hs
      clear hs
      by_cases hq : notName s = true
      · have HQ := Lib.hid hq
        clear hq
        go_wp2_with (go_at_call 92; refine (notName_yes s _ HQ.out).mono ?_; rintro e w' ⟨rfl, hb⟩; have HB' := Aside0.mk (HB.out.trans (hb.mono (below_size HB.out))); clear hb)
        go_ret
        exact ⟨by rw [idxOf_yes HN.out hk (by rw [HS.out]; exact HQ.out)]; rfl, HB'.out⟩
      · have HQ := Lib.hid (Bool.eq_false_iff.mpr hq)
        clear hq
        go_wp2_with (go_at_call 92; refine (notName_no s _ HQ.out).mono ?_; rintro e w' ⟨rfl, hb⟩; have HB' := Aside0.mk (HB.out.trans (hb.mono (below_size HB.out))); clear hb)
        go_roundw
        case rel => exact ⟨k + 1, by go_num, ⟨hk⟩, ⟨upto_succ HN.out (by rw [HS.out]; exact HQ.out)⟩, HB'⟩
        case measure => simp [intOf]; omega
    · go_wp2
      go_ret
      have := HK.out
      obtain rfl : k = xs.length := by omega
      exact ⟨by rw [idxOf_no HN.out]; rfl, HB.out⟩
theorem idxOf_any {p : ByteArray → Bool} {xs : List ByteArray} : (0 ≤ idxOf p xs ↔ xs.any p = true) ∧ idxOf p xs ≤ xs.length ∧ -1 ≤ idxOf p xs := by
  unfold idxOf
  cases h : xs.findIdx? p with
  | none =>
    rw [List.findIdx?_eq_none_iff] at h
    refine ⟨⟨fun h0 => absurd h0 (by decide), fun h1 => ?_⟩, by simp, by simp⟩
    obtain ⟨x, hx, hp⟩ := List.any_eq_true.1 h1
    rw [h x hx] at hp
    exact absurd hp (by decide)
  | some i =>
    obtain ⟨hi, hp, _⟩ := List.findIdx?_eq_some_iff_getElem.1 h
    refine ⟨⟨fun _ => List.any_eq_true.2 ⟨_, List.getElem_mem hi, hp⟩, fun _ => by simp⟩, by simp; omega, by simp only []; omega⟩
theorem Contains_tooLong (A : Option Addr) (c : Nat) (xs : List ByteArray) (w : World) (hr : Kd.string.C w A xs.length xs) (hm : xs.length ≤ 1000000000000) (b : Bool) (hb : xs.any tooLong = b) :
    Calls Try.prog 91 #[.slice A xs.length c, .func (.func 99) #[] #[]] w fun e w' => e = .returned (.bool b) ∧ Below w.heap.size w w' := by
  obtain ⟨h1, h2, h3⟩ := @idxOf_any tooLong xs
  obtain ⟨i, hi⟩ : ∃ i, idxOf tooLong xs = i := ⟨_, rfl⟩
  rw [hi] at h1 h2 h3
  have HI := Lib.hid hi
  have HC := Aside0.mk hr
  have HF := Lib.hid (show decide (0 ≤ i) = b by rw [← hb, Bool.eq_iff_iff, decide_eq_true_iff]; exact h1)
  clear hi hb hr h1
  go_enter Try.func91, Try.ntmps91
  go_wp2_with (go_at_call 98; refine (IndexFunc_tooLong A c xs _ HC.out hm).mono ?_; rw [HI.out]; rintro e w' ⟨rfl, hb⟩; have HB := Aside0.mk hb; clear hb)
  go_ret
  exact ⟨by rw [← HF.out]; rfl, HB.out⟩
theorem Contains_notName (A : Option Addr) (c : Nat) (xs : List ByteArray) (w : World) (hr : Kd.string.C w A xs.length xs) (hm : xs.length ≤ 1000000000000) (b : Bool) (hb : xs.any notName = b) :
    Calls Try.prog 91 #[.slice A xs.length c, .func (.func 92) #[] #[]] w fun e w' => e = .returned (.bool b) ∧ Below w.heap.size w w' := by
  obtain ⟨h1, h2, h3⟩ := @idxOf_any notName xs
  obtain ⟨i, hi⟩ : ∃ i, idxOf notName xs = i := ⟨_, rfl⟩
  rw [hi] at h1 h2 h3
  have HI := Lib.hid hi
  have HC := Aside0.mk hr
  have HF := Lib.hid (show decide (0 ≤ i) = b by rw [← hb, Bool.eq_iff_iff, decide_eq_true_iff]; exact h1)
  clear hi hb hr h1
  go_enter Try.func91, Try.ntmps91
  go_wp2_with (go_at_call 98; refine (IndexFunc_notName A c xs _ HC.out hm).mono ?_; rw [HI.out]; rintro e w' ⟨rfl, hb⟩; have HB := Aside0.mk hb; clear hb)
  go_ret
  exact ⟨by rw [← HF.out]; rfl, HB.out⟩
end Go.Proofs.Ytfoflodgegehfaa.M
set_option linter.unusedVariables false
set_option linter.unusedSimpArgs false
namespace Go.Proofs.Ytfoflodgegehfaa.M
open Go.RowKit Go.Proofs.YtfoflodgegehfaaW.PrintWords Go.Proofs.YtfoflodgegehfaaW.PrintLast Go.Proofs.YtfoflodgegehfaaW.PrintMore
attribute [local go_sem] max2_int min2_int max_two min_two max_three min_three max_four min_four
def shapeOf (k : Int) : Nat × Nat × Nat :=
  if k = 2 then (1, 0, 0) else if k = 5 then (1, 0, 0) else if k = 12 then (1, 0, 0) else if k = 6 then (2, 5, 0) else if k = 15 then (1, 1, 0) else if k = 33 then (1, 3, 0) else (0, 0, 1)
theorem shapeOf_le (k : Int) : (shapeOf k).1 ≤ 2 ∧ (shapeOf k).2.1 ≤ 5 ∧ (shapeOf k).2.2 ≤ 1 := by
  unfold shapeOf
  repeat' split
  all_goals decide
theorem Shape_calls (k : Int) (w : World) : Calls Try.prog 88 #[.int .u16 k] w fun e w' => e = .returned (.tuple #[.int .i64 (shapeOf k).1, .int .i64 (shapeOf k).2.1, .int .i64 (shapeOf k).2.2]) ∧ w = w' := by
  obtain ⟨x, hx⟩ : ∃ x, shapeOf k = x := ⟨_, rfl⟩
  rw [hx]
  unfold shapeOf at hx
  by_cases h1 : k = 2
  · subst h1; subst hx
    go_enter Try.func88, Try.ntmps88
    go_wp2
    go_ret3
    exact ⟨rfl, rfl⟩
  by_cases h2 : k = 5
  · subst h2; subst hx
    go_enter Try.func88, Try.ntmps88
    go_wp2
    go_ret3
    exact ⟨rfl, rfl⟩
  by_cases h3 : k = 12
  · subst h3; subst hx
    go_enter Try.func88, Try.ntmps88
    go_wp2
    go_ret3
    exact ⟨rfl, rfl⟩
  by_cases h4 : k = 6
  · subst h4; subst hx
    go_enter Try.func88, Try.ntmps88
    go_wp2
    go_ret3
    exact ⟨rfl, rfl⟩
  by_cases h5 : k = 15
  · subst h5; subst hx
    go_enter Try.func88, Try.ntmps88
    go_wp2
    go_ret3
    exact ⟨rfl, rfl⟩
  by_cases h6 : k = 33
  · subst h6; subst hx
    go_enter Try.func88, Try.ntmps88
    go_wp2
    go_ret3
    exact ⟨rfl, rfl⟩
  rw [if_neg h1, if_neg h2, if_neg h3, if_neg h4, if_neg h5, if_neg h6] at hx
  subst hx
  replace h1 : (k == 2) = false := beq_eq_false_iff_ne.mpr h1
  replace h2 : (k == 5) = false := beq_eq_false_iff_ne.mpr h2
  replace h3 : (k == 12) = false := beq_eq_false_iff_ne.mpr h3
  replace h4 : (k == 6) = false := beq_eq_false_iff_ne.mpr h4
  replace h5 : (k == 15) = false := beq_eq_false_iff_ne.mpr h5
  replace h6 : (k == 33) = false := beq_eq_false_iff_ne.mpr h6
  go_enter Try.func88, Try.ntmps88
  go_wp2
  go_ret3
  exact ⟨rfl, rfl⟩
theorem four_beq (a : Nat) : ((a : Int) == 4) = decide (a = 4) := by
  rw [Bool.eq_iff_iff]
  simp only [beq_iff_eq, decide_eq_true_eq]
  omega
theorem sixteen_beq (a : Nat) : ((a : Int) == 16) = decide (a = 16) := by
  rw [Bool.eq_iff_iff]
  simp only [beq_iff_eq, decide_eq_true_eq]
  omega
def shapedE (r : Rec) : Bool := if r.f1 = 1 then decide ((r.f6.getD 0 ⟨#[]⟩).size = 4) else if r.f1 = 28 then decide ((r.f6.getD 0 ⟨#[]⟩).size = 16) else if r.f1 = 16 then !(r.f6.any tooLong) else true
def shapedB (r : Rec) : Bool := decide (r.f4.length = (shapeOf r.f1).1 ∧ r.f5.length = (shapeOf r.f1).2.1 ∧ (r.f6.length = (shapeOf r.f1).2.2 ∨ r.f1 = 16 ∧ r.f6.length ≠ 0) ∧ (r.f1 = 6 ∨ r.f5.all fun n => decide (n ≤ 65535))) && shapedE r
set_option maxHeartbeats 2000000 in
set_option maxRecDepth 100000 in
theorem shaped_calls (r : Rec) (v : Value) (w : World) (hv : RecAt w v r) (hm : r.f6.length ≤ 1000000000) :
    Calls Try.prog 93 #[v] w fun e w' => e = .returned (.bool (shapedB r)) ∧ Below w.heap.size w w' := by
  obtain ⟨A4, c4, A5, c5, A6, c6, rfl, l4, g4, l5, g5, l6, g6⟩ := hv
  have G5 := Aside0.mk g5
  have G6 := Aside0.mk g6
  clear g4 g5 g6
  obtain ⟨s1, s2, s3⟩ := shapeOf_le r.f1
  obtain ⟨⟨a, b, c⟩, hs⟩ : ∃ x, shapeOf r.f1 = x := ⟨_, rfl⟩
  obtain ⟨R, hR⟩ : ∃ R, shapedB r = R := ⟨_, rfl⟩
  rw [hR]
  rw [hs] at s1 s2 s3
  have HR := Lib.hid hR
  have HS := Lib.hid hs
  clear hR hs
  by_cases k1 : r.f4.length = a
  case neg =>
    have HF := Lib.hid (show R = false by rw [← HR.out]; unfold shapedB; rw [HS.out]; simp [k1])
    have e1 : ((r.f4.length : Int) != (a : Int)) = true := by rw [bne_iff_ne]; omega
    clear k1
    go_enter Try.func93, Try.ntmps93
    go_wp2_with (first | (((with_reducible refine gate_dst (N := 1) rfl ?_); refine box_event rfl (N := 1) rfl (cs := #[.string r.f0, .int .u16 r.f1, .int .u16 r.f2, .int .u32 r.f3, .slice A4 r.f4.length c4, .slice A5 r.f5.length c5, .slice A6 r.f6.length c6]) (t := 85) (by first | (go_simp; done) | (go_simp; rfl)) ?_; intro g hg w1 hbox hb); obtain ⟨z0, z1⟩ : w1.cell? ⟨g, 1, none⟩ = some (.int .u16 r.f1) ∧ w1.cell? ⟨g, 4, none⟩ = some (.slice A4 r.f4.length c4) := ⟨(blk_cell hbox 1).trans rfl, (blk_cell hbox 4).trans rfl⟩; obtain ⟨z2, z3⟩ : w1.cell? ⟨g, 5, none⟩ = some (.slice A5 r.f5.length c5) ∧ w1.cell? ⟨g, 6, none⟩ = some (.slice A6 r.f6.length c6) := ⟨(blk_cell hbox 5).trans rfl, (blk_cell hbox 6).trans rfl⟩; have HB := Aside0.mk hb; have HX := Aside0.mk hbox; clear hb hbox hg) | (go_at_call 88; refine (Shape_calls r.f1 _).mono ?_; rw [HS.out]; rintro e w' ⟨rfl, rfl⟩))
    go_ret
    exact ⟨by rw [HF.out]; rfl, HB.out⟩
  by_cases k2 : r.f5.length = b
  case neg =>
    have HF := Lib.hid (show R = false by rw [← HR.out]; unfold shapedB; rw [HS.out]; simp [k2])
    have e1 : ((r.f4.length : Int) != (a : Int)) = false := by rw [bne_eq_false_iff_eq]; omega
    have e2 : ((r.f5.length : Int) != (b : Int)) = true := by rw [bne_iff_ne]; omega
    clear k1 k2
    go_enter Try.func93, Try.ntmps93
    go_wp2_with (first | (((with_reducible refine gate_dst (N := 1) rfl ?_); refine box_event rfl (N := 1) rfl (cs := #[.string r.f0, .int .u16 r.f1, .int .u16 r.f2, .int .u32 r.f3, .slice A4 r.f4.length c4, .slice A5 r.f5.length c5, .slice A6 r.f6.length c6]) (t := 85) (by first | (go_simp; done) | (go_simp; rfl)) ?_; intro g hg w1 hbox hb); obtain ⟨z0, z1⟩ : w1.cell? ⟨g, 1, none⟩ = some (.int .u16 r.f1) ∧ w1.cell? ⟨g, 4, none⟩ = some (.slice A4 r.f4.length c4) := ⟨(blk_cell hbox 1).trans rfl, (blk_cell hbox 4).trans rfl⟩; obtain ⟨z2, z3⟩ : w1.cell? ⟨g, 5, none⟩ = some (.slice A5 r.f5.length c5) ∧ w1.cell? ⟨g, 6, none⟩ = some (.slice A6 r.f6.length c6) := ⟨(blk_cell hbox 5).trans rfl, (blk_cell hbox 6).trans rfl⟩; have HB := Aside0.mk hb; have HX := Aside0.mk hbox; clear hb hbox hg) | (go_at_call 88; refine (Shape_calls r.f1 _).mono ?_; rw [HS.out]; rintro e w' ⟨rfl, rfl⟩))
    go_ret
    exact ⟨by rw [HF.out]; rfl, HB.out⟩
  have e1 : ((r.f4.length : Int) != (a : Int)) = false := by rw [bne_eq_false_iff_eq]; omega
  have e2 : ((r.f5.length : Int) != (b : Int)) = false := by rw [bne_eq_false_iff_eq]; omega
  by_cases k3 : r.f6.length = c ∨ r.f1 = 16 ∧ r.f6.length ≠ 0
  case neg =>
    have HF := Lib.hid (show R = false by rw [← HR.out]; unfold shapedB; rw [HS.out, decide_eq_false (fun h => k3 h.2.2.1)]; rfl)
    have e3 : ((r.f6.length : Int) != (c : Int)) = true := by rw [bne_iff_ne]; omega
    by_cases k4 : r.f1 = 16
    · have e5 : ((r.f6.length : Int) == 0) = true := beq_iff_eq.mpr (by omega)
      have e4 : (r.f1 != 16) = false := by rw [bne_eq_false_iff_eq]; exact k4
      clear k1 k2 k3 k4
      go_enter Try.func93, Try.ntmps93
      go_wp2_with (first | (((with_reducible refine gate_dst (N := 1) rfl ?_); refine box_event rfl (N := 1) rfl (cs := #[.string r.f0, .int .u16 r.f1, .int .u16 r.f2, .int .u32 r.f3, .slice A4 r.f4.length c4, .slice A5 r.f5.length c5, .slice A6 r.f6.length c6]) (t := 85) (by first | (go_simp; done) | (go_simp; rfl)) ?_; intro g hg w1 hbox hb); obtain ⟨z0, z1⟩ : w1.cell? ⟨g, 1, none⟩ = some (.int .u16 r.f1) ∧ w1.cell? ⟨g, 4, none⟩ = some (.slice A4 r.f4.length c4) := ⟨(blk_cell hbox 1).trans rfl, (blk_cell hbox 4).trans rfl⟩; obtain ⟨z2, z3⟩ : w1.cell? ⟨g, 5, none⟩ = some (.slice A5 r.f5.length c5) ∧ w1.cell? ⟨g, 6, none⟩ = some (.slice A6 r.f6.length c6) := ⟨(blk_cell hbox 5).trans rfl, (blk_cell hbox 6).trans rfl⟩; have HB := Aside0.mk hb; have HX := Aside0.mk hbox; clear hb hbox hg) | (go_at_call 88; refine (Shape_calls r.f1 _).mono ?_; rw [HS.out]; rintro e w' ⟨rfl, rfl⟩))
      go_ret
      exact ⟨by rw [HF.out]; rfl, HB.out⟩
    · have e4 : (r.f1 != 16) = true := by rw [bne_iff_ne]; exact k4
      clear k1 k2 k3 k4
      go_enter Try.func93, Try.ntmps93
      go_wp2_with (first | (((with_reducible refine gate_dst (N := 1) rfl ?_); refine box_event rfl (N := 1) rfl (cs := #[.string r.f0, .int .u16 r.f1, .int .u16 r.f2, .int .u32 r.f3, .slice A4 r.f4.length c4, .slice A5 r.f5.length c5, .slice A6 r.f6.length c6]) (t := 85) (by first | (go_simp; done) | (go_simp; rfl)) ?_; intro g hg w1 hbox hb); obtain ⟨z0, z1⟩ : w1.cell? ⟨g, 1, none⟩ = some (.int .u16 r.f1) ∧ w1.cell? ⟨g, 4, none⟩ = some (.slice A4 r.f4.length c4) := ⟨(blk_cell hbox 1).trans rfl, (blk_cell hbox 4).trans rfl⟩; obtain ⟨z2, z3⟩ : w1.cell? ⟨g, 5, none⟩ = some (.slice A5 r.f5.length c5) ∧ w1.cell? ⟨g, 6, none⟩ = some (.slice A6 r.f6.length c6) := ⟨(blk_cell hbox 5).trans rfl, (blk_cell hbox 6).trans rfl⟩; have HB := Aside0.mk hb; have HX := Aside0.mk hbox; clear hb hbox hg) | (go_at_call 88; refine (Shape_calls r.f1 _).mono ?_; rw [HS.out]; rintro e w' ⟨rfl, rfl⟩))
      go_ret
      exact ⟨by rw [HF.out]; rfl, HB.out⟩
  have HG := Lib.hid (show R = (decide (r.f1 = 6 ∨ r.f5.all fun n => decide (n ≤ 65535)) && shapedE r) by rw [← HR.out]; unfold shapedB; rw [HS.out]; congr 1; exact decide_eq_decide.mpr ⟨fun h => h.2.2.2, fun h => ⟨k1, k2, k3, h⟩⟩)
  have hways : (((r.f6.length : Int) != (c : Int)) = false) ∨ (((r.f6.length : Int) != (c : Int)) = true ∧ (r.f1 != 16) = false ∧ ((r.f6.length : Int) == 0) = false) := by
    by_cases k4 : r.f6.length = c
    · exact .inl (by rw [bne_eq_false_iff_eq]; omega)
    · rcases k3 with k3 | k3
      · exact absurd k3 k4
      · exact .inr ⟨by rw [bne_iff_ne]; omega, by rw [bne_eq_false_iff_eq]; exact k3.1, beq_eq_false_iff_ne.mpr (by omega)⟩
  have ht1 : r.f1 = 1 ∨ r.f1 = 28 → 0 < r.f6.length := by
    intro h
    have : c = 1 := by
      have e := HS.out
      rcases h with h | h <;> (rw [h] at e; simpa [shapeOf] using (congrArg (fun x => x.2.2) e).symm)
    omega
  have HT := Lib.hid ht1
  have k5 : r.f5.length ≤ 5 := by simp only at s2; omega
  clear k1 k2 k3 ht1
  rcases hways with e3 | ⟨e3, e4, e5⟩
  all_goals
    go_enter Try.func93, Try.ntmps93
    go_wp2_with (first | (((with_reducible refine gate_dst (N := 1) rfl ?_); refine box_event rfl (N := 1) rfl (cs := #[.string r.f0, .int .u16 r.f1, .int .u16 r.f2, .int .u32 r.f3, .slice A4 r.f4.length c4, .slice A5 r.f5.length c5, .slice A6 r.f6.length c6]) (t := 85) (by first | (go_simp; done) | (go_simp; rfl)) ?_; intro g hg w1 hbox hb); obtain ⟨z0, z1⟩ : w1.cell? ⟨g, 1, none⟩ = some (.int .u16 r.f1) ∧ w1.cell? ⟨g, 4, none⟩ = some (.slice A4 r.f4.length c4) := ⟨(blk_cell hbox 1).trans rfl, (blk_cell hbox 4).trans rfl⟩; obtain ⟨z2, z3⟩ : w1.cell? ⟨g, 5, none⟩ = some (.slice A5 r.f5.length c5) ∧ w1.cell? ⟨g, 6, none⟩ = some (.slice A6 r.f6.length c6) := ⟨(blk_cell hbox 5).trans rfl, (blk_cell hbox 6).trans rfl⟩; have HB := Aside0.mk hb; have HX := Aside0.mk hbox; clear hb hbox hg) | (go_at_call 88; refine (Shape_calls r.f1 _).mono ?_; rw [HS.out]; rintro e w' ⟨rfl, rfl⟩))
    go_loop [48] (fun t => ∃ k : Nat, t = .int .i64 k ∧ Aside0 (k ≤ r.f5.length) ∧ Aside0 (∀ j, j < k → r.f1 = 6 ∨ r.f5.getD j 0 ≤ 65535)) (fun t => r.f5.length - (intOf t).toNat)
    case atStart => exact ⟨0, rfl, ⟨Nat.zero_le _⟩, ⟨fun j hj => absurd hj (by omega)⟩⟩
    case round =>
      obtain ⟨k, rfl, HK, HN⟩ := hrel
      by_cases hk : k < r.f5.length
      · obtain ⟨ad, rfl, hcell⟩ := at_int (Kd.C_below G5.out HB.out) k hk
        have q1 : (0 : Int) ≤ (k : Int) := by omega
        have q2 : (k : Int) < (r.f5.length : Int) := by omega
        obtain ⟨n, hn⟩ : ∃ n, r.f5.getD k 0 = n := ⟨_, rfl⟩
        rw [hn] at hcell
        have HNn := Lib.hid hn
        clear hn
        by_cases t6 : r.f1 = 6
        · have e6 : (r.f1 != 6) = false := by rw [bne_eq_false_iff_eq]; exact t6
          have HN1 := Aside0.mk (upto_succ HN.out (.inl t6))
          clear t6
          go_wp2
          go_round
          case rel => exact ⟨k + 1, by go_num, ⟨hk⟩, HN1⟩
          case measure => simp [intOf]; omega
        · have e6 : (r.f1 != 6) = true := by rw [bne_iff_ne]; exact t6
          by_cases hb : 65535 < n
          · have HF := Lib.hid (show R = false by
              rw [HG.out, Bool.and_eq_false_iff]
              refine .inl (decide_eq_false ?_)
              rintro (h | h)
              · exact t6 h
              · rw [List.all_eq_true] at h
                have := h n (by rw [← HNn.out, List.getD_eq_getElem?_getD, List.getElem?_eq_getElem hk]; exact List.getElem_mem hk)
                simp at this
                omega)
            clear t6
            go_wp2
            go_ret
            exact ⟨by rw [HF.out]; rfl, HB.out⟩
          · have HN1 := Aside0.mk (upto_succ HN.out (.inr (by rw [HNn.out]; omega)))
            clear t6
            go_wp2
            go_round
            case rel => exact ⟨k + 1, by go_num, ⟨hk⟩, HN1⟩
            case measure => simp [intOf]; omega
      · have hk' : k = r.f5.length := by have := HK.out; omega
        have HE := Lib.hid (show R = shapedE r by
          rw [HG.out, decide_eq_true, Bool.true_and]
          by_cases t6 : r.f1 = 6
          · exact .inl t6
          · refine .inr ?_
            rw [List.all_eq_true]
            intro n hn
            obtain ⟨j, hj, rfl⟩ := List.getElem_of_mem hn
            rcases HN.out j (by omega) with h | h
            · exact absurd h t6
            · rw [List.getD_eq_getElem?_getD, List.getElem?_eq_getElem hj] at h
              exact decide_eq_true h)
        clear hk'
        have h0 : (0 : Int) ≤ 0 := by decide
        by_cases t1 : r.f1 = 1
        · have l0 := HT.out (.inl t1)
          obtain ⟨ad, rfl, hcell⟩ := at_str (Kd.C_below G6.out HB.out) 0 l0
          rw [show ad.add 0 = ad from rfl] at hcell
          have l1 : (0 : Int) < (r.f6.length : Int) := by omega
          have e7 : (r.f1 == 1) = true := beq_iff_eq.mpr t1
          have HF := Lib.hid (show R = decide ((r.f6.getD 0 ⟨#[]⟩).size = 4) by rw [HE.out]; unfold shapedE; rw [if_pos t1])
          obtain ⟨s, hs⟩ : ∃ s, r.f6.getD 0 ⟨#[]⟩ = s := ⟨_, rfl⟩
          rw [hs] at hcell HF
          clear t1 hs
          go_wp2
          go_ret
          exact ⟨by rw [HF.out]; exact congrArg (fun b => Ending.returned (.bool b)) (four_beq s.size), HB.out⟩
        have e7 : (r.f1 == 1) = false := beq_eq_false_iff_ne.mpr t1
        by_cases t2 : r.f1 = 28
        · have l0 := HT.out (.inr t2)
          obtain ⟨ad, rfl, hcell⟩ := at_str (Kd.C_below G6.out HB.out) 0 l0
          rw [show ad.add 0 = ad from rfl] at hcell
          have l1 : (0 : Int) < (r.f6.length : Int) := by omega
          have e8 : (r.f1 == 28) = true := beq_iff_eq.mpr t2
          have HF := Lib.hid (show R = decide ((r.f6.getD 0 ⟨#[]⟩).size = 16) by rw [HE.out]; unfold shapedE; rw [if_neg t1, if_pos t2])
          obtain ⟨s, hs⟩ : ∃ s, r.f6.getD 0 ⟨#[]⟩ = s := ⟨_, rfl⟩
          rw [hs] at hcell HF
          clear t1 t2 hs
          go_wp2
          go_ret
          exact ⟨by rw [HF.out]; exact congrArg (fun b => Ending.returned (.bool b)) (sixteen_beq s.size), HB.out⟩
        have e8 : (r.f1 == 28) = false := beq_eq_false_iff_ne.mpr t2
        by_cases t3 : r.f1 = 16
        · have e9 : (r.f1 == 16) = true := beq_iff_eq.mpr t3
          have HF := Lib.hid (show R = !(r.f6.any tooLong) by rw [HE.out]; unfold shapedE; rw [if_neg t1, if_neg t2, if_pos t3])
          obtain ⟨b, hb⟩ : ∃ b, r.f6.any tooLong = b := ⟨_, rfl⟩
          have HFb := Lib.hid hb
          rw [hb] at HF
          clear t1 t2 t3 hb
          go_wp2_with (go_at_call 91; refine (Contains_tooLong A6 c6 r.f6 _ (Kd.C_below G6.out HB.out) (by omega) b HFb.out).mono ?_; rintro e w' ⟨rfl, hb⟩; have HB1 := Aside0.mk (HB.out.trans (hb.mono (below_size HB.out))); clear hb)
          go_ret
          exact ⟨by rw [HF.out]; rfl, HB1.out⟩
        · have e9 : (r.f1 == 16) = false := beq_eq_false_iff_ne.mpr t3
          have HF := Lib.hid (show R = true by rw [HE.out]; unfold shapedE; rw [if_neg t1, if_neg t2, if_neg t3])
          clear t1 t2 t3
          go_wp2
          go_ret
          exact ⟨by rw [HF.out]; rfl, HB.out⟩
end Go.Proofs.Ytfoflodgegehfaa.M
