/- Walks of name.Fold, query.opcode, query.do. -/
import Derived.Test.YtfoflodgegehfaaMName
import Derived.Test.YtfoflodgegehfaaMTFold
import Derived.Test.YtfoflodgegehfaaMMsgSm
set_option linter.unusedVariables false
set_option linter.unusedSimpArgs false
namespace Go.Proofs.Ytfoflodgegehfaa.M
open Go.RowKit Go.Maps Go.Proofs.YtfoflodgegehfaaW.PrintWords Go.Proofs.YtfoflodgegehfaaW.PrintLast Go.Proofs.YtfoflodgegehfaaW.PrintMore
attribute [local go_sem] max2_int min2_int max_two min_two max_three min_three max_four min_four
attribute [local go_sem ↓] Go.wp_at_zero Go.wp_at_succ
/-- A name in small letters. -/
def foldN (s : ByteArray) : ByteArray := if isName s then foldS s else ⟨#[]⟩
theorem foldS_size (s : ByteArray) : (foldS s).size = s.size := by
  unfold foldS
  rw [strOfNums_size, List.length_map, bytesOf_length]
theorem isName_size {s : ByteArray} (h : isName s = true) : s.size ≠ 0 := by
  intro e
  rw [size_zero e] at h
  exact absurd h (by decide)
set_option maxHeartbeats 2000000 in
set_option maxRecDepth 100000 in
theorem foldN_calls (s : ByteArray) (w : World) (hs : s.size ≤ 1000000000000) :
    Calls Try.prog 50 #[.string s] w fun e w' => e = .returned (.string (foldN s)) ∧ Below w.heap.size w w' := by
  have HB := Aside0.mk (Below.refl w.heap.size w)
  obtain ⟨V, hV⟩ : ∃ V, foldN s = V := ⟨_, rfl⟩
  rw [hV]
  unfold foldN at hV
  cases h : isName s with
  | true =>
    rw [h, if_pos rfl] at hV
    have hc := fun w => isName_yes s w h
    have hf := fun w => fold_calls s w hs
    rw [hV] at hf
    clear hV h
    go_enter Try.func50, Try.ntmps50
    go_wp2_with fail
    refine (hc _).mono ?_
    rintro e w2 ⟨rfl, hb⟩
    have HB2 := Aside0.mk (HB.out.trans (hb.mono HB.out.size))
    clear hb HB
    go_wp2_with fail
    refine (hf _).mono ?_
    rintro e w3 ⟨rfl, hb⟩
    have HB3 := Aside0.mk (HB2.out.trans (hb.mono HB2.out.size))
    clear hb HB2
    go_wp2_with fail
    go_ret
    exact ⟨rfl, HB3.out⟩
  | false =>
    rw [h, if_neg (by simp)] at hV
    have hc := fun w => isName_no s w h
    subst hV
    clear h
    go_enter Try.func50, Try.ntmps50
    go_wp2_with fail
    refine (hc _).mono ?_
    rintro e w2 ⟨rfl, hb⟩
    have HB2 := Aside0.mk (HB.out.trans (hb.mono HB.out.size))
    clear hb HB
    go_wp2_with fail
    go_ret
    exact ⟨rfl, HB2.out⟩
theorem nat_bit (a : Nat) : a &&& 2 ^ 15 = if a / 2 ^ 15 % 2 = 1 then 2 ^ 15 else 0 := by
  apply Nat.eq_of_testBit_eq
  intro i
  rw [Nat.testBit_and, Nat.testBit_two_pow]
  by_cases h : 15 = i
  · subst h
    have e := Nat.testBit_eq_decide_div_mod_eq (x := a) (i := 15)
    rw [e]
    split
    · rename_i h2; rw [decide_eq_true h2, Nat.testBit_two_pow]; simp
    · rename_i h2; rw [decide_eq_false h2]; simp
  · rw [decide_eq_false h, Bool.and_false]
    split
    · rw [Nat.testBit_two_pow, decide_eq_false h]
    · simp
theorem and_bit (k : IntKind) (j : Nat) (hj : j ≤ k.bits) (hk : ∀ n : Int, 0 ≤ n → n < 2 ^ j → k.wrap n = n) (x : Int) (h0 : 0 ≤ x) (h1 : x < 2 ^ j) (h15 : 2 ^ 15 < 2 ^ j) :
    bits .and k x 32768 = if x / 32768 % 2 = 1 then 32768 else 0 := by
  obtain ⟨a, rfl⟩ := Int.eq_ofNat_of_zero_le h0
  have ha : a < 2 ^ j := by exact_mod_cast h1
  have e := (bits_nat k j hj hk a (2 ^ 15) ha h15).1
  rw [nat_bit] at e
  rw [show (32768 : Int) = ((2 ^ 15 : Nat) : Int) from rfl, e]
  by_cases h : a / 2 ^ 15 % 2 = 1
  · rw [if_pos h, if_pos (by omega)]
  · rw [if_neg h, if_neg (by omega)]
    rfl
theorem wraps_u16 (n : Int) (h₀ : 0 ≤ n) (h₁ : n < 2 ^ 16) : IntKind.u16.wrap n = n := by simp [IntKind.wrap, IntKind.bits, IntKind.signed]; omega
theorem wraps_u32 (n : Int) (h₀ : 0 ≤ n) (h₁ : n < 2 ^ 32) : IntKind.u32.wrap n = n := by simp [IntKind.wrap, IntKind.bits, IntKind.signed]; omega
theorem and_bit16 (x : Int) (h0 : 0 ≤ x) (h1 : x ≤ 65535) : bits .and .u16 x 32768 = if x / 32768 % 2 = 1 then 32768 else 0 := and_bit .u16 16 (by decide) wraps_u16 x h0 (by omega) (by decide)
theorem and_bit32 (x : Int) (h0 : 0 ≤ x) (h1 : x ≤ 4294967295) : bits .and .u32 x 32768 = if x / 32768 % 2 = 1 then 32768 else 0 := and_bit .u32 32 (by decide) wraps_u32 x h0 (by omega) (by decide)
theorem and_low16 (x : Int) (h0 : 0 ≤ x) (h1 : x ≤ 65535) : bits .and .u16 x 15 = x % 16 := bits_mask .u16 16 (by decide) wraps_u16 4 (by decide) x h0 (by omega)
/-- The operation's code. -/
def opF (fl : Int) : Int := fl / 2048 % 16
set_option maxHeartbeats 2000000 in
set_option maxRecDepth 100000 in
theorem opcode_calls (m : Msg) (v : Value) (w : World) (hv : MsgAt w v m) (h0 : 0 ≤ m.flags) (h1 : m.flags ≤ 65535) :
    Calls Try.prog 31 #[v] w fun e w' => e = .returned (.int .i64 (opF m.flags)) ∧ Below w.heap.size w w' := by
  obtain ⟨A2, c2, A3, c3, A4, c4, A5, c5, rfl, -, -, -, -, -, -, -, -⟩ := hv
  have HB0 := Aside0.mk (Below.refl w.heap.size w)
  have hm := and_low16 (m.flags / 2048) (by omega) (by omega)
  have hq : m.flags / 2048 % 16 = opF m.flags := rfl
  have hw : IntKind.i64.wrap (opF m.flags) = opF m.flags := by rw [IntKind.wrap_i64]; unfold opF; omega
  rw [hq] at hm
  clear hq
  generalize opF m.flags = q at *
  go_enter Try.func31, Try.ntmps31
  go_wp2_with (((with_reducible refine gate_dst (N := 1) rfl ?_); refine box_event rfl (N := 1) rfl (cs := #[.int .u16 m.id, .int .u16 m.flags, .slice A2 m.qs.length c2, .slice A3 m.ans.length c3, .slice A4 m.auth.length c4, .slice A5 m.add.length c5]) (t := 35) (by first | (go_simp; done) | (go_simp; rfl)) ?_; intro g hg w1 hbox hb); have HX := Aside0.mk hbox; have HB := Aside0.mk hb; have HGe := Aside0.mk hg; clear hb hg; have z0 : w1.cell? ⟨g, 0, none⟩ = some (.int .u16 m.id) := (blk_cell HX.out 0).trans rfl; have z1 : w1.cell? ⟨g, 1, none⟩ = some (.int .u16 m.flags) := (blk_cell HX.out 1).trans rfl; have z2 : w1.cell? ⟨g, 2, none⟩ = some (.slice A2 m.qs.length c2) := (blk_cell HX.out 2).trans rfl; have z3 : w1.cell? ⟨g, 3, none⟩ = some (.slice A3 m.ans.length c3) := (blk_cell HX.out 3).trans rfl; have z4 : w1.cell? ⟨g, 4, none⟩ = some (.slice A4 m.auth.length c4) := (blk_cell HX.out 4).trans rfl; have z5 : w1.cell? ⟨g, 5, none⟩ = some (.slice A5 m.add.length c5) := (blk_cell HX.out 5).trans rfl; have hlt : g < w1.heap.size := blk_lt hbox; have hlne : ¬ g = w1.heap.size := Nat.ne_of_lt hlt; clear hbox)
  go_ret
  exact ⟨rfl, HB.out⟩
end Go.Proofs.Ytfoflodgegehfaa.M
