-- Told by a program of ours out of Lean's print of the program.
import Derived.Test.YtdpoookgmckclaaDoorWWords
import Derived.Laws.BitsLemmas
import Derived.Lib.Hide
/-! Words of our own beside the print's: a row that is made with no element and some room. -/
set_option linter.unusedVariables false
set_option linter.unusedSimpArgs false
namespace Go.Proofs.YtdpoookgmckclaaDoorW.PrintWords
open Go.RowKit
namespace Kd
section
variable {α : Type} {P : Program} {ops : Array Oper} {o : Oper} {rest : List Oper} {a : Act} {Q : Exit → Act → World → Prop}
/-- make([]T, 0, n): no element. -/
theorem R_make0 (d : Kd α) {w0 W : World} (base e : Nat) (hgd : o.guard = none) {N : Tmp} (hd : o.dst = some N) (t : TypeId) (x y : Operand) (ho : o.op = .makeSlice t x y) (n : Int) (hx : a.eval x = .int .i64 0) (hy : a.eval y = .int .i64 n)
    (ht : P.underlying t = some (.slice e)) (z : Value) (bytes : Nat) (hinfo : (P.info? e).map (fun i => (i.zero, i.size, i.bytes)) = some (some z, d.sz, bytes)) (hb0 : 0 < bytes)
    {ok : Nat → Prop} (hfresh : ok W.heap.size) (h0 : 0 ≤ n) (hl : n.toNat * bytes ≤ 281474976710656) (HB : Below base w0 W) (hbase : base ≤ W.heap.size)
    (h : ∀ v1 w1, d.R e w1 base ok v1 [] → Below base w0 w1 → W.grownBy w1 none → (∃ b, v1.ownBlock = some b ∧ W.heap.size ≤ b) → wpList P ops Q rest (a.put o.dst v1) w1) : wpList P ops Q (o :: rest) a W := by
  obtain ⟨m, rfl⟩ := Int.eq_ofNat_of_zero_le h0
  simp only [Int.toNat_natCast] at hl
  obtain ⟨i0, hi, hzz⟩ := Option.map_eq_some_iff.1 hinfo
  simp only [Prod.mk.injEq] at hzz
  obtain ⟨hz0, hz1, hz2⟩ := hzz
  have hm : m ≤ 281474976710656 := Nat.le_trans (Nat.le_mul_of_pos_right _ hb0) hl
  have hr := run_make (P := P) W t e i0 z ht hi hz0 .i64 .i64 0 (m : Int) (by omega) (by omega)
    (by
      have h3 : ((i0.bytes * m : Nat) : Int) ≤ 281474976710656 := by rw [hz2, Nat.mul_comm]; omega
      rwa [Int.natCast_mul] at h3) (by omega)
  simp only [Int.toNat_natCast, Int.toNat_zero] at hr
  rw [hz1] at hr
  refine event_run hgd (v := .slice (some ⟨W.heap.size, 0, none⟩) 0 m) (w1 := W.alloc (.cells (madeCells z.cells (m * d.sz)) e)) (by simp [execOp, ho, hx, hy, hr]) (h _ _ ⟨fun k hk => ?_, [], ?_, Reps.none _ _⟩ (HB.alloc hbase _) (World.grownBy_alloc W _ none) ⟨W.heap.size, by simp [Value.ownBlock], Nat.le_refl _⟩)
  · have : W.heap.size = k := by simpa [Value.ownBlock] using hk
    subst this
    exact hfresh
  · exact World.ownsRow_made W _ m hbase (by simp [maxLen]; omega) (size_madeCells _ _)
/-- make([]T, n, c): n zeros, and some room. -/
theorem R_makeCap (d : Kd α) {w0 W : World} (base e : Nat) (hgd : o.guard = none) {N : Tmp} (hd : o.dst = some N) (t : TypeId) (x y : Operand) (ho : o.op = .makeSlice t x y) (n c : Int) (hx : a.eval x = .int .i64 n) (hy : a.eval y = .int .i64 c)
    (ht : P.underlying t = some (.slice e)) (z : Value) (bytes : Nat) (hinfo : (P.info? e).map (fun i => (i.zero, i.size, i.bytes)) = some (some z, d.sz, bytes)) (hz : z.cells.size = d.sz) (hs0 : 0 < d.sz) (hb0 : 0 < bytes)
    (z0 : α) {ok okp : Nat → Prop} (hzero : d.M W base okp z0 z.cells.toList) (hok : ∀ k, okp k → ok k) (hfresh : ok W.heap.size) (h0 : 0 ≤ n) (hnc : n ≤ c) (hl : c.toNat * bytes ≤ 281474976710656) (HB : Below base w0 W) (hbase : base ≤ W.heap.size)
    (h : ∀ v1 w1, d.R e w1 base ok v1 (List.replicate n.toNat z0) → Below base w0 w1 → W.grownBy w1 none → (∃ b, v1.ownBlock = some b ∧ W.heap.size ≤ b) → wpList P ops Q rest (a.put o.dst v1) w1) : wpList P ops Q (o :: rest) a W := by
  obtain ⟨m, rfl⟩ := Int.eq_ofNat_of_zero_le h0
  obtain ⟨q, rfl⟩ := Int.eq_ofNat_of_zero_le (show 0 ≤ c by omega)
  simp only [Int.toNat_natCast] at hl h
  obtain ⟨i0, hi, hzz⟩ := Option.map_eq_some_iff.1 hinfo
  simp only [Prod.mk.injEq] at hzz
  obtain ⟨hz0, hz1, hz2⟩ := hzz
  have hm : q ≤ 281474976710656 := Nat.le_trans (Nat.le_mul_of_pos_right _ hb0) hl
  have hr := run_make (P := P) W t e i0 z ht hi hz0 .i64 .i64 (m : Int) (q : Int) (by omega) (by omega)
    (by
      have h3 : ((i0.bytes * q : Nat) : Int) ≤ 281474976710656 := by rw [hz2, Nat.mul_comm]; omega
      rwa [Int.natCast_mul] at h3) (by omega)
  simp only [Int.toNat_natCast] at hr
  rw [hz1] at hr
  have hrep := (reps_made hz hs0 hzero q)
  have hfull : d.R e (W.alloc (.cells (madeCells z.cells (q * d.sz)) e)) base ok (.slice (some ⟨W.heap.size, 0, none⟩) q q) (List.replicate q z0) := by
    refine ⟨fun k hk => ?_, (madeCells z.cells (q * d.sz)).toList, ?_, ?_⟩
    · have : W.heap.size = k := by simpa [Value.ownBlock] using hk
      subst this
      exact hfresh
    · have h2 := World.ownsRow_lit (base := base) (e := e) (size := d.sz) W (madeCells z.cells (q * d.sz)) q hbase (by simp [maxLen]; omega) (size_madeCells _ _)
      simpa using h2
    · refine hrep.imp_ (fun p c hp => d.M_mono (fun k hk => ⟨hok k hk.1, fun he => ?_⟩) (M_below (d.M_bound hp) (below_alloc (Below.refl _ _) _)))
      have h3 : k = W.heap.size := by simpa [Value.ownBlock] using he
      have := hk.2.2.1
      omega
  have hcut := R_take hfull (m := m) (by simp; omega)
  rw [List.take_replicate, Nat.min_eq_left (by omega)] at hcut
  exact event_run hgd (v := .slice (some ⟨W.heap.size, 0, none⟩) m q) (w1 := W.alloc (.cells (madeCells z.cells (q * d.sz)) e)) (by simp [execOp, ho, hx, hy, hr]) (h _ _ hcut (HB.alloc hbase _) (World.grownBy_alloc W _ none) ⟨W.heap.size, by simp [Value.ownBlock], Nat.le_refl _⟩)
end
end Kd
theorem mine_wraps64 (n : Int) (h0 : 0 ≤ n) (h1 : n < 2 ^ 60) : IntKind.u64.wrap n = n := by
  simp [IntKind.wrap, IntKind.bits, IntKind.signed]
  omega
theorem mine_or_byte (b c : Int) (hb0 : 0 ≤ b) (hb1 : b < 65536) (c0 : 0 ≤ c) (c1 : c ≤ 255) : bits .or .u64 (b * 256) c = b * 256 + c :=
  bits_join .u64 60 (by decide) mine_wraps64 8 (b * 256) c (by omega) (by omega) (by omega) (by omega) (by omega) (by omega)
theorem mine_or_six (b v : Int) (hb0 : 0 ≤ b) (hb1 : b < 65536) (v0 : 0 ≤ v) (v1 : v < 64) : bits .or .u64 (b * 64) v = b * 64 + v :=
  bits_join .u64 60 (by decide) mine_wraps64 6 (b * 64) v (by omega) (by omega) (by omega) (by omega) (by omega) (by omega)
theorem mine_and_mask (i : Nat) (m : Int) (hm : m = 2 ^ i - 1) (x : Int) (h0 : 0 ≤ x) (h1 : x < 2 ^ 60) (hi : i ≤ 60 := by decide) : bits .and .u64 x m = x % 2 ^ i := by
  subst hm
  exact bits_mask .u64 60 (by decide) mine_wraps64 i hi x h0 h1

theorem mine_below_more {B n : Nat} {w W : World} (h : Below B w W) : Below B w (W.drewN n) := pw_below_drewN h n
theorem mine_bytes_cells (w1 : World) (e : TypeId) (s : ByteArray) : ∀ j : Nat, j < s.size → (Lib.bytesWorld w1 e s).cell? ⟨w1.heap.size, j, none⟩ = some (.int .u8 (bt s j)) := by
  intro j hj
  rw [Lib.bytesWorld_cell w1 e s j hj]
  congr 2
  unfold bt
  rw [dif_pos (show ((j : Int)).toNat < s.size by simpa using hj), List.getD_eq_getElem?_getD, List.getElem?_eq_getElem (by rw [data_length]; exact hj)]
  simp
  rfl
theorem mine_fresh_ne {n G : Nat} (h : G < n) : ∀ k, n ≤ k → k ≠ G := fun k hk he => by omega
theorem mine_grow_apart {w1 w2 wB : World} {v : Value} {G : Nat} (h : ∀ k, v.ownBlock = some k → k ≠ G) (hk : w1.heap[G]? = wB.heap[G]?) (hs : G < w1.heap.size) (hg : w1.grownBy w2 v.ownBlock) : w2.heap[G]? = wB.heap[G]? ∧ G < w2.heap.size :=
  ⟨(hg.block G hs (fun e => h G e.symm rfl)).trans hk, Nat.lt_of_lt_of_le hs hg.size⟩
end Go.Proofs.YtdpoookgmckclaaDoorW.PrintWords
