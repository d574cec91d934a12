/- Walks of package num: Put. -/
import Derived.Test.YtbbeikdbioelgaaMBase
set_option linter.unusedVariables false
set_option linter.unusedSimpArgs false
namespace Go.Proofs.Ytbbeikdbioelgaa.M
open Go.RowKit Go.Proofs.YtbbeikdbioelgaaW.PrintWords Go.Proofs.YtbbeikdbioelgaaW.PrintLast Go.Proofs.YtbbeikdbioelgaaW.PrintMore
attribute [local go_sem] max2_int min2_int max_two min_two max_three min_three max_four min_four
/-- A number's last bytes, the greatest first. -/
def putL (n : Int) : Nat → List Int
  | 0 => []
  | k + 1 => n / 2 ^ (8 * k) % 256 :: putL n k

theorem copied (l : List Int) (z : Int) : l.take (min l.length (List.replicate ((l.length : Int)).toNat z).length) ++ (List.replicate ((l.length : Int)).toNat z).drop (min l.length (List.replicate ((l.length : Int)).toNat z).length) = l := by
  simp
set_option maxHeartbeats 2000000 in
set_option maxRecDepth 100000 in
theorem Put_calls (A0 : Option Addr) (c0 : Nat) (l0 : List Int) (a1 a2 : Int) (w : World) (hr0 : Kd.C (Kd.int .u8) w A0 l0.length l0) (hc0 : l0.length ≤ c0) (hl : l0.length ≤ 1000000000) (h1 : 0 ≤ a2) (h2 : a2 ≤ 8) :
    Calls Try.prog 56 #[.slice A0 l0.length c0, .int .u64 a1, .int .i64 a2] w fun e w' => ∃ v, e = .returned v ∧ Kd.R (Kd.int .u8) 5 w' w.heap.size (fun _ => True) v (l0 ++ putL a1 a2.toNat) ∧ Below w.heap.size w w' := by
  have HC := Aside0.mk hr0
  have HL := Aside0.mk hl
  have HB := Aside0.mk (Below.refl w.heap.size w)
  have p0 : (0 : Int) ≤ (l0.length : Int) := by omega
  have p1 : (l0.length : Int) ≤ (l0.length : Int) + 8 := by omega
  have p2 : ((l0.length : Int) + 8).toNat * 1 ≤ 281474976710656 := by omega
  have p3 : (l0.length : Int) ≤ 1000000000 := by omega
  obtain ⟨k, rfl⟩ := Int.eq_ofNat_of_zero_le h1
  have hk : k ≤ 8 := by omega
  have m1 : max (k : Int) 0 = k := by omega
  have m2 : min (k : Int) 8 = k := by omega

  clear hr0 hl h1
  go_enter Try.func56, Try.ntmps56
  go_wp2_with (first | ((with_reducible refine gate_dst (N := 14) rfl ?_); refine Kd.R_makeCap (Kd.int .u8) (w0 := w) w.heap.size 5 rfl (N := 14) rfl 57 _ _ rfl _ _ rfl rfl Try.underlying57 (.int .u8 0) 1 info8 rfl (by decide) (by omega) 0 (ok := fun _ => True) (okp := fun _ => False) rfl (fun _ h => h.elim) trivial p0 p1 p2 HB.out (Nat.le_refl _) ?_; intro v1 w1 ho1 hb1 hg1 hat1; have HO1 := Aside0.mk ho1; have HB1 := Aside0.mk hb1; have HC1 := Aside0.mk (Kd.C_below HC.out hb1); clear ho1 hb1 hg1 hat1) | ((with_reducible refine gate_dst (N := 17) rfl ?_); refine Kd.R_copy (enc := Value.int .u8) (h1 := fun _ => rfl) 0 (w0 := w) w.heap.size rfl (.tmp 15) (.tmp 16) 57 57 5 rfl Try.underlying57 info8s v1 _ l0 A0 l0.length c0 (fun _ => True) rfl rfl HO1.out HC1.out HB1.out (below_size HB1.out) ?_; intro w2 ho2 hb2 hg2; rw [copied] at ho2; have HO2 := Aside0.mk ho2; have HB2 := Aside0.mk hb2; clear ho2 hb2 hg2 HO1 HB1 HC1))
  go_loopg [7, 8] k (fun kq v7 v8 w' => ∃ out : List Int, v8 = .int .i64 ((kq : Int) - 1) ∧ Aside0 (kq ≤ k) ∧ Aside0 (out ++ putL a1 kq = l0 ++ putL a1 k) ∧ Aside0 (out.length + kq = l0.length + k) ∧ Aside0 (Kd.R (Kd.int .u8) 5 w' w.heap.size (fun _ => True) v7 out) ∧ Aside0 (Below w.heap.size w w'))
  case atStart => exact ⟨l0, rfl, ⟨Nat.le_refl _⟩, ⟨rfl⟩, ⟨rfl⟩, HO2, HB2⟩
  case round =>
    clear HO2 HB2
    obtain ⟨out, rfl, HK, HE, HLen, HO, HB⟩ := hrel
    cases gk with
    | zero =>
      have q0 : decide (((0 : Nat) : Int) - 1 ≥ 0) = false := by decide
      have HF := Lib.hid (show out = l0 ++ putL a1 k by have := HE.out; simpa [putL] using this)
      clear HE
      go_wp2_with fail
      go_ret
      exact ⟨_, rfl, by rw [Int.toNat_natCast, ← HF.out]; exact HO.out, HB.out⟩
    | succ j =>
      have hj : j < 8 := by have := HK.out; omega
      have q1 : ((j + 1 : Nat) : Int) - 1 = j := by omega
      rw [q1]
      clear q1
      have q2 : (0 : Int) ≤ (j : Int) := by omega
      have q3 : 0 ≤ 8 * (j : Int) := by omega
      have q4 : 8 * (j : Int) < 64 := by omega
      have HL2 := Aside0.mk (show (out.length + 1) * 1 ≤ 140737488355328 by have := HLen.out; have := HL.out; omega)
      go_wp2_with (first | ((with_reducible refine gate_builtin (b := .append) (xs := #[.tmp 26, .tmp 32]) rfl ?_); at_builtin; refine Kd.R_append (Kd.int .u8) (w0 := w) w.heap.size rfl (.tmp 26) (.tmp 32) 57 5 (.int .u8 0) 1 rfl Try.underlying57 info8 rfl (by decide) (by omega) u7 out (a1 / 2 ^ (8 * j) % 256) [.int .u8 (a1 / 2 ^ (8 * j) % 256)] (fun _ => True) (fun _ => False) rfl rfl ?aP (fun _ hk => hk.elim) ?aF ?aO ?aB ?aS ?aL ?_; (case aP => exact rfl); (case aB => exact HB.out); (case aF => exact fun _ _ => trivial); (case aO => exact HO.out); (case aS => exact below_size HB.out); (case aL => exact HL2.out); intro va1 wa1 ho1 hb1 hg1 hat1; have HO1 := Aside0.mk ho1; have HB1 := Aside0.mk hb1; clear ho1 hb1 hg1 hat1))
      go_roundg j
      case measure => omega
      case rel => exact ⟨out ++ [a1 / 2 ^ (8 * j) % 256], by first | rfl | (simp; done), ⟨by have := HK.out; omega⟩, ⟨by have e := HE.out; simpa [putL] using e⟩, ⟨by have := HLen.out; simp; omega⟩, HO1, HB1⟩
theorem putL_length (n : Int) (k : Nat) : (putL n k).length = k := by
  induction k with
  | zero => rfl
  | succ k ih => simp [putL, ih]
end Go.Proofs.Ytbbeikdbioelgaa.M
