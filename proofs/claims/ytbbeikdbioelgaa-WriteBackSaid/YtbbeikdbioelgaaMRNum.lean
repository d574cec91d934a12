/- Walks of package num: Part, Get. -/
import Derived.Test.YtbbeikdbioelgaaMName
set_option linter.unusedVariables false
set_option linter.unusedSimpArgs false
namespace Go.Proofs.Ytbbeikdbioelgaa.M
open Go.RowKit Go.Proofs.YtbbeikdbioelgaaW.PrintWords Go.Proofs.YtbbeikdbioelgaaW.PrintLast Go.Proofs.YtbbeikdbioelgaaW.PrintMore
attribute [local go_sem] max2_int min2_int max_two min_two max_three min_three max_four min_four
/-- The bytes at a place. -/
def partF (s : ByteArray) (at' sz : Int) : Option ByteArray := if at' < 0 ∨ sz < 0 ∨ s.size < at' ∨ s.size - at' < sz then none else some (s.extract at'.toNat (at' + sz).toNat)
def partE : Option ByteArray → Ending
  | none => .returned (.tuple #[.string ⟨#[]⟩, .bool false])
  | some t => .returned (.tuple #[.string t, .bool true])
set_option maxHeartbeats 2000000 in
set_option maxRecDepth 100000 in
theorem part_calls (s : ByteArray) (a n : Int) (w : World) (hs : s.size ≤ 1000000000000) :
    Calls Try.prog 79 #[.string s, .int .i64 a, .int .i64 n] w fun e w' => e = partE (partF s a n) ∧ Below w.heap.size w w' := by
  have hb := Below.refl w.heap.size w
  obtain ⟨R, hR⟩ : ∃ R, partF s a n = R := ⟨_, rfl⟩
  rw [hR]
  unfold partF at hR
  by_cases h1 : a < 0
  · rw [if_pos (.inl h1)] at hR
    subst hR
    have d1 : decide (a < 0) = true := decide_eq_true h1
    go_enter Try.func79, Try.ntmps79
    go_wp2
    go_ret2
    exact ⟨rfl, hb⟩
  have d1 : decide (a < 0) = false := decide_eq_false h1
  by_cases h2 : n < 0
  · rw [if_pos (.inr (.inl h2))] at hR
    subst hR
    have d2 : decide (n < 0) = true := decide_eq_true h2
    clear h1
    go_enter Try.func79, Try.ntmps79
    go_wp2
    go_ret2
    exact ⟨rfl, hb⟩
  have d2 : decide (n < 0) = false := decide_eq_false h2
  by_cases h3 : (s.size : Int) < a
  · rw [if_pos (.inr (.inr (.inl h3)))] at hR
    subst hR
    have d3 : decide ((s.size : Int) < a) = true := decide_eq_true h3
    clear h1 h2
    go_enter Try.func79, Try.ntmps79
    go_wp2
    go_ret2
    exact ⟨rfl, hb⟩
  have d3 : decide ((s.size : Int) < a) = false := decide_eq_false h3
  have q1 : 0 ≤ a := by omega
  have q2 : a ≤ (s.size : Int) := by omega
  have q3 : (s.size : Int) ≤ 1000000000000 := by omega
  by_cases h4 : (s.size : Int) - a < n
  · rw [if_pos (.inr (.inr (.inr h4)))] at hR
    subst hR
    have d4 : decide ((s.size : Int) - a < n) = true := decide_eq_true h4
    clear h1 h2 h3
    go_enter Try.func79, Try.ntmps79
    go_wp2
    go_ret2
    exact ⟨rfl, hb⟩
  have d4 : decide ((s.size : Int) - a < n) = false := decide_eq_false h4
  rw [if_neg (by omega)] at hR
  subst hR
  have q4 : a + n ≤ (s.size : Int) := by omega
  have q5 : a ≤ a + n := by omega
  have q6 : 0 ≤ a + n := by omega
  clear h1 h2 h3 h4
  go_enter Try.func79, Try.ntmps79
  go_wp2
  go_ret2
  exact ⟨rfl, hb⟩
/-- The number that bytes are, behind one. -/
def valF : Int → List Int → Int
  | n, [] => n
  | n, c :: l => valF (n * 256 + c) l
def getF (s : ByteArray) (a n : Int) : Option Int := if n < 1 ∨ 8 < n then none else (partF s a n).map fun t => valF 0 (bytesOf t)
def getE : Option Int → Ending
  | none => .returned (.tuple #[.int .u64 0, .bool false])
  | some n => .returned (.tuple #[.int .u64 n, .bool true])
theorem part_size {s t : ByteArray} {a n : Int} (h : partF s a n = some t) : (t.size : Int) = n ∧ 0 ≤ n ∧ 0 ≤ a ∧ a + n ≤ s.size ∧ t = s.extract a.toNat (a + n).toNat := by
  unfold partF at h
  by_cases hc : a < 0 ∨ n < 0 ∨ s.size < a ∨ s.size - a < n
  · rw [if_pos hc] at h
    exact absurd h (by simp)
  · rw [if_neg hc] at h
    obtain rfl := Option.some.inj h
    refine ⟨?_, by omega, by omega, by omega, rfl⟩
    rw [ByteArray.size_extract]
    omega
theorem or_eight (n c : Int) (h0 : 0 ≤ n) (h1 : n < 72057594037927936) (c0 : 0 ≤ c) (c1 : c < 256) : bits .or .u64 (n * 256) c = n * 256 + c := by
  obtain ⟨m, rfl⟩ := Int.eq_ofNat_of_zero_le h0
  obtain ⟨d, rfl⟩ := Int.eq_ofNat_of_zero_le c0
  have hk : ∀ n : Int, 0 ≤ n → n < 2 ^ 64 → IntKind.u64.wrap n = n := by
    intro n h0 h1
    simp [IntKind.wrap, IntKind.bits, IntKind.signed]
    omega
  have h := (bits_nat .u64 64 (by decide) hk (m * 256) d (by omega) (by omega)).2
  rw [show ((m * 256 : Nat) : Int) = (m : Int) * 256 by omega] at h
  rw [h, show m * 256 = 2 ^ 8 * m by omega, ← Nat.two_pow_add_eq_or_of_lt (by omega) m]
  omega
set_option maxHeartbeats 2000000 in
set_option maxRecDepth 100000 in
theorem get_calls (s : ByteArray) (a n : Int) (w : World) (hs : s.size ≤ 1000000000000) :
    Calls Try.prog 78 #[.string s, .int .i64 a, .int .i64 n] w fun e w' => e = getE (getF s a n) ∧ Below w.heap.size w w' := by
  obtain ⟨R, hR⟩ : ∃ R, getF s a n = R := ⟨_, rfl⟩
  rw [hR]
  unfold getF at hR
  cases hp : partF s a n with
  | none =>
    have hn : R = none := by
      rw [← hR, hp]
      split <;> rfl
    subst hn
    have HP := Lib.hid hp
    clear hR hp
    go_enter Try.func78, Try.ntmps78
    go_wp2_with fail
    refine (part_calls s a n _ hs).mono ?_
    rw [HP.out]
    rintro e w1 ⟨rfl, hb⟩
    have HB := Aside0.mk hb
    clear hb
    simp only [partE]
    go_wp2_with fail
    go_ret2
    exact ⟨rfl, HB.out⟩
  | some t =>
    have HP := Lib.hid hp
    obtain ⟨hz, n0, a0, an, -⟩ := part_size hp
    by_cases h1 : n < 1
    · rw [if_pos (.inl h1)] at hR
      subst hR
      have d1 : decide (n < 1) = true := decide_eq_true h1
      clear hp h1
      go_enter Try.func78, Try.ntmps78
      go_wp2_with fail
      refine (part_calls s a n _ hs).mono ?_
      rw [HP.out]
      rintro e w1 ⟨rfl, hb⟩
      have HB := Aside0.mk hb
      clear hb
      simp only [partE]
      go_wp2_with fail
      go_ret2
      exact ⟨rfl, HB.out⟩
    have d1 : decide (n < 1) = false := decide_eq_false h1
    by_cases h2 : 8 < n
    · rw [if_pos (.inr h2)] at hR
      subst hR
      have d2 : decide (8 < n) = true := decide_eq_true h2
      clear hp h1 h2
      go_enter Try.func78, Try.ntmps78
      go_wp2_with fail
      refine (part_calls s a n _ hs).mono ?_
      rw [HP.out]
      rintro e w1 ⟨rfl, hb⟩
      have HB := Aside0.mk hb
      clear hb
      simp only [partE]
      go_wp2_with fail
      go_ret2
      exact ⟨rfl, HB.out⟩
    have d2 : decide (8 < n) = false := decide_eq_false h2
    rw [if_neg (by omega), hp] at hR
    have HR := Lib.hid hR
    have ht : t.size ≤ 8 := by omega
    clear hz
    have kb := fun W => print_bytes (P := Try.prog) 9 57 5 Try.underlying9 Try.underlying57 Try.underlying5 t W
    clear hp h1 h2 hR
    go_enter Try.func78, Try.ntmps78
    go_wp2_with fail
    refine (part_calls s a n _ hs).mono ?_
    rw [HP.out]
    rintro e w1 ⟨rfl, hb⟩
    have HB := Aside0.mk hb
    clear hb
    simp only [partE]
    go_wp2_with fail
    have hbb := bytes_below HB.out HB.out.size 5 t
    have hcells := mine_bytes_cells w1 5 t
    have hsz : w1.heap.size < (Lib.bytesWorld w1 5 t).heap.size := by rw [Lib.bytesWorld_size]; omega
    clear HB kb
    generalize hC : grownCap w1 t.size 0 5 = C
    generalize hW : Lib.bytesWorld w1 5 t = wB at *
    generalize hG : w1.heap.size = G at *
    have HB := Aside0.mk hbb
    have HE := Aside0.mk hcells
    have HT := Aside0.mk ht
    clear hC hW hG hbb hcells hsz
    go_loopg [10, 33] t.size (fun kq v10 v33 w' => ∃ (j : Nat) (m : Int), v10 = .int .u64 m ∧ v33 = .int .i64 j ∧ Aside0 (kq + j = t.size) ∧ Aside0 (valF 0 (bytesOf t) = valF m ((bytesOf t).drop j)) ∧ Aside0 (0 ≤ m ∧ m < 256 ^ j) ∧ Aside0 (w'.heap[G]? = wB.heap[G]?) ∧ Aside0 (Below w.heap.size w w'))
    case atStart => exact ⟨0, 0, rfl, rfl, ⟨by omega⟩, ⟨rfl⟩, ⟨by omega, by decide⟩, ⟨rfl⟩, HB⟩
    case round =>
      clear HB
      obtain ⟨j, m, rfl, rfl, HK, HV, HM, HBk, HB⟩ := hrel
      by_cases hj : j < t.size
      · have hx := (World.cell?_of_block (w := wB) (a := ⟨G, j, none⟩) HBk.out).trans (HE.out j hj)
        obtain ⟨c0, c1⟩ := bt_range t j
        have HD := Lib.hid (drop_bytes t j hj)
        obtain ⟨c, hc⟩ : ∃ c, bt t (j : Int) = c := ⟨_, rfl⟩
        rw [hc] at hx c0 c1 HD
        have hm0 := HM.out.1
        have hpow : (256 : Int) ^ j ≤ 256 ^ 7 := by
          have : (256 : Nat) ^ j ≤ 256 ^ 7 := Nat.pow_le_pow_right (by decide) (by have := HT.out; omega)
          exact_mod_cast this
        have hm1 : m < 72057594037927936 := by have := HM.out.2; omega
        have hor := or_eight m c hm0 hm1 c0 c1
        have hsh : IntKind.u64.wrap (m * 256) = m * 256 := by
          simp [IntKind.wrap, IntKind.bits, IntKind.signed]
          omega
        have q1 : (0 : Int) ≤ (j : Int) := by omega
        have q2 : (j : Int) < (t.size : Int) := by omega
        have q3 : (t.size : Int) ≤ 8 := by omega
        clear hc hpow
        go_wp2_with fail
        go_roundg (t.size - (j + 1))
        case measure => have := HK.out; omega
        case rel =>
          refine ⟨j + 1, m * 256 + c, ?_, by go_num, ⟨by omega⟩, ⟨by rw [HV.out, HD.out]; rfl⟩, ⟨by omega, ?_⟩, HBk, HB⟩
          · first | rfl | (rw [hor]; done) | skip
          · have := HM.out.2
            rw [Int.pow_succ]
            omega
      · obtain rfl : j = t.size := by have := HK.out; omega
        have HF := Lib.hid (show valF 0 (bytesOf t) = m by rw [HV.out, List.drop_of_length_le (by rw [bytesOf_length]; omega)]; rfl)
        go_wp2_with fail
        go_ret2
        exact ⟨by rw [← HR.out, Option.map_some, HF.out]; rfl, HB.out⟩
theorem get_no {s : ByteArray} {a n : Int} (h : getF s a n = none) (w : World) (hs : s.size ≤ 1000000000000) :
    Calls Try.prog 78 #[.string s, .int .i64 a, .int .i64 n] w fun e w' => e = .returned (.tuple #[.int .u64 0, .bool false]) ∧ Below w.heap.size w w' :=
  (get_calls s a n w hs).mono fun e w' ⟨h1, h2⟩ => ⟨by rw [h1, h]; rfl, h2⟩
theorem get_yes {s : ByteArray} {a n m : Int} (h : getF s a n = some m) (w : World) (hs : s.size ≤ 1000000000000) :
    Calls Try.prog 78 #[.string s, .int .i64 a, .int .i64 n] w fun e w' => e = .returned (.tuple #[.int .u64 m, .bool true]) ∧ Below w.heap.size w w' :=
  (get_calls s a n w hs).mono fun e w' ⟨h1, h2⟩ => ⟨by rw [h1, h]; rfl, h2⟩
theorem part_no {s : ByteArray} {a n : Int} (h : partF s a n = none) (w : World) (hs : s.size ≤ 1000000000000) :
    Calls Try.prog 79 #[.string s, .int .i64 a, .int .i64 n] w fun e w' => e = .returned (.tuple #[.string ⟨#[]⟩, .bool false]) ∧ Below w.heap.size w w' :=
  (part_calls s a n w hs).mono fun e w' ⟨h1, h2⟩ => ⟨by rw [h1, h]; rfl, h2⟩
theorem part_yes {s t : ByteArray} {a n : Int} (h : partF s a n = some t) (w : World) (hs : s.size ≤ 1000000000000) :
    Calls Try.prog 79 #[.string s, .int .i64 a, .int .i64 n] w fun e w' => e = .returned (.tuple #[.string t, .bool true]) ∧ Below w.heap.size w w' :=
  (part_calls s a n w hs).mono fun e w' ⟨h1, h2⟩ => ⟨by rw [h1, h]; rfl, h2⟩
end Go.Proofs.Ytbbeikdbioelgaa.M
