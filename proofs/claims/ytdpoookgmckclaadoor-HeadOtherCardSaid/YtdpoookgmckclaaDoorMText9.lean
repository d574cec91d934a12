/- Walk of text.Decimal. -/
import Derived.Test.YtdpoookgmckclaaDoorMText8
set_option linter.unusedVariables false
set_option linter.unusedSimpArgs false
namespace Go.Proofs.YtdpoookgmckclaaDoor.M
open Go.RowKit Go.Maps Go.Proofs.YtdpoookgmckclaaDoorW.PrintWords Go.Proofs.YtdpoookgmckclaaDoorW.PrintLast Go.Proofs.YtdpoookgmckclaaDoorW.PrintMore
attribute [local go_sem] max2_int min2_int max_two min_two max_three min_three max_four min_four
attribute [local go_sem ↓] Go.wp_at_zero Go.wp_at_succ
def digI (c : Int) : Bool := inI c 48 57
/-- The number of digits, behind one. -/
def valD : Int → List Int → Int
  | n, [] => n
  | n, c :: l => valD (n * 10 + (c - 48)) l
def decF (s : ByteArray) (most : Int) : Int × Bool :=
  if s.size < 1 ∨ 9 < s.size ∨ (1 < s.size ∧ bt s 0 = 48) then (0, false) else if (bytesOf s).all digI = false then (0, false) else if most < valD 0 (bytesOf s) then (0, false) else (valD 0 (bytesOf s), true)
def decE (x : Int × Bool) : Ending := .returned (.tuple #[.int .i64 x.1, .bool x.2])
/-- What is left of a text of digits. -/
def decR (most : Int) (n : Int) (l : List Int) : Int × Bool := if l.all digI = false then (0, false) else if most < valD n l then (0, false) else (valD n l, true)
theorem decR_cons (most n c : Int) (l : List Int) : decR most n (c :: l) = if digI c then decR most (n * 10 + (c - 48)) l else (0, false) := by
  unfold decR
  rw [List.all_cons]
  cases digI c with
  | true => rfl
  | false => rfl
set_option maxHeartbeats 4000000 in
set_option maxRecDepth 100000 in
theorem decimal_calls (s : ByteArray) (most : Int) (w : World) (hs : s.size ≤ 1000000000000) :
    Calls Tryd.prog 21 #[.string s, .int .i64 most] w fun e w' => e = decE (decF s most) ∧ Below w.heap.size w w' := by
  have kb := fun W => print_bytes (P := Tryd.prog) 9 63 5 Tryd.underlying9 Tryd.underlying63 Tryd.underlying5 s W
  have hbl := Below.refl w.heap.size w
  obtain ⟨R, hR⟩ : ∃ R, decF s most = R := ⟨_, rfl⟩
  rw [hR]
  unfold decF at hR
  have q3 : (s.size : Int) ≤ 1000000000000 := by omega
  by_cases h1 : s.size < 1
  · rw [if_pos (.inl h1)] at hR
    subst hR
    have d1 : decide ((s.size : Int) < 1) = true := decide_eq_true (by omega)
    clear h1 kb
    go_enter Tryd.func21, Tryd.ntmps21
    go_wp2_with fail
    go_ret2
    exact ⟨rfl, hbl⟩
  have d1 : decide ((s.size : Int) < 1) = false := decide_eq_false (by omega)
  by_cases h2 : 9 < s.size
  · rw [if_pos (.inr (.inl h2))] at hR
    subst hR
    have d2 : decide ((9 : Int) < (s.size : Int)) = true := decide_eq_true (by omega)
    have d3 : decide (9 < s.size) = true := decide_eq_true h2
    clear kb
    go_enter Tryd.func21, Tryd.ntmps21
    go_wp2_with fail
    go_ret2
    exact ⟨rfl, hbl⟩
  have d2 : decide ((9 : Int) < (s.size : Int)) = false := decide_eq_false (by omega)
  have d3 : decide (9 < s.size) = false := decide_eq_false h2
  have q5 : 0 < s.size := by omega
  have hx := bt_nat s 0 q5
  rw [show ((0 : Nat) : Int) = 0 from rfl] at hx
  by_cases h3 : 1 < s.size ∧ bt s 0 = 48
  · rw [if_pos (.inr (.inr h3))] at hR
    subst hR
    obtain ⟨h4, h5⟩ := h3
    rw [h5] at hx
    have q4 : (0 : Int) < (s.size : Int) := by omega
    clear kb h5
    go_enter Tryd.func21, Tryd.ntmps21
    go_wp2_with fail
    go_ret2
    exact ⟨rfl, hbl⟩
  rw [if_neg (by omega)] at hR
  have HR := Aside0.mk (show decR most 0 ((bytesOf s).drop 0) = R from hR)
  have HS := Lib.hid (show s.size ≤ 9 by omega)
  obtain ⟨b, hb⟩ : ∃ b, bt s 0 = b := ⟨_, rfl⟩
  rw [hb] at hx
  have q4 : (0 : Int) < (s.size : Int) := by omega
  by_cases h4 : 1 < s.size
  · have d5 : decide ((1 : Int) < (s.size : Int)) = true := decide_eq_true (by omega)
    have d6 : (b == 48) = false := by rw [beq_eq_false_iff_ne]; intro h; exact h3 ⟨h4, by rw [hb, h]⟩
    clear h1 h2 h3 hR hb
    go_enter Tryd.func21, Tryd.ntmps21
    go_wp2_with fail
    have hB := bytes_below hbl (Nat.le_refl _) 5 s
    have hY := mine_bytes_cells w 5 s
    clear kb hbl hx
    generalize hC : grownCap w s.size 0 5 = C
    generalize hW : Lib.bytesWorld w 5 s = wB at *
    obtain ⟨G, hG⟩ : ∃ G, w.heap.size = G := ⟨_, rfl⟩
    rw [hG] at hY
    simp only [hG]
    have HB := Aside0.mk hB
    have HY := Aside0.mk hY
    clear hC hW hG hB hY
    go_loopg [6, 30] s.size (fun kq v6 v30 w' => ∃ (j : Nat) (n : Int), v6 = .int .i64 n ∧ v30 = .int .i64 j ∧ Aside0 (kq + j = s.size) ∧ Aside0 (decR most n ((bytesOf s).drop j) = R) ∧ Aside0 (0 ≤ n ∧ n < 10 ^ j) ∧ Aside0 (w' = wB))
    case atStart => exact ⟨0, 0, rfl, rfl, ⟨rfl⟩, HR, ⟨by omega, by decide⟩, ⟨rfl⟩⟩
    case round =>
      clear HR
      obtain ⟨j, n, rfl, rfl, HK, HR, HN, HW⟩ := hrel
      obtain rfl := HW.out
      clear HW
      have hn0 := HN.out.1
      have hpow : (10 : Int) ^ j ≤ 10 ^ 9 := by
        have : (10 : Nat) ^ j ≤ 10 ^ 9 := Nat.pow_le_pow_right (by decide) (by have := HS.out; have := HK.out; omega)
        exact_mod_cast this
      have hn1 : n < 1000000000 := by have := HN.out.2; omega
      clear hpow
      cases gk with
      | zero =>
        obtain rfl : j = s.size := by have := HK.out; omega
        have hr := HR.out
        rw [List.drop_of_length_le (by rw [bytesOf_length]; omega)] at hr
        simp only [decR, valD, List.all_nil, Bool.true_eq_false, if_false] at hr
        by_cases hm : most < n
        · obtain rfl : R = (0, false) := by rw [← hr]; simp [hm]
          have e1 : decide (most < n) = true := decide_eq_true hm
          clear hm HR hr
          go_wp2_with fail
          go_ret2
          exact ⟨rfl, HB.out⟩
        · obtain rfl : R = (n, true) := by rw [← hr]; simp [hm]
          have e1 : decide (most < n) = false := decide_eq_false hm
          clear hm HR hr
          go_wp2_with fail
          go_ret2
          exact ⟨rfl, HB.out⟩
      | succ k =>
        have hj : j < s.size := by have := HK.out; omega
        have hx := HY.out j hj
        obtain ⟨c0, c1⟩ := bt_range s j
        have hr := HR.out
        rw [drop_bytes s j hj, decR_cons] at hr
        obtain ⟨c, hc⟩ : ∃ c, bt s (j : Int) = c := ⟨_, rfl⟩
        rw [hc] at hx c0 c1 hr
        have q1 : (0 : Int) ≤ (j : Int) := by omega
        have q2 : (j : Int) < (s.size : Int) := by omega
        clear hc
        by_cases hg : 48 ≤ c ∧ c ≤ 57
        · rw [show digI c = true from decide_eq_true hg, if_pos rfl] at hr
          have HR2 := Aside0.mk hr
          have hp : (10 : Int) ^ (j + 1) = 10 ^ j * 10 := Int.pow_succ _ _
          have HN2 := Aside0.mk (show 0 ≤ n * 10 + (c - 48) ∧ n * 10 + (c - 48) < 10 ^ (j + 1) by have := HN.out.2; rw [hp]; omega)
          obtain ⟨g1, g2⟩ := hg
          have e1 : decide (9 < c - 48) = false := decide_eq_false (by omega)
          clear hr hp
          go_wp2_with fail
          go_roundg k
          case measure => omega
          case rel => exact ⟨j + 1, _, rfl, by go_num, ⟨by have := HK.out; omega⟩, HR2, HN2, ⟨rfl⟩⟩
        · rw [show digI c = false from decide_eq_false hg] at hr
          obtain rfl : R = (0, false) := hr.symm
          have hm : IntKind.u8.wrap (c - 48) = (c - 48) % 256 := by simp [IntKind.wrap, IntKind.bits, IntKind.signed]
          have e1 : decide (9 < (c - 48) % 256) = true := decide_eq_true (by omega)
          clear hr hg
          go_wp2_with fail
          go_ret2
          exact ⟨rfl, HB.out⟩
  · have d5 : decide ((1 : Int) < (s.size : Int)) = false := decide_eq_false (by omega)
    have d6 : decide (1 < s.size) = false := decide_eq_false h4
    clear h1 h2 h3 hR hb h4
    go_enter Tryd.func21, Tryd.ntmps21
    go_wp2_with fail
    have hB := bytes_below hbl (Nat.le_refl _) 5 s
    have hY := mine_bytes_cells w 5 s
    clear kb hbl hx
    generalize hC : grownCap w s.size 0 5 = C
    generalize hW : Lib.bytesWorld w 5 s = wB at *
    obtain ⟨G, hG⟩ : ∃ G, w.heap.size = G := ⟨_, rfl⟩
    rw [hG] at hY
    simp only [hG]
    have HB := Aside0.mk hB
    have HY := Aside0.mk hY
    clear hC hW hG hB hY
    go_loopg [6, 30] s.size (fun kq v6 v30 w' => ∃ (j : Nat) (n : Int), v6 = .int .i64 n ∧ v30 = .int .i64 j ∧ Aside0 (kq + j = s.size) ∧ Aside0 (decR most n ((bytesOf s).drop j) = R) ∧ Aside0 (0 ≤ n ∧ n < 10 ^ j) ∧ Aside0 (w' = wB))
    case atStart => exact ⟨0, 0, rfl, rfl, ⟨rfl⟩, HR, ⟨by omega, by decide⟩, ⟨rfl⟩⟩
    case round =>
      clear HR
      obtain ⟨j, n, rfl, rfl, HK, HR, HN, HW⟩ := hrel
      obtain rfl := HW.out
      clear HW
      have hn0 := HN.out.1
      have hpow : (10 : Int) ^ j ≤ 10 ^ 9 := by
        have : (10 : Nat) ^ j ≤ 10 ^ 9 := Nat.pow_le_pow_right (by decide) (by have := HS.out; have := HK.out; omega)
        exact_mod_cast this
      have hn1 : n < 1000000000 := by have := HN.out.2; omega
      clear hpow
      cases gk with
      | zero =>
        obtain rfl : j = s.size := by have := HK.out; omega
        have hr := HR.out
        rw [List.drop_of_length_le (by rw [bytesOf_length]; omega)] at hr
        simp only [decR, valD, List.all_nil, Bool.true_eq_false, if_false] at hr
        by_cases hm : most < n
        · obtain rfl : R = (0, false) := by rw [← hr]; simp [hm]
          have e1 : decide (most < n) = true := decide_eq_true hm
          clear hm HR hr
          go_wp2_with fail
          go_ret2
          exact ⟨rfl, HB.out⟩
        · obtain rfl : R = (n, true) := by rw [← hr]; simp [hm]
          have e1 : decide (most < n) = false := decide_eq_false hm
          clear hm HR hr
          go_wp2_with fail
          go_ret2
          exact ⟨rfl, HB.out⟩
      | succ k =>
        have hj : j < s.size := by have := HK.out; omega
        have hx := HY.out j hj
        obtain ⟨c0, c1⟩ := bt_range s j
        have hr := HR.out
        rw [drop_bytes s j hj, decR_cons] at hr
        obtain ⟨c, hc⟩ : ∃ c, bt s (j : Int) = c := ⟨_, rfl⟩
        rw [hc] at hx c0 c1 hr
        have q1 : (0 : Int) ≤ (j : Int) := by omega
        have q2 : (j : Int) < (s.size : Int) := by omega
        clear hc
        by_cases hg : 48 ≤ c ∧ c ≤ 57
        · rw [show digI c = true from decide_eq_true hg, if_pos rfl] at hr
          have HR2 := Aside0.mk hr
          have hp : (10 : Int) ^ (j + 1) = 10 ^ j * 10 := Int.pow_succ _ _
          have HN2 := Aside0.mk (show 0 ≤ n * 10 + (c - 48) ∧ n * 10 + (c - 48) < 10 ^ (j + 1) by have := HN.out.2; rw [hp]; omega)
          obtain ⟨g1, g2⟩ := hg
          have e1 : decide (9 < c - 48) = false := decide_eq_false (by omega)
          clear hr hp
          go_wp2_with fail
          go_roundg k
          case measure => omega
          case rel => exact ⟨j + 1, _, rfl, by go_num, ⟨by have := HK.out; omega⟩, HR2, HN2, ⟨rfl⟩⟩
        · rw [show digI c = false from decide_eq_false hg] at hr
          obtain rfl : R = (0, false) := hr.symm
          have hm : IntKind.u8.wrap (c - 48) = (c - 48) % 256 := by simp [IntKind.wrap, IntKind.bits, IntKind.signed]
          have e1 : decide (9 < (c - 48) % 256) = true := decide_eq_true (by omega)
          clear hr hg
          go_wp2_with fail
          go_ret2
          exact ⟨rfl, HB.out⟩
end Go.Proofs.YtdpoookgmckclaaDoor.M
