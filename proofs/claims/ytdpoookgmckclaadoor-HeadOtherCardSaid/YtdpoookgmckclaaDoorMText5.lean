/- Walks of the library's Trim at the two blanks, and of Cut at one sign. -/
import Derived.Test.YtdpoookgmckclaaDoorMText4
set_option linter.unusedVariables false
set_option linter.unusedSimpArgs false
namespace Go.Proofs.YtdpoookgmckclaaDoor.M
open Go.RowKit Go.Maps Go.Proofs.YtdpoookgmckclaaDoorW.PrintWords Go.Proofs.YtdpoookgmckclaaDoorW.PrintLast Go.Proofs.YtdpoookgmckclaaDoorW.PrintMore
attribute [local go_sem] max2_int min2_int max_two min_two max_three min_three max_four min_four
attribute [local go_sem ↓] Go.wp_at_zero Go.wp_at_succ
def trimL (l : List Int) : List Int := l.dropWhile blankI
def trimR (l : List Int) : List Int := (l.reverse.dropWhile blankI).reverse
theorem trimR_snoc (l : List Int) (c : Int) : trimR (l ++ [c]) = if blankI c then trimR l else l ++ [c] := by
  unfold trimR
  rw [List.reverse_append, List.reverse_singleton, List.singleton_append, List.dropWhile_cons]
  split
  · rfl
  · simp
theorem contains_at {b : Nat} {c : Int} {v : Bool} {w : World} (h0 : 0 ≤ c) (h1 : c < 256) (hc : w.cell? ⟨b, c.toNat, none⟩ = some (.bool v)) :
    Calls Tryd.prog 64 #[.pointer (some ⟨b, 0, none⟩), .int .u8 c] w fun e w' => e = .returned (.bool v) ∧ w = w' := by
  have hx : (c.toNat.toUInt8).toNat = c.toNat := by
    simp
    omega
  have := Tryd.asciiSet_contains b c.toNat.toUInt8 v w (by rw [hx]; exact hc)
  rw [hx, Int.toNat_of_nonneg h0] at this
  exact this.mono fun e w' h => ⟨h.1, h.2.symm⟩
set_option maxHeartbeats 4000000 in
set_option maxRecDepth 100000 in
theorem trimLeft_calls {b : Nat} (s : ByteArray) (w : World) (hs : s.size ≤ 1000000000000) (hc : ∀ c : Int, 0 ≤ c → c < 256 → w.cell? ⟨b, c.toNat, none⟩ = some (.bool (blankI c))) :
    Calls Tryd.prog 50 #[.string s, .pointer (some ⟨b, 0, none⟩)] w fun e w' => e = .returned (.string (strOfNums (trimL (bytesOf s)))) ∧ w = w' := by
  obtain ⟨R, hR⟩ : ∃ R, trimL (bytesOf s) = R := ⟨_, rfl⟩
  rw [hR]
  have HR := Aside0.mk hR
  have HC := Lib.hid hc
  have HS := Lib.hid hs
  clear hR hc hs
  go_enter Tryd.func50, Tryd.ntmps50
  go_wp2_with fail
  go_loopg [0] (s.size + 1) (fun kq v0 w' => ∃ t : ByteArray, v0 = .string t ∧ Aside0 (t.size < kq) ∧ Aside0 (t.size ≤ s.size) ∧ Aside0 (trimL (bytesOf t) = R) ∧ Aside0 (w' = w))
  case atStart => exact ⟨s, rfl, ⟨Nat.lt_succ_self _⟩, ⟨Nat.le_refl _⟩, HR, ⟨rfl⟩⟩
  case round =>
    clear HR
    obtain ⟨t, rfl, HK, HZ, HR, HW⟩ := hrel
    obtain rfl := HW.out
    obtain ⟨k, rfl⟩ : ∃ k, gk = k + 1 := ⟨gk - 1, by have := HK.out; omega⟩
    have q3 : (t.size : Int) ≤ 1000000000000 := by have := HS.out; have := HZ.out; omega
    by_cases h0 : 0 < t.size
    · have hx := bt_nat t 0 h0
      obtain ⟨c0, c1⟩ := bt_range t 0
      have hd := drop_bytes t 0 h0
      rw [show ((0 : Nat) : Int) = 0 from rfl] at hx c0 c1 hd
      obtain ⟨c, hc⟩ : ∃ c, bt t 0 = c := ⟨_, rfl⟩
      rw [hc] at hx c0 c1 hd
      have HD := Lib.hid (show bytesOf t = c :: (bytesOf t).drop 1 from hd)
      have HT := Lib.hid (tb_drop t 1)
      have q1 : (0 : Int) < (t.size : Int) := by omega
      have q2 : 1 ≤ t.size := h0
      clear hc hd
      go_wp2_with fail
      refine (contains_at c0 c1 (HC.out c c0 c1)).mono ?_
      rintro e w1 ⟨rfl, hw1⟩
      subst hw1
      cases hg : blankI c with
      | false =>
        have HE := Lib.hid (show t = strOfNums R by
          rw [← HR.out, HD.out, trimL, List.dropWhile_cons, hg, ← HD.out]
          simp [tb_str])
        clear hg
        go_wp2_with fail
        go_ret
        exact ⟨congrArg (fun x => Ending.returned (.string x)) HE.out, rfl⟩
      | true =>
        have HR2 := Aside0.mk (show trimL (bytesOf (t.extract 1 t.size)) = R by
          rw [HT.out, ← HR.out, HD.out, trimL, trimL, List.dropWhile_cons, hg, if_pos rfl]
          rfl)
        have HZ2 := Lib.hid (show (t.extract 1 t.size).size = t.size - 1 by rw [ByteArray.size_extract]; omega)
        clear hg
        go_wp2_with fail
        go_roundg k
        case measure => omega
        case rel => exact ⟨_, rfl, ⟨by have := HK.out; have := HZ2.out; omega⟩, ⟨by have := HZ.out; have := HZ2.out; omega⟩, HR2, ⟨rfl⟩⟩
    · have hz := size_zero (show t.size = 0 by omega)
      subst hz
      obtain rfl : R = [] := by rw [← HR.out]; rfl
      clear h0
      go_wp2_with fail
      go_ret
      exact ⟨rfl, rfl⟩
set_option maxHeartbeats 4000000 in
set_option maxRecDepth 100000 in
theorem trimRight_calls {b : Nat} (s : ByteArray) (w : World) (hs : s.size ≤ 1000000000000) (hc : ∀ c : Int, 0 ≤ c → c < 256 → w.cell? ⟨b, c.toNat, none⟩ = some (.bool (blankI c))) :
    Calls Tryd.prog 51 #[.string s, .pointer (some ⟨b, 0, none⟩)] w fun e w' => e = .returned (.string (strOfNums (trimR (bytesOf s)))) ∧ w = w' := by
  obtain ⟨R, hR⟩ : ∃ R, trimR (bytesOf s) = R := ⟨_, rfl⟩
  rw [hR]
  have HR := Aside0.mk hR
  have HC := Lib.hid hc
  have HS := Lib.hid hs
  clear hR hc hs
  go_enter Tryd.func51, Tryd.ntmps51
  go_wp2_with fail
  go_loopg [0] (s.size + 1) (fun kq v0 w' => ∃ t : ByteArray, v0 = .string t ∧ Aside0 (t.size < kq) ∧ Aside0 (t.size ≤ s.size) ∧ Aside0 (trimR (bytesOf t) = R) ∧ Aside0 (w' = w))
  case atStart => exact ⟨s, rfl, ⟨Nat.lt_succ_self _⟩, ⟨Nat.le_refl _⟩, HR, ⟨rfl⟩⟩
  case round =>
    clear HR
    obtain ⟨t, rfl, HK, HZ, HR, HW⟩ := hrel
    obtain rfl := HW.out
    obtain ⟨k, rfl⟩ : ∃ k, gk = k + 1 := ⟨gk - 1, by have := HK.out; omega⟩
    have q3 : (t.size : Int) ≤ 1000000000000 := by have := HS.out; have := HZ.out; omega
    by_cases h0 : 0 < t.size
    · have hx := bt_nat t (t.size - 1) (by omega)
      obtain ⟨c0, c1⟩ := bt_range t (t.size - 1)
      have hd := take_bytes t (t.size - 1) (by omega)
      rw [show t.size - 1 + 1 = t.size by omega, List.take_of_length_le (by rw [bytesOf_length]; omega)] at hd
      obtain ⟨c, hc⟩ : ∃ c, bt t ((t.size - 1 : Nat) : Int) = c := ⟨_, rfl⟩
      rw [hc] at hx c0 c1 hd
      have HD := Lib.hid hd
      have HT := Lib.hid (tb_take t (t.size - 1))
      have hcc : (((t.size - 1 : Nat)) : Int) = (t.size : Int) - 1 := by omega
      have q1 : (0 : Int) < (t.size : Int) := by omega
      have q2 : (0 : Int) ≤ (t.size : Int) - 1 := by omega
      clear hc hd
      go_wp2_with fail
      refine (contains_at c0 c1 (HC.out c c0 c1)).mono ?_
      rintro e w1 ⟨rfl, hw1⟩
      subst hw1
      cases hg : blankI c with
      | false =>
        have HE := Lib.hid (show t = strOfNums R by
          rw [← HR.out, HD.out, trimR_snoc, hg, ← HD.out]
          simp [tb_str])
        clear hg
        go_wp2_with fail
        go_ret
        exact ⟨congrArg (fun x => Ending.returned (.string x)) HE.out, rfl⟩
      | true =>
        have HR2 := Aside0.mk (show trimR (bytesOf (t.extract 0 (t.size - 1))) = R by
          rw [HT.out, ← HR.out]
          conv => rhs; rw [HD.out]
          rw [trimR_snoc, hg, if_pos rfl])
        have HZ2 := Lib.hid (show (t.extract 0 (t.size - 1)).size = t.size - 1 by rw [ByteArray.size_extract]; omega)
        clear hg
        go_wp2_with fail
        go_roundg k
        case measure => omega
        case rel => exact ⟨_, rfl, ⟨by have := HK.out; have := HZ2.out; omega⟩, ⟨by have := HZ.out; have := HZ2.out; omega⟩, HR2, ⟨rfl⟩⟩
    · have hz := size_zero (show t.size = 0 by omega)
      subst hz
      obtain rfl : R = [] := by rw [← HR.out]; rfl
      clear h0
      go_wp2_with fail
      go_ret
      exact ⟨rfl, rfl⟩
end Go.Proofs.YtdpoookgmckclaaDoor.M
