/- The plain law of ReadBack. -/
import Derived.Test.YtbbeikdbioelgaaMBack
import Derived.Test.YtbbeikdbioelgaaMNameL
set_option linter.unusedVariables false
set_option linter.unusedSimpArgs false
namespace Go.Proofs.Ytbbeikdbioelgaa.M
open Go.RowKit Go.Maps Go.Proofs.YtbbeikdbioelgaaW.PrintWords Go.Proofs.YtbbeikdbioelgaaW.PrintLast Go.Proofs.YtbbeikdbioelgaaW.PrintMore
theorem two_str (x y : Int) (hx : 0 ≤ x ∧ x < 256) (hy : 0 ≤ y ∧ y < 256) : bytesOf (strOfNums [x, y]) = [x, y] := by
  unfold bytesOf
  rw [strOfNums_data]
  simp only [List.map_cons, List.map_nil]
  congr 1
  · rw [UInt8.toNat_ofNat']; omega
  · congr 1
    rw [UInt8.toNat_ofNat']; omega
theorem ptr_bytes (a : Nat) (h : a ≤ 10000) : bytesOf (ptrB a) = [((192 + a / 256 : Nat) : Int), ((a % 256 : Nat) : Int)] := by
  unfold ptrB
  rw [two_str _ _ (by omega) (by omega)]
  congr 1 <;> omega
theorem at_drop (ah R : List Int) : (ah ++ R).drop ah.length = R := by simp
theorem backLaw : BackLaw where
  here := fun ah nm mo ha hn => by
    obtain ⟨hw, hs⟩ := isName_W hn
    have hL : bytesOf (ah ++ nm ++ ptrB ah.size ++ mo) = bytesOf ah ++ (bytesOf nm ++ (bytesOf (ptrB ah.size) ++ bytesOf mo)) := by
      simp only [bapp', List.append_assoc]
    have hd : (bytesOf (ah ++ nm ++ ptrB ah.size ++ mo)).drop ah.size = bytesOf nm ++ (bytesOf (ptrB ah.size) ++ bytesOf mo) := by
      rw [hL, ← bytesOf_length ah, at_drop]
    have hr := Rd.of_name _ ah.size _ nm ah.size _ hw hd (by rw [bytesOf_length, ByteArray.size_append, ByteArray.size_append, ByteArray.size_append]; omega)
    have := hr.read rfl (((ah.size : Nat) : Int).toNat * 256 + 257) [] (-1) (by rw [bytesOf_length]; simp; omega) (by simp)
    unfold nameAt
    rw [this, List.nil_append, if_neg (by omega)]
    congr 2
  ptr := fun ah nm mo ha hn => by
    obtain ⟨hw, hs⟩ := isName_W hn
    have hpos := nameW_pos hw
    have hL : bytesOf (ah ++ nm ++ ptrB ah.size ++ mo) = bytesOf ah ++ (bytesOf nm ++ (bytesOf (ptrB ah.size) ++ bytesOf mo)) := by
      simp only [bapp', List.append_assoc]
    have hd : (bytesOf (ah ++ nm ++ ptrB ah.size ++ mo)).drop ah.size = bytesOf nm ++ (bytesOf (ptrB ah.size) ++ bytesOf mo) := by
      rw [hL, ← bytesOf_length ah, at_drop]
    have hd2 : (bytesOf (ah ++ nm ++ ptrB ah.size ++ mo)).drop (ah.size + nm.size) = bytesOf (ptrB ah.size) ++ bytesOf mo := by
      rw [← List.drop_drop, hd, ← bytesOf_length nm, at_drop]
    rw [ptr_bytes _ ha] at hd2
    have hx : (bytesOf (ah ++ nm ++ ptrB ah.size ++ mo))[ah.size + nm.size]? = some ((192 + ah.size / 256 : Nat) : Int) := by
      have h0 : ((bytesOf (ah ++ nm ++ ptrB ah.size ++ mo)).drop (ah.size + nm.size))[0]? = some ((192 + ah.size / 256 : Nat) : Int) := by rw [hd2]; rfl
      rwa [List.getElem?_drop] at h0
    have hy : (bytesOf (ah ++ nm ++ ptrB ah.size ++ mo))[ah.size + nm.size + 1]? = some ((ah.size % 256 : Nat) : Int) := by
      have h0 : ((bytesOf (ah ++ nm ++ ptrB ah.size ++ mo)).drop (ah.size + nm.size))[1]? = some ((ah.size % 256 : Nat) : Int) := by rw [hd2]; rfl
      rwa [List.getElem?_drop] at h0
    have hr := Rd.of_name _ ah.size _ nm ah.size _ hw hd (by rw [bytesOf_length, ByteArray.size_append, ByteArray.size_append, ByteArray.size_append]; omega)
    have hr2 := Rd.ptr (p := ah.size + nm.size) (t := ah.size) hx hy (by omega) (by omega) (by omega) (by omega) hr
    have := hr2.read rfl ((((ah.size + nm.size : Nat) : Int)).toNat * 256 + 257) [] (-1) (by rw [bytesOf_length]; simp; omega) (by rw [Int.toNat_natCast]; simp)
    unfold nameAt
    rw [show ((ah.size : Int) + (nm.size : Int)) = ((ah.size + nm.size : Nat) : Int) by omega, this, List.nil_append, if_neg (by omega)]
    congr 2
  loop := fun ah mo ha => by
    have hL : bytesOf (ah ++ ptrB ah.size ++ mo) = bytesOf ah ++ (bytesOf (ptrB ah.size) ++ bytesOf mo) := by
      simp only [bapp', List.append_assoc]
    have hd : (bytesOf (ah ++ ptrB ah.size ++ mo)).drop ah.size = bytesOf (ptrB ah.size) ++ bytesOf mo := by
      rw [hL, ← bytesOf_length ah, at_drop]
    rw [ptr_bytes _ ha] at hd
    have hx : (bytesOf (ah ++ ptrB ah.size ++ mo))[ah.size]? = some ((192 + ah.size / 256 : Nat) : Int) := by
      have h0 : ((bytesOf (ah ++ ptrB ah.size ++ mo)).drop ah.size)[0]? = some ((192 + ah.size / 256 : Nat) : Int) := by rw [hd]; rfl
      rwa [List.getElem?_drop] at h0
    have hy : (bytesOf (ah ++ ptrB ah.size ++ mo))[ah.size + 1]? = some ((ah.size % 256 : Nat) : Int) := by
      have h0 : ((bytesOf (ah ++ ptrB ah.size ++ mo)).drop ah.size)[1]? = some ((ah.size % 256 : Nat) : Int) := by rw [hd]; rfl
      rwa [List.getElem?_drop] at h0
    unfold nameAt nameR
    rw [get_byte hx]
    simp only []
    rw [if_neg (by omega), if_pos (by omega), show ((ah.size : Int) + 1) = ((ah.size + 1 : Nat) : Int) by omega, get_byte hy]
    simp only []
    rw [if_pos (by omega)]
theorem back_all (W : World) (s : ByteArray) (hs : s.size ≤ 140737488351232) (n : ByteArray) (hn : n.size ≤ 140737488351232) (t : ByteArray) (ht : t.size ≤ 140737488351232) :
    Calls Try.prog 9 #[.string s, .string n, .string t] W fun e w' => e = .returned (.bool true) ∧ Below W.heap.size W w' := back_row backLaw W s hs n hn t ht
end Go.Proofs.Ytbbeikdbioelgaa.M
