/- A name that stands in a text is read as it is: by its labels and pointers. -/
import Derived.Test.YtbbeikdbioelgaaKMRName
set_option linter.unusedVariables false
set_option linter.unusedSimpArgs false
namespace Go.Proofs.Ytbbeikdbioelgaa.M
open Go.RowKit Go.Maps Go.Proofs.YtbbeikdbioelgaaW.PrintWords Go.Proofs.YtbbeikdbioelgaaW.PrintLast Go.Proofs.YtbbeikdbioelgaaW.PrintMore
theorem bmid' (s : ByteArray) (i j : Nat) : bytesOf (s.extract i j) = ((bytesOf s).drop i).take (j - i) := by
  simp [bytesOf, List.extract_eq_take_drop, List.map_take]
/-- One byte of a text, as the reader gets it. -/
theorem get_byte {s : ByteArray} {a : Nat} {x : Int} (h : (bytesOf s)[a]? = some x) : getF s a 1 = some x := by
  have hl : a < s.size := by
    have := (List.getElem?_eq_some_iff.1 h).1
    rwa [bytesOf_length] at this
  unfold getF
  rw [if_neg (by omega)]
  unfold partF
  rw [if_neg (by omega)]
  have he : bytesOf (s.extract ((a : Int)).toNat ((a : Int) + 1).toNat) = [x] := by
    rw [bmid', show ((a : Int)).toNat = a by omega, show ((a : Int) + 1).toNat - a = 1 by omega]
    rw [List.drop_eq_getElem_cons (by rw [bytesOf_length]; exact hl)]
    rw [List.getElem?_eq_getElem (by rw [bytesOf_length]; exact hl)] at h
    rw [Option.some.inj h]
    rfl
  rw [Option.map_some, he]
  simp [valF]
theorem part_bytes {s : ByteArray} {a n : Nat} (h : a + n ≤ s.size) : partF s a n = some (s.extract a (a + n)) := by
  unfold partF
  rw [if_neg (by omega)]
  congr 2 <;> omega
/-- A name in a list of bytes, at a place, with pointers that go below another: its bytes, and the place behind it. -/
inductive Rd (L : List Int) : Nat → Nat → List Int → Nat → Prop
  | zero {p a : Nat} (h : L[a]? = some 0) : Rd L p a [0] (a + 1)
  | label {p a n : Nat} {r : List Int} {e : Nat} (h : L[a]? = some (n : Int)) (h1 : 1 ≤ n) (h2 : n ≤ 63) (hl : a + 1 + n ≤ L.length) (hr : Rd L p (a + 1 + n) r e) : Rd L p a ((n : Int) :: ((L.drop (a + 1)).take n ++ r)) e
  | ptr {p a x y t : Nat} {r : List Int} {e : Nat} (h : L[a]? = some (x : Int)) (h1 : L[a + 1]? = some (y : Int)) (hx : 192 ≤ x) (hx2 : x ≤ 255) (ht : t = (x - 192) * 256 + y) (hp : t < p) (hr : Rd L t t r e) : Rd L p a r (a + 2)
theorem Rd.pos {L : List Int} {p a : Nat} {r : List Int} {e : Nat} (h : Rd L p a r e) : 1 ≤ r.length := by
  induction h with
  | zero h => simp
  | label h h1 h2 hl hr ih => simp
  | ptr h h1 hx hx2 ht hp hr ih => exact ih
set_option maxRecDepth 10000 in
theorem Rd.read {s : ByteArray} {L : List Int} (hL : bytesOf s = L) {p a : Nat} {r : List Int} {e : Nat} (h : Rd L p a r e) : ∀ (K : Nat) (b : List Int) (nx : Int), b.length + r.length ≤ 255 → p * 256 + 256 < K + b.length →
    nameR K s b p nx a = .ok (b ++ r, if 0 ≤ nx then nx else (e : Int)) := by
  induction h with
  | @zero p a h =>
    intro K b nx hb hK
    simp only [List.length_singleton] at hb
    obtain ⟨K, rfl⟩ : ∃ k, K = k + 1 := ⟨K - 1, by omega⟩
    unfold nameR
    rw [get_byte (by rw [hL]; exact h)]
    simp only [if_pos]
    rfl
  | @label p a n r e h h1 h2 hl hr ih =>
    intro K b nx hb hK
    have hlen : (List.take n (List.drop (a + 1) L)).length = n := by rw [List.length_take, List.length_drop]; omega
    simp only [List.length_cons, List.length_append, hlen] at hb
    have hrp := hr.pos
    obtain ⟨K, rfl⟩ : ∃ k, K = k + 1 := ⟨K - 1, by omega⟩
    unfold nameR
    rw [get_byte (by rw [hL]; exact h)]
    simp only []
    rw [if_neg (by omega), if_neg (by omega), if_neg (by omega)]
    have hsz : s.size = L.length := by rw [← hL, bytesOf_length]
    have hp := part_bytes (s := s) (a := a + 1) (n := n) (by omega)
    rw [show ((a : Int) + 1) = ((a + 1 : Nat) : Int) by omega, hp]
    simp only []
    rw [if_neg (by omega)]
    have hb2 : bytesOf (s.extract (a + 1) (a + 1 + n)) = (L.drop (a + 1)).take n := by
      rw [bmid', hL, show a + 1 + n - (a + 1) = n by omega]
    rw [hb2, show (((a + 1 : Nat) : Int) + (n : Int)) = ((a + 1 + n : Nat) : Int) by omega]
    have := ih K (b ++ [(n : Int)] ++ (L.drop (a + 1)).take n) nx (by simp only [List.length_append, List.length_singleton, hlen]; omega) (by simp only [List.length_append, List.length_singleton, hlen]; omega)
    rw [this]
    simp [List.append_assoc]
  | @ptr p a x y t r e h h1 hx hx2 ht hp hr ih =>
    intro K b nx hb hK
    obtain ⟨K, rfl⟩ : ∃ k, K = k + 1 := ⟨K - 1, by omega⟩
    unfold nameR
    rw [get_byte (by rw [hL]; exact h)]
    simp only []
    rw [if_neg (by omega), if_pos (by omega)]
    have hg := get_byte (s := s) (a := a + 1) (by rw [hL]; exact h1)
    rw [show ((a : Int) + 1) = ((a + 1 : Nat) : Int) by omega, hg]
    simp only []
    have hy : (x : Int) % 64 * 256 + (y : Int) = (t : Int) := by omega
    rw [hy, if_neg (by omega)]
    have hK2 : t * 256 + 256 < K + b.length := by clear ht hy; omega
    clear ht hy
    by_cases c : nx < 0
    · rw [if_pos c, ih K b _ hb hK2, if_pos (by omega), if_neg (by omega)]
      rfl
    · rw [if_neg c, ih K b _ hb hK2, if_pos (by omega), if_pos (by omega)]
end Go.Proofs.Ytbbeikdbioelgaa.M
