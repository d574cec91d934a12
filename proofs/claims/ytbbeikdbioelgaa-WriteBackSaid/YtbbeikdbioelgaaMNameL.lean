/- A name that stands in a text is read as it is: by its labels and pointers. -/
import Derived.Test.YtbbeikdbioelgaaMRName
set_option linter.unusedVariables false
set_option linter.unusedSimpArgs false
namespace Go.Proofs.Ytbbeikdbioelgaa.M
open Go.RowKit Go.Maps Go.Proofs.YtbbeikdbioelgaaW.PrintWords Go.Proofs.YtbbeikdbioelgaaW.PrintLast Go.Proofs.YtbbeikdbioelgaaW.PrintMore
theorem btake' (s : ByteArray) (k : Nat) : bytesOf (s.extract 0 k) = (bytesOf s).take k := by
  simp [bytesOf, List.map_take, List.extract_eq_take_drop]
theorem bdrop' (s : ByteArray) (k : Nat) : bytesOf (s.extract k s.size) = (bytesOf s).drop k := by
  have h : (bytesOf s).length = s.size := bytesOf_length s
  simp only [bytesOf] at h ⊢
  simp [List.extract_eq_take_drop]
  rw [List.take_of_length_le]
  simp
theorem bmid' (s : ByteArray) (i j : Nat) : bytesOf (s.extract i j) = ((bytesOf s).drop i).take (j - i) := by
  simp [bytesOf, List.extract_eq_take_drop, List.map_take]
theorem bzero' (s : ByteArray) (h : 0 < s.size) : (bytesOf s)[0]? = some (nb s 0 : Int) := by
  unfold nb
  rw [dif_pos h]
  simp [bytesOf]
  exact ⟨_, Array.getElem?_eq_getElem (show 0 < s.data.size from h), rfl⟩
theorem bapp' (s t : ByteArray) : bytesOf (s ++ t) = bytesOf s ++ bytesOf t := by
  simp [bytesOf]
theorem binj' {s t : ByteArray} (h : bytesOf s = bytesOf t) : s = t := by
  apply ByteArray.ext
  apply Array.toList_inj.1
  unfold bytesOf at h
  refine List.map_inj_right (f := fun b : UInt8 => (b.toNat : Int)) ?_ |>.1 h
  intro a b hab
  exact UInt8.toNat_inj.1 (Int.ofNat.inj hab)
theorem bsplit' (s : ByteArray) (h : 0 < s.size) : bytesOf s = (nb s 0 : Int) :: (bytesOf s).drop 1 := by
  have h0 := bzero' s h
  match hb : bytesOf s with
  | [] => rw [hb] at h0; exact absurd h0 (by simp)
  | x :: l =>
    rw [hb] at h0
    rw [← Option.some.inj h0]
    rfl
/-- One byte of a text, as the reader gets it. -/
theorem get_byte {s : ByteArray} {a : Nat} {x : Int} (h : (bytesOf s)[a]? = some x) : getF s a 1 = some x := by
  have hl : a < s.size := by
    have := (List.getElem?_eq_some_iff.1 h).1
    rwa [bytesOf_length] at this
  unfold getF
  rw [if_neg (by omega)]
  unfold partF
  rw [if_neg (by omega)]
  have he : bytesOf (s.extract ((a : Int)).toNat ((a : Int) + 1).toNat) = [x] := by
    rw [bmid', show ((a : Int)).toNat = a by omega, show ((a : Int) + 1).toNat - a = 1 by omega]
    rw [List.drop_eq_getElem_cons (by rw [bytesOf_length]; exact hl)]
    rw [List.getElem?_eq_getElem (by rw [bytesOf_length]; exact hl)] at h
    rw [Option.some.inj h]
    rfl
  rw [Option.map_some, he]
  simp [valF]
theorem part_bytes {s : ByteArray} {a n : Nat} (h : a + n ≤ s.size) : partF s a n = some (s.extract a (a + n)) := by
  unfold partF
  rw [if_neg (by omega)]
  congr 2 <;> omega
/-- A name in a list of bytes, at a place, with pointers that go below another: its bytes, and the place behind it. -/
inductive Rd (L : List Int) : Nat → Nat → List Int → Nat → Prop
  | zero {p a : Nat} (h : L[a]? = some 0) : Rd L p a [0] (a + 1)
  | label {p a n : Nat} {r : List Int} {e : Nat} (h : L[a]? = some (n : Int)) (h1 : 1 ≤ n) (h2 : n ≤ 63) (hl : a + 1 + n ≤ L.length) (hr : Rd L p (a + 1 + n) r e) : Rd L p a ((n : Int) :: ((L.drop (a + 1)).take n ++ r)) e
  | ptr {p a x y t : Nat} {r : List Int} {e : Nat} (h : L[a]? = some (x : Int)) (h1 : L[a + 1]? = some (y : Int)) (hx : 192 ≤ x) (hx2 : x ≤ 255) (ht : t = (x - 192) * 256 + y) (hp : t < p) (hr : Rd L t t r e) : Rd L p a r (a + 2)
theorem Rd.pos {L : List Int} {p a : Nat} {r : List Int} {e : Nat} (h : Rd L p a r e) : 1 ≤ r.length := by
  induction h with
  | zero h => simp
  | label h h1 h2 hl hr ih => simp
  | ptr h h1 hx hx2 ht hp hr ih => exact ih
set_option maxRecDepth 10000 in
theorem Rd.read {s : ByteArray} {L : List Int} (hL : bytesOf s = L) {p a : Nat} {r : List Int} {e : Nat} (h : Rd L p a r e) : ∀ (K : Nat) (b : List Int) (nx : Int), b.length + r.length ≤ 255 → p * 256 + 256 < K + b.length →
    nameR K s b p nx a = .ok (b ++ r, if 0 ≤ nx then nx else (e : Int)) := by
  induction h with
  | @zero p a h =>
    intro K b nx hb hK
    simp only [List.length_singleton] at hb
    obtain ⟨K, rfl⟩ : ∃ k, K = k + 1 := ⟨K - 1, by omega⟩
    unfold nameR
    rw [get_byte (by rw [hL]; exact h)]
    simp only [if_pos]
    rfl
  | @label p a n r e h h1 h2 hl hr ih =>
    intro K b nx hb hK
    have hlen : (List.take n (List.drop (a + 1) L)).length = n := by rw [List.length_take, List.length_drop]; omega
    simp only [List.length_cons, List.length_append, hlen] at hb
    have hrp := hr.pos
    obtain ⟨K, rfl⟩ : ∃ k, K = k + 1 := ⟨K - 1, by omega⟩
    unfold nameR
    rw [get_byte (by rw [hL]; exact h)]
    simp only []
    rw [if_neg (by omega), if_neg (by omega), if_neg (by omega)]
    have hsz : s.size = L.length := by rw [← hL, bytesOf_length]
    have hp := part_bytes (s := s) (a := a + 1) (n := n) (by omega)
    rw [show ((a : Int) + 1) = ((a + 1 : Nat) : Int) by omega, hp]
    simp only []
    rw [if_neg (by omega)]
    have hb2 : bytesOf (s.extract (a + 1) (a + 1 + n)) = (L.drop (a + 1)).take n := by
      rw [bmid', hL, show a + 1 + n - (a + 1) = n by omega]
    rw [hb2, show (((a + 1 : Nat) : Int) + (n : Int)) = ((a + 1 + n : Nat) : Int) by omega]
    have := ih K (b ++ [(n : Int)] ++ (L.drop (a + 1)).take n) nx (by simp only [List.length_append, List.length_singleton, hlen]; omega) (by simp only [List.length_append, List.length_singleton, hlen]; omega)
    rw [this]
    simp [List.append_assoc]
  | @ptr p a x y t r e h h1 hx hx2 ht hp hr ih =>
    intro K b nx hb hK
    obtain ⟨K, rfl⟩ : ∃ k, K = k + 1 := ⟨K - 1, by omega⟩
    unfold nameR
    rw [get_byte (by rw [hL]; exact h)]
    simp only []
    rw [if_neg (by omega), if_pos (by omega)]
    have hg := get_byte (s := s) (a := a + 1) (by rw [hL]; exact h1)
    rw [show ((a : Int) + 1) = ((a + 1 : Nat) : Int) by omega, hg]
    simp only []
    have hy : (x : Int) % 64 * 256 + (y : Int) = (t : Int) := by omega
    rw [hy, if_neg (by omega)]
    have hK2 : t * 256 + 256 < K + b.length := by clear ht hy; omega
    clear ht hy
    by_cases c : nx < 0
    · rw [if_pos c, ih K b _ hb hK2, if_pos (by omega), if_neg (by omega)]
      rfl
    · rw [if_neg c, ih K b _ hb hK2, if_pos (by omega), if_pos (by omega)]
/-- A name, by its labels. -/
def nameW : Nat → ByteArray → Prop
  | 0, _ => False
  | k + 1, s => (s.size = 1 ∧ nb s 0 = 0) ∨ (1 ≤ nb s 0 ∧ nb s 0 ≤ 63 ∧ nb s 0 + 1 ≤ s.size ∧ nameW k (s.extract (nb s 0 + 1) s.size))
theorem nameW_split (k : Nat) (s : ByteArray) (out : List ByteArray) (h : (splitF k s out).2 = true) : nameW k s := by
  induction k generalizing s out with
  | zero => exact absurd h (by simp [splitF])
  | succ k ih =>
    unfold splitF at h
    by_cases h1 : s.size = 0
    · rw [if_pos h1] at h
      exact absurd h (by simp)
    · rw [if_neg h1] at h
      by_cases h2 : nb s 0 = 0
      · rw [if_pos h2] at h
        exact .inl ⟨by simpa using h, h2⟩
      · rw [if_neg h2] at h
        by_cases h3 : 63 < nb s 0 ∨ s.size ≤ nb s 0
        · rw [if_pos h3] at h
          exact absurd h (by simp)
        · rw [if_neg h3] at h
          exact .inr ⟨by omega, by omega, by omega, ih _ _ h⟩
theorem isName_W {s : ByteArray} (h : isName s = true) : nameW (s.size + 1) s ∧ s.size ≤ 255 := by
  unfold isName split at h
  by_cases hb : 255 < s.size
  · rw [if_pos hb] at h; exact absurd h (by decide)
  · rw [if_neg hb] at h; exact ⟨nameW_split _ _ _ h, by omega⟩
theorem nameW_pos {k : Nat} {s : ByteArray} (h : nameW k s) : 1 ≤ s.size := by
  cases k with
  | zero => exact absurd h id
  | succ k =>
    rcases h with ⟨h1, _⟩ | ⟨h1, _, h3, _⟩ <;> omega
/-- A name that stands in a list is there to be read. -/
theorem Rd.of_name (L : List Int) (p : Nat) (k : Nat) : ∀ (x : ByteArray) (a : Nat) (R : List Int), nameW k x → L.drop a = bytesOf x ++ R → a + x.size ≤ L.length → Rd L p a (bytesOf x) (a + x.size) := by
  induction k with
  | zero => intro x a R h; exact absurd h id
  | succ k ih =>
    intro x a R h hd hl
    have hpos := nameW_pos h
    have hb := bsplit' x (by omega)
    have hat : L[a]? = some (nb x 0 : Int) := by
      have h0 : (L.drop a)[0]? = some (nb x 0 : Int) := by rw [hd, hb]; rfl
      rw [List.getElem?_drop] at h0
      exact h0
    rcases h with ⟨h1, h2⟩ | ⟨h1, h2, h3, h4⟩
    · have he : bytesOf x = [0] := by
        have hl1 := bytesOf_length x
        rw [hb] at hl1 ⊢
        rw [h2]
        rw [List.length_cons, h1] at hl1
        rw [List.length_eq_zero_iff.1 (show ((bytesOf x).drop 1).length = 0 by omega)]
        rfl
      rw [he, h1]
      rw [h2] at hat
      exact Rd.zero hat
    · have hrest := bdrop' x (nb x 0 + 1)
      have hx : bytesOf x = (nb x 0 : Int) :: (((bytesOf x).drop 1).take (nb x 0) ++ bytesOf (x.extract (nb x 0 + 1) x.size)) := by
        conv => lhs; rw [hb]
        congr 1
        rw [hrest]
        conv => lhs; rw [← List.take_append_drop (nb x 0) ((bytesOf x).drop 1)]
        rw [List.drop_drop, Nat.add_comm 1]
      have hl1 := bytesOf_length x
      have htk : ((L.drop (a + 1)).take (nb x 0)) = ((bytesOf x).drop 1).take (nb x 0) := by
        rw [show L.drop (a + 1) = (L.drop a).drop 1 by rw [List.drop_drop], hd, List.drop_append_of_le_length (by omega), List.take_append_of_le_length (by rw [List.length_drop]; omega)]
      have hd2 : L.drop (a + 1 + nb x 0) = bytesOf (x.extract (nb x 0 + 1) x.size) ++ R := by
        rw [hrest, ← List.drop_append_of_le_length (by omega), ← hd, List.drop_drop]
        congr 1
        omega
      have hsz : (x.extract (nb x 0 + 1) x.size).size = x.size - (nb x 0 + 1) := by rw [ByteArray.size_extract]; omega
      have hr := ih (x.extract (nb x 0 + 1) x.size) (a + 1 + nb x 0) R h4 hd2 (by rw [hsz]; omega)
      rw [hsz, show a + 1 + nb x 0 + (x.size - (nb x 0 + 1)) = a + x.size by omega] at hr
      have := Rd.label hat h1 h2 (by omega) hr
      rw [htk, ← hx] at this
      exact this
end Go.Proofs.Ytbbeikdbioelgaa.M
