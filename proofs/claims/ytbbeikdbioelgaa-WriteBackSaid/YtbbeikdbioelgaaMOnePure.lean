/- Towards the plain law of WriteOne: what is written of a name, apart from what was written ahead. -/
import Derived.Test.YtbbeikdbioelgaaMWrite
set_option linter.unusedVariables false
set_option linter.unusedSimpArgs false
namespace Go.Proofs.Ytbbeikdbioelgaa.M
open Go.RowKit Go.Maps Go.Proofs.YtbbeikdbioelgaaW.PrintWords Go.Proofs.YtbbeikdbioelgaaW.PrintLast Go.Proofs.YtbbeikdbioelgaaW.PrintMore

abbrev MM := List UInt8 → Option Int
/-- The bytes of a name, by what is known at its begin. -/
def nameB : Nat → MM → ByteArray → List Int
  | 0, _, _ => []
  | k + 1, m, s => if s.size ≤ 1 then [0] else
    match m s.data.toList with
    | some a => putL (a + 49152) 2
    | none => bytesOf (s.extract 0 (nb s 0 + 1)) ++ nameB k m (s.extract (nb s 0 + 1) s.size)
theorem rest_lt (s : ByteArray) (h : ¬ s.size ≤ 1) : (s.extract (nb s 0 + 1) s.size).size < s.size := by
  rw [ByteArray.size_extract]
  omega
theorem updS_far {m : MM} {l : List UInt8} {v : Int} {s : ByteArray} (h : s.size < l.length) : updS m l v s.data.toList = m s.data.toList := by
  unfold updS
  rw [if_neg]
  intro e
  have := congrArg List.length e
  rw [data_length] at this
  omega
theorem nameB_upd (f : Nat) (m : MM) (l : List UInt8) (v : Int) (s : ByteArray) (h : s.size < l.length) : nameB f (updS m l v) s = nameB f m s := by
  induction f generalizing s with
  | zero => rfl
  | succ f ih =>
    unfold nameB
    by_cases h1 : s.size ≤ 1
    · rw [if_pos h1, if_pos h1]
    · rw [if_neg h1, if_neg h1, updS_far h]
      have := rest_lt s h1
      rw [ih _ (by omega)]
theorem nameF_out (f : Nat) (out : List Int) (m : MM) (s : ByteArray) : (nameF f out m s).1 = out ++ nameB f m s := by
  induction f generalizing out m s with
  | zero => simp [nameF, nameB]
  | succ f ih =>
    unfold nameF nameB
    by_cases h1 : s.size ≤ 1
    · rw [if_pos h1, if_pos h1]
    · rw [if_neg h1, if_neg h1]
      cases hm : m s.data.toList with
      | some a => rfl
      | none =>
        show (nameF f (out ++ _) _ _).1 = _
        rw [ih, List.append_assoc]
        congr 2
        by_cases h2 : out.length < 16384
        · rw [if_pos h2]
          exact nameB_upd f m _ _ _ (by rw [data_length]; exact rest_lt s h1)
        · rw [if_neg h2]
/-- What is known is told once, and lies below. -/
structure Good (m : MM) (n : Nat) : Prop where
  inj : ∀ l l' v, m l = some v → m l' = some v → l = l'
  lt : ∀ l v, m l = some v → 0 ≤ v ∧ v < n
  near : Near m
theorem Good.more {m : MM} {n n' : Nat} (h : Good m n) (hn : n ≤ n') : Good m n' := ⟨h.inj, fun l v e => ⟨(h.lt l v e).1, by have := (h.lt l v e).2; omega⟩, h.near⟩
theorem Good.upd {m : MM} {n n' : Nat} (h : Good m n) (l : List UInt8) (hn : n < n') (h2 : n < 16384) : Good (updS m l n) n' where
  inj := fun a b v ha hb => by
    unfold updS at ha hb
    by_cases e1 : a = l <;> by_cases e2 : b = l
    · rw [e1, e2]
    · rw [if_pos e1] at ha
      rw [if_neg e2] at hb
      have h1 := (h.lt b v hb).2
      have := Option.some.inj ha
      omega
    · rw [if_neg e1] at ha
      rw [if_pos e2] at hb
      have h1 := (h.lt a v ha).2
      have := Option.some.inj hb
      omega
    · rw [if_neg e1] at ha
      rw [if_neg e2] at hb
      exact h.inj a b v ha hb
  lt := fun a v ha => by
    unfold updS at ha
    by_cases e1 : a = l
    · rw [if_pos e1] at ha
      have := Option.some.inj ha
      omega
    · rw [if_neg e1] at ha
      have := h.lt a v ha
      omega
  near := fun a v ha => by
    unfold updS at ha
    by_cases e1 : a = l
    · rw [if_pos e1] at ha
      have := Option.some.inj ha
      omega
    · rw [if_neg e1] at ha
      exact h.near a v ha
theorem nameF_good (f : Nat) (out : List Int) (m : MM) (s : ByteArray) (h : Good m out.length) : Good (nameF f out m s).2 (nameF f out m s).1.length := by
  induction f generalizing out m s with
  | zero => exact h
  | succ f ih =>
    unfold nameF
    by_cases h1 : s.size ≤ 1
    · rw [if_pos h1]
      exact h.more (by simp)
    · rw [if_neg h1]
      cases hm : m s.data.toList with
      | some a => exact h.more (by simp)
      | none =>
        refine ih _ _ _ ?_
        have hl : 0 < (bytesOf (s.extract 0 (nb s 0 + 1))).length := by
          rw [bytesOf_length, ByteArray.size_extract]
          omega
        by_cases h2 : out.length < 16384
        · rw [if_pos h2]
          exact h.upd _ (by rw [List.length_append]; omega) h2
        · rw [if_neg h2]
          exact h.more (by simp)
theorem bytesOf_take (s : ByteArray) (k : Nat) : bytesOf (s.extract 0 k) = (bytesOf s).take k := by
  simp [bytesOf, List.map_take, List.extract_eq_take_drop]
theorem bytesOf_drop (s : ByteArray) (k : Nat) : bytesOf (s.extract k s.size) = (bytesOf s).drop k := by
  have h : (bytesOf s).length = s.size := bytesOf_length s
  simp only [bytesOf] at h ⊢
  simp [List.extract_eq_take_drop]
  rw [List.take_of_length_le]
  simp
theorem bytesOf_zero (s : ByteArray) (h : 0 < s.size) : (bytesOf s)[0]? = some (nb s 0 : Int) := by
  unfold nb
  rw [dif_pos h]
  simp [bytesOf]
  exact ⟨_, Array.getElem?_eq_getElem (show 0 < s.data.size from h), rfl⟩
/-- A name, by its labels. -/
def nameV : Nat → ByteArray → Prop
  | 0, _ => False
  | k + 1, s => (s.size = 1 ∧ nb s 0 = 0) ∨ (1 ≤ nb s 0 ∧ nb s 0 ≤ 63 ∧ nb s 0 + 1 ≤ s.size ∧ nameV k (s.extract (nb s 0 + 1) s.size))
theorem nameV_split (k : Nat) (s : ByteArray) (out : List ByteArray) (h : (splitF k s out).2 = true) : nameV k s := by
  induction k generalizing s out with
  | zero => exact absurd h (by simp [splitF])
  | succ k ih =>
    unfold splitF at h
    by_cases h1 : s.size = 0
    · rw [if_pos h1] at h
      exact absurd h (by simp)
    · rw [if_neg h1] at h
      by_cases h2 : nb s 0 = 0
      · rw [if_pos h2] at h
        exact .inl ⟨by simpa using h, h2⟩
      · rw [if_neg h2] at h
        by_cases h3 : 63 < nb s 0 ∨ s.size ≤ nb s 0
        · rw [if_pos h3] at h
          exact absurd h (by simp)
        · rw [if_neg h3] at h
          exact .inr ⟨by omega, by omega, by omega, ih _ _ h⟩
theorem putL2_inj {a b : Int} {R R' : List Int} (ha : 0 ≤ a ∧ a ≤ 65535) (hb : 0 ≤ b ∧ b ≤ 65535) (h : putL a 2 ++ R = putL b 2 ++ R') : a = b ∧ R = R' := by
  simp [putL] at h
  exact ⟨by omega, h.2.2⟩
theorem bytesOf_inj {s t : ByteArray} (h : bytesOf s = bytesOf t) : s.data.toList = t.data.toList := by
  unfold bytesOf at h
  refine List.map_inj_right (f := fun b : UInt8 => (b.toNat : Int)) ?_ |>.1 h
  intro a b hab
  exact UInt8.toNat_inj.1 (Int.ofNat.inj hab)
end Go.Proofs.Ytbbeikdbioelgaa.M
