/- Joined texts: walks and plain laws. -/
import Derived.Test.YtbbeikdbioelgaaBMG3
import Derived.Test.YtbbeikdbioelgaaBMG4
import Derived.Test.YtbbeikdbioelgaaBMG2
import Derived.Laws.Concat
import Derived.Test.YtbbeikdbioelgaaBMG1
set_option linter.unusedVariables false
set_option linter.unusedSimpArgs false
namespace Go.Proofs.Ytbbeikdbioelgaa.M
open Go.RowKit Go.Maps Go.Proofs.YtbbeikdbioelgaaW.PrintWords Go.Proofs.YtbbeikdbioelgaaW.PrintLast Go.Proofs.YtbbeikdbioelgaaW.PrintMore
theorem bdrop' (s : ByteArray) (k : Nat) : bytesOf (s.extract k s.size) = (bytesOf s).drop k := by
  have h : (bytesOf s).length = s.size := bytesOf_length s
  simp only [bytesOf] at h ⊢
  simp [List.extract_eq_take_drop]
  rw [List.take_of_length_le]
  simp
theorem bmid' (s : ByteArray) (i j : Nat) : bytesOf (s.extract i j) = ((bytesOf s).drop i).take (j - i) := by
  simp [bytesOf, List.extract_eq_take_drop, List.map_take]
theorem bzero' (s : ByteArray) (h : 0 < s.size) : (bytesOf s)[0]? = some (nb s 0 : Int) := by
  unfold nb
  rw [dif_pos h]
  simp [bytesOf]
  exact ⟨_, Array.getElem?_eq_getElem (show 0 < s.data.size from h), rfl⟩
theorem bsplit' (s : ByteArray) (h : 0 < s.size) : bytesOf s = (nb s 0 : Int) :: (bytesOf s).drop 1 := by
  have h0 := bzero' s h
  match hb : bytesOf s with
  | [] => rw [hb] at h0; exact absurd h0 (by simp)
  | x :: l =>
    rw [hb] at h0
    rw [← Option.some.inj h0]
    rfl
theorem get_byte {s : ByteArray} {a : Nat} {x : Int} (h : (bytesOf s)[a]? = some x) : getF s a 1 = some x := by
  have hl : a < s.size := by
    have := (List.getElem?_eq_some_iff.1 h).1
    rwa [bytesOf_length] at this
  unfold getF
  rw [if_neg (by omega)]
  unfold partF
  rw [if_neg (by omega)]
  have he : bytesOf (s.extract ((a : Int)).toNat ((a : Int) + 1).toNat) = [x] := by
    rw [bmid', show ((a : Int)).toNat = a by omega, show ((a : Int) + 1).toNat - a = 1 by omega]
    rw [List.drop_eq_getElem_cons (by rw [bytesOf_length]; exact hl)]
    rw [List.getElem?_eq_getElem (by rw [bytesOf_length]; exact hl)] at h
    rw [Option.some.inj h]
    rfl
  rw [Option.map_some, he]
  simp [valF]
theorem part_bytes {s : ByteArray} {a n : Nat} (h : a + n ≤ s.size) : partF s a n = some (s.extract a (a + n)) := by
  unfold partF
  rw [if_neg (by omega)]
  congr 2 <;> omega
inductive Rd (L : List Int) : Nat → Nat → List Int → Nat → Prop
  | zero {p a : Nat} (h : L[a]? = some 0) : Rd L p a [0] (a + 1)
  | label {p a n : Nat} {r : List Int} {e : Nat} (h : L[a]? = some (n : Int)) (h1 : 1 ≤ n) (h2 : n ≤ 63) (hl : a + 1 + n ≤ L.length) (hr : Rd L p (a + 1 + n) r e) : Rd L p a ((n : Int) :: ((L.drop (a + 1)).take n ++ r)) e
  | ptr {p a x y t : Nat} {r : List Int} {e : Nat} (h : L[a]? = some (x : Int)) (h1 : L[a + 1]? = some (y : Int)) (hx : 192 ≤ x) (hx2 : x ≤ 255) (ht : t = (x - 192) * 256 + y) (hp : t < p) (hr : Rd L t t r e) : Rd L p a r (a + 2)
theorem Rd.pos {L : List Int} {p a : Nat} {r : List Int} {e : Nat} (h : Rd L p a r e) : 1 ≤ r.length := by
  induction h with
  | zero h => simp
  | label h h1 h2 hl hr ih => simp
  | ptr h h1 hx hx2 ht hp hr ih => exact ih
set_option maxRecDepth 10000 in
theorem Rd.read {s : ByteArray} {L : List Int} (hL : bytesOf s = L) {p a : Nat} {r : List Int} {e : Nat} (h : Rd L p a r e) : ∀ (K : Nat) (b : List Int) (nx : Int), b.length + r.length ≤ 255 → p * 256 + 256 < K + b.length →
    nameR K s b p nx a = .ok (b ++ r, if 0 ≤ nx then nx else (e : Int)) := by
  induction h with
  | @zero p a h =>
    intro K b nx hb hK
    simp only [List.length_singleton] at hb
    obtain ⟨K, rfl⟩ : ∃ k, K = k + 1 := ⟨K - 1, by omega⟩
    unfold nameR
    rw [get_byte (by rw [hL]; exact h)]
    simp only [if_pos]
    rfl
  | @label p a n r e h h1 h2 hl hr ih =>
    intro K b nx hb hK
    have hlen : (List.take n (List.drop (a + 1) L)).length = n := by rw [List.length_take, List.length_drop]; omega
    simp only [List.length_cons, List.length_append, hlen] at hb
    have hrp := hr.pos
    obtain ⟨K, rfl⟩ : ∃ k, K = k + 1 := ⟨K - 1, by omega⟩
    unfold nameR
    rw [get_byte (by rw [hL]; exact h)]
    simp only []
    rw [if_neg (by omega), if_neg (by omega), if_neg (by omega)]
    have hsz : s.size = L.length := by rw [← hL, bytesOf_length]
    have hp := part_bytes (s := s) (a := a + 1) (n := n) (by omega)
    rw [show ((a : Int) + 1) = ((a + 1 : Nat) : Int) by omega, hp]
    simp only []
    rw [if_neg (by omega)]
    have hb2 : bytesOf (s.extract (a + 1) (a + 1 + n)) = (L.drop (a + 1)).take n := by
      rw [bmid', hL, show a + 1 + n - (a + 1) = n by omega]
    rw [hb2, show (((a + 1 : Nat) : Int) + (n : Int)) = ((a + 1 + n : Nat) : Int) by omega]
    have := ih K (b ++ [(n : Int)] ++ (L.drop (a + 1)).take n) nx (by simp only [List.length_append, List.length_singleton, hlen]; omega) (by simp only [List.length_append, List.length_singleton, hlen]; omega)
    rw [this]
    simp [List.append_assoc]
  | @ptr p a x y t r e h h1 hx hx2 ht hp hr ih =>
    intro K b nx hb hK
    obtain ⟨K, rfl⟩ : ∃ k, K = k + 1 := ⟨K - 1, by omega⟩
    unfold nameR
    rw [get_byte (by rw [hL]; exact h)]
    simp only []
    rw [if_neg (by omega), if_pos (by omega)]
    have hg := get_byte (s := s) (a := a + 1) (by rw [hL]; exact h1)
    rw [show ((a : Int) + 1) = ((a + 1 : Nat) : Int) by omega, hg]
    simp only []
    have hy : (x : Int) % 64 * 256 + (y : Int) = (t : Int) := by omega
    rw [hy, if_neg (by omega)]
    have hK2 : t * 256 + 256 < K + b.length := by clear ht hy; omega
    clear ht hy
    by_cases c : nx < 0
    · rw [if_pos c, ih K b _ hb hK2, if_pos (by omega), if_neg (by omega)]
      rfl
    · rw [if_neg c, ih K b _ hb hK2, if_pos (by omega), if_pos (by omega)]
def nameW : Nat → ByteArray → Prop
  | 0, _ => False
  | k + 1, s => (s.size = 1 ∧ nb s 0 = 0) ∨ (1 ≤ nb s 0 ∧ nb s 0 ≤ 63 ∧ nb s 0 + 1 ≤ s.size ∧ nameW k (s.extract (nb s 0 + 1) s.size))
theorem nameW_split (k : Nat) (s : ByteArray) (out : List ByteArray) (h : (splitF k s out).2 = true) : nameW k s := by
  induction k generalizing s out with
  | zero => exact absurd h (by simp [splitF])
  | succ k ih =>
    unfold splitF at h
    by_cases h1 : s.size = 0
    · rw [if_pos h1] at h
      exact absurd h (by simp)
    · rw [if_neg h1] at h
      by_cases h2 : nb s 0 = 0
      · rw [if_pos h2] at h
        exact .inl ⟨by simpa using h, h2⟩
      · rw [if_neg h2] at h
        by_cases h3 : 63 < nb s 0 ∨ s.size ≤ nb s 0
        · rw [if_pos h3] at h
          exact absurd h (by simp)
        · rw [if_neg h3] at h
          exact .inr ⟨by omega, by omega, by omega, ih _ _ h⟩
theorem isName_W {s : ByteArray} (h : isName s = true) : nameW (s.size + 1) s ∧ s.size ≤ 255 := by
  unfold isName split at h
  by_cases hb : 255 < s.size
  · rw [if_pos hb] at h; exact absurd h (by decide)
  · rw [if_neg hb] at h; exact ⟨nameW_split _ _ _ h, by omega⟩
theorem nameW_pos {k : Nat} {s : ByteArray} (h : nameW k s) : 1 ≤ s.size := by
  cases k with
  | zero => exact absurd h id
  | succ k =>
    rcases h with ⟨h1, _⟩ | ⟨h1, _, h3, _⟩ <;> omega
theorem Rd.of_name (L : List Int) (p : Nat) (k : Nat) : ∀ (x : ByteArray) (a : Nat) (R : List Int), nameW k x → L.drop a = bytesOf x ++ R → a + x.size ≤ L.length → Rd L p a (bytesOf x) (a + x.size) := by
  induction k with
  | zero => intro x a R h; exact absurd h id
  | succ k ih =>
    intro x a R h hd hl
    have hpos := nameW_pos h
    have hb := bsplit' x (by omega)
    have hat : L[a]? = some (nb x 0 : Int) := by
      have h0 : (L.drop a)[0]? = some (nb x 0 : Int) := by rw [hd, hb]; rfl
      rw [List.getElem?_drop] at h0
      exact h0
    rcases h with ⟨h1, h2⟩ | ⟨h1, h2, h3, h4⟩
    · have he : bytesOf x = [0] := by
        have hl1 := bytesOf_length x
        rw [hb] at hl1 ⊢
        rw [h2]
        rw [List.length_cons, h1] at hl1
        rw [List.length_eq_zero_iff.1 (show ((bytesOf x).drop 1).length = 0 by omega)]
        rfl
      rw [he, h1]
      rw [h2] at hat
      exact Rd.zero hat
    · have hrest := bdrop' x (nb x 0 + 1)
      have hx : bytesOf x = (nb x 0 : Int) :: (((bytesOf x).drop 1).take (nb x 0) ++ bytesOf (x.extract (nb x 0 + 1) x.size)) := by
        conv => lhs; rw [hb]
        congr 1
        rw [hrest]
        conv => lhs; rw [← List.take_append_drop (nb x 0) ((bytesOf x).drop 1)]
        rw [List.drop_drop, Nat.add_comm 1]
      have hl1 := bytesOf_length x
      have htk : ((L.drop (a + 1)).take (nb x 0)) = ((bytesOf x).drop 1).take (nb x 0) := by
        rw [show L.drop (a + 1) = (L.drop a).drop 1 by rw [List.drop_drop], hd, List.drop_append_of_le_length (by omega), List.take_append_of_le_length (by rw [List.length_drop]; omega)]
      have hd2 : L.drop (a + 1 + nb x 0) = bytesOf (x.extract (nb x 0 + 1) x.size) ++ R := by
        rw [hrest, ← List.drop_append_of_le_length (by omega), ← hd, List.drop_drop]
        congr 1
        omega
      have hsz : (x.extract (nb x 0 + 1) x.size).size = x.size - (nb x 0 + 1) := by rw [ByteArray.size_extract]; omega
      have hr := ih (x.extract (nb x 0 + 1) x.size) (a + 1 + nb x 0) R h4 hd2 (by rw [hsz]; omega)
      rw [hsz, show a + 1 + nb x 0 + (x.size - (nb x 0 + 1)) = a + x.size by omega] at hr
      have := Rd.label hat h1 h2 (by omega) hr
      rw [htk, ← hx] at this
      exact this
end Go.Proofs.Ytbbeikdbioelgaa.M
set_option linter.unusedVariables false
set_option linter.unusedSimpArgs false
namespace Go.Proofs.Ytbbeikdbioelgaa.M
open Go.RowKit Go.Maps Go.Proofs.YtbbeikdbioelgaaW.PrintWords Go.Proofs.YtbbeikdbioelgaaW.PrintLast Go.Proofs.YtbbeikdbioelgaaW.PrintMore
inductive Names : List Int → Prop
  | zero : Names [0]
  | cons {n : Int} {t : ByteArray} {r : List Int} (h0 : 1 ≤ n) (h1 : n ≤ 63) (hl : (t.size : Int) = n) (h : Names r) : Names (n :: (bytesOf t ++ r))
theorem Names.pos {r : List Int} (h : Names r) : 1 ≤ r.length := by cases h <;> simp
theorem Names.byt {r : List Int} (h : Names r) : ∀ x ∈ r, 0 ≤ x ∧ x < 256 := by
  induction h with
  | zero => intro x hx; rw [List.mem_singleton.1 hx]; omega
  | cons h0 h1 hl h ih =>
    intro x hx
    rcases List.mem_cons.1 hx with rfl | hx
    · omega
    rcases List.mem_append.1 hx with hx | hx
    · unfold bytesOf at hx
      obtain ⟨b, _, rfl⟩ := List.mem_map.1 hx
      have := b.toNat_lt
      omega
    · exact ih x hx
theorem str_byt {l : List Int} (h : ∀ x ∈ l, 0 ≤ x ∧ x < 256) : bytesOf (strOfNums l) = l := by
  unfold bytesOf
  rw [strOfNums_data, List.map_map]
  induction l with
  | nil => rfl
  | cons a l ih =>
    rw [List.map_cons, ih (fun x hx => h x (by simp [hx]))]
    have := h a (by simp)
    congr 1
    simp only [Function.comp]
    rw [UInt8.toNat_ofNat']
    omega
theorem Names.split {r : List Int} (h : Names r) : ∀ (s : ByteArray) (k : Nat) (out : List ByteArray), bytesOf s = r → s.size < k → (splitF k s out).2 = true := by
  induction h with
  | zero =>
    intro s k out hs hk
    have hz : s.size = 1 := by rw [← bytesOf_length, hs]; rfl
    have h0 := bzero' s (by omega)
    rw [hs] at h0
    have h0 : nb s 0 = 0 := by have := Option.some.inj h0; omega
    obtain ⟨k, rfl⟩ : ∃ j, k = j + 1 := ⟨k - 1, by omega⟩
    unfold splitF
    rw [if_neg (by omega), if_pos h0, hz]
    rfl
  | @cons n t r h1 h2 hl h ih =>
    intro s k out hs hk
    have hz : s.size = 1 + t.size + r.length := by rw [← bytesOf_length, hs]; simp only [List.length_cons, List.length_append, bytesOf_length]; omega
    have hp := h.pos
    have h0 := bzero' s (by omega)
    rw [hs] at h0
    have h0 : n = (nb s 0 : Int) := Option.some.inj h0
    obtain ⟨k, rfl⟩ : ∃ j, k = j + 1 := ⟨k - 1, by omega⟩
    unfold splitF
    rw [if_neg (by omega), if_neg (by omega), if_neg (by omega)]
    refine ih _ _ _ ?_ (by rw [ByteArray.size_extract]; omega)
    rw [bdrop', hs, show nb s 0 + 1 = (n :: bytesOf t).length by simp only [List.length_cons, bytesOf_length]; omega, ← List.cons_append, List.drop_left]
theorem Names.is {r : List Int} (h : Names r) (hl : r.length ≤ 255) : isName (strOfNums r) = true := by
  unfold isName Go.Proofs.Ytbbeikdbioelgaa.M.split
  rw [if_neg (by rw [strOfNums_size]; omega)]
  exact h.split _ _ _ (str_byt h.byt) (by omega)
theorem nameR_names (K : Nat) : ∀ {s : ByteArray} {b : List Int} {part nx a : Int} {b' : List Int} {a' : Int}, nameR K s b part nx a = .ok (b', a') → ∃ r, b' = b ++ r ∧ Names r := by
  induction K with
  | zero => intro s b part nx a b' a' h; exact absurd h (by simp [nameR])
  | succ K ih =>
    intro s b part nx a b' a' h
    unfold nameR at h
    cases h1 : getF s a 1 with
    | none => rw [h1] at h; exact absurd h (by simp)
    | some n =>
      rw [h1] at h
      simp only [] at h
      have g1 := get1 h1
      by_cases c1 : n = 0
      · rw [if_pos c1] at h
        rw [← (Prod.mk.inj (Except.ok.inj h)).1]
        exact ⟨_, rfl, .zero⟩
      rw [if_neg c1] at h
      by_cases c2 : 191 < n
      · rw [if_pos c2] at h
        cases h2 : getF s (a + 1) 1 with
        | none => rw [h2] at h; exact absurd h (by simp)
        | some m =>
          rw [h2] at h
          simp only [] at h
          by_cases c3 : part ≤ n % 64 * 256 + m
          · rw [if_pos c3] at h; exact absurd h (by simp)
          · rw [if_neg c3] at h
            exact ih h
      rw [if_neg c2] at h
      by_cases c4 : 63 < n
      · rw [if_pos c4] at h; exact absurd h (by simp)
      rw [if_neg c4] at h
      cases h3 : partF s (a + 1) n with
      | none => rw [h3] at h; exact absurd h (by simp)
      | some l =>
        rw [h3] at h
        simp only [] at h
        by_cases c5 : 255 < (b.length : Int) + n + 2
        · rw [if_pos c5] at h; exact absurd h (by simp)
        · rw [if_neg c5] at h
          obtain ⟨r, hr, hn⟩ := ih h
          exact ⟨n :: (bytesOf l ++ r), by rw [hr]; simp, .cons (by omega) (by omega) (part_size h3).1 hn⟩
theorem name_right {s : ByteArray} {a : Int} {b : List Int} {a' : Int} (h : nameAt s a = .ok (b, a')) : isName (strOfNums b) = true := by
  have hl := name_len h
  rw [strOfNums_size] at hl
  obtain ⟨r, hr, hn⟩ := nameR_names _ h
  rw [List.nil_append] at hr
  rw [hr] at hl ⊢
  exact hn.is hl
theorem ques_right {s : ByteArray} {a : Int} {q : Ques} {a' : Int} (h : quesR s a = .ok (q, a')) : isName q.f0 = true ∧ q.f0.size ≤ 255 := by
  unfold quesR at h
  cases hn : nameAt s a with
  | error c => rw [hn] at h; exact absurd h (by simp)
  | ok x =>
    obtain ⟨b, a1⟩ := x
    rw [hn] at h
    simp only [] at h
    cases h1 : getF s a1 2 with
    | none => rw [h1] at h; exact absurd h (by simp)
    | some t =>
      rw [h1] at h
      simp only [] at h
      cases h2 : getF s (a1 + 2) 2 with
      | none => rw [h2] at h; exact absurd h (by simp)
      | some c =>
        rw [h2] at h
        rw [← (Prod.mk.inj (Except.ok.inj h)).1]
        exact ⟨name_right hn, name_len hn⟩
theorem quess_right {s : ByteArray} (K : Nat) : ∀ {out : List Ques} {a : Int} {out' : List Ques} {a' : Int}, quessR s K out a = .ok (out', a') → (∀ q ∈ out, isName q.f0 = true ∧ q.f0.size ≤ 255) → (∀ q ∈ out', isName q.f0 = true ∧ q.f0.size ≤ 255) ∧ out'.length = out.length + K := by
  induction K with
  | zero =>
    intro out a out' a' h hq
    rw [← (Prod.mk.inj (Except.ok.inj h)).1]
    exact ⟨hq, rfl⟩
  | succ K ih =>
    intro out a out' a' h hq
    unfold quessR at h
    cases h1 : quesR s a with
    | error c => rw [h1] at h; exact absurd h (by simp)
    | ok x =>
      obtain ⟨q, a1⟩ := x
      rw [h1] at h
      obtain ⟨k1, k2⟩ := ih h (fun y hy => by
        rcases List.mem_append.1 hy with hy | hy
        · exact hq y hy
        · rw [List.mem_singleton.1 hy]; exact ques_right h1)
      exact ⟨k1, by rw [k2, List.length_append, List.length_singleton]; omega⟩
end Go.Proofs.Ytbbeikdbioelgaa.M
set_option linter.unusedVariables false
set_option linter.unusedSimpArgs false
namespace Go.Proofs.Ytbbeikdbioelgaa.M
open Go.RowKit Go.Maps Go.Proofs.YtbbeikdbioelgaaW.PrintWords Go.Proofs.YtbbeikdbioelgaaW.PrintLast Go.Proofs.YtbbeikdbioelgaaW.PrintMore
section
variable {s : ByteArray} {c : Int}
end
structure QuesSm (q : Ques) : Prop where
  name : q.f0.size ≤ 255
  t0 : 0 ≤ q.f1
  t1 : q.f1 ≤ 65535
  c0 : 0 ≤ q.f2
  c1 : q.f2 ≤ 65535
theorem ques_sm {s : ByteArray} {a : Int} {q : Ques} {a' : Int} (h : quesR s a = .ok (q, a')) : QuesSm q := by
  unfold quesR at h
  cases hn : nameAt s a with
  | error c => rw [hn] at h; exact absurd h (by simp)
  | ok x =>
    obtain ⟨b, a1⟩ := x
    rw [hn] at h
    simp only [] at h
    cases h1 : getF s a1 2 with
    | none => rw [h1] at h; exact absurd h (by simp)
    | some t =>
      rw [h1] at h
      simp only [] at h
      cases h2 : getF s (a1 + 2) 2 with
      | none => rw [h2] at h; exact absurd h (by simp)
      | some c =>
        rw [h2] at h
        rw [← (Prod.mk.inj (Except.ok.inj h)).1]
        have g1 := get2 h1
        have g2 := get2 h2
        exact ⟨name_len hn, g1.1, g1.2.1, g2.1, g2.2.1⟩
theorem quess_sm {s : ByteArray} (K : Nat) : ∀ {out : List Ques} {a : Int} {out' : List Ques} {a' : Int}, quessR s K out a = .ok (out', a') → (∀ q ∈ out, QuesSm q) → (∀ q ∈ out', QuesSm q) ∧ out'.length = out.length + K := by
  induction K with
  | zero =>
    intro out a out' a' h hq
    rw [← (Prod.mk.inj (Except.ok.inj h)).1]
    exact ⟨hq, rfl⟩
  | succ K ih =>
    intro out a out' a' h hq
    unfold quessR at h
    cases h1 : quesR s a with
    | error c => rw [h1] at h; exact absurd h (by simp)
    | ok x =>
      obtain ⟨q, a1⟩ := x
      rw [h1] at h
      obtain ⟨k1, k2⟩ := ih h (fun y hy => by
        rcases List.mem_append.1 hy with hy | hy
        · exact hq y hy
        · rw [List.mem_singleton.1 hy]; exact ques_sm h1)
      exact ⟨k1, by rw [k2, List.length_append, List.length_singleton]; omega⟩
theorem cntR_sm {s : ByteArray} (K : Nat) : ∀ {out : List Int} {a : Int} {out' : List Int} {a' : Int}, cntR s K out a = .ok (out', a') → (∀ x ∈ out, 0 ≤ x ∧ x ≤ 65535) → a ≤ s.size → (∀ x ∈ out', 0 ≤ x ∧ x ≤ 65535) ∧ out'.length = out.length + K ∧ a + 2 * K ≤ s.size := by
  induction K with
  | zero =>
    intro out a out' a' h hq ha
    rw [← (Prod.mk.inj (Except.ok.inj h)).1]
    exact ⟨hq, rfl, by omega⟩
  | succ K ih =>
    intro out a out' a' h hq ha
    unfold cntR at h
    cases h1 : getF s a 2 with
    | none => rw [h1] at h; exact absurd h (by simp)
    | some n =>
      rw [h1] at h
      have g := get2 h1
      obtain ⟨k1, k2, k3⟩ := ih h (fun y hy => by
        rcases List.mem_append.1 hy with hy | hy
        · exact hq y hy
        · rw [List.mem_singleton.1 hy]; omega) (by omega)
      exact ⟨k1, by rw [k2, List.length_append, List.length_singleton]; omega, by omega⟩
end Go.Proofs.Ytbbeikdbioelgaa.M
set_option linter.unusedVariables false
set_option linter.unusedSimpArgs false
namespace Go.Proofs.Ytbbeikdbioelgaa.M
open Go.RowKit Go.Maps Go.Proofs.YtbbeikdbioelgaaW.PrintWords Go.Proofs.YtbbeikdbioelgaaW.PrintLast Go.Proofs.YtbbeikdbioelgaaW.PrintMore
attribute [local go_sem] max2_int min2_int max_two min_two max_three min_three max_four min_four
attribute [local go_sem ↓] Go.wp_at_zero Go.wp_at_succ
def SomeB (P : Prop) (F : World → Prop) (e : Ending) (w' : World) : Prop := ∃ b : Bool, e = .returned (.bool b) ∧ (b = true → P) ∧ F w'
def capS (l : List ByteArray) : Nat := (l.map fun s => min s.size 5000).sum
theorem capS_cons (s : ByteArray) (l : List ByteArray) : capS (s :: l) = min s.size 5000 + capS l := by simp [capS]
theorem capS_sum (l : List ByteArray) (h : capS l < 5000) : sumS l = capS l := by
  induction l with
  | nil => rfl
  | cons s l ih =>
    rw [capS_cons] at h ⊢
    rw [sumS_cons, ih (by omega)]
    omega
theorem size_le_sumS (l : List ByteArray) : ∀ j, j < l.length → (l.getD j ⟨#[]⟩).size ≤ sumS l := by
  induction l with
  | nil => intro j h; exact absurd h (by simp)
  | cons s l ih =>
    intro j h
    rw [sumS_cons]
    cases j with
    | zero => simp
    | succ j =>
      have := ih j (by simpa using h)
      simp only [List.getD_cons_succ]
      omega
set_option maxHeartbeats 2000000 in
set_option maxRecDepth 100000 in
theorem few4_calls (A : Option Addr) (c : Nat) (l : List ByteArray) (w : World) (hr : Kd.string.C w A l.length l) (hm : ∀ j, j < l.length → (l.getD j ⟨#[]⟩).size ≤ 140737488351232) :
    Calls Try.prog 55 #[.slice A l.length c] w fun e w' => SomeB (l.length < 5000 ∧ sumS l < 5000) (fun w' => w = w') e w' := by
  have HC := Aside0.mk hr
  have HM := Lib.hid hm
  have hM := hr.2.1
  clear hr hm
  obtain ⟨n0, hn0⟩ : ∃ n : Nat, min l.length 5000 = n := ⟨_, rfl⟩
  have hmin : (if (5000 : Int) < (l.length : Int) then 5000 else (l.length : Int)) = (n0 : Int) := by split <;> omega
  have HN0 := Aside0.mk (show min l.length 5000 = n0 from hn0)
  have hn1 : n0 ≤ 5000 := by omega
  clear hn0
  go_enter Try.func55, Try.ntmps55
  go_wp2
  go_loop [3, 4] (fun v t => ∃ (k n : Nat), t = .int .i64 k ∧ v = .int .i64 n ∧ Aside0 (k ≤ l.length) ∧ Aside0 (n ≤ 10000) ∧ Aside0 (n + capS (l.drop k) = n0 + capS l)) (fun _ t => l.length - (intOf t).toNat)
  case atStart => exact ⟨0, n0, rfl, by simp, ⟨Nat.zero_le _⟩, ⟨by omega⟩, ⟨rfl⟩⟩
  case round =>
    obtain ⟨k, n, rfl, rfl, HK, HN, HE⟩ := hrel
    by_cases hk : k < l.length
    · by_cases hn : n < 5000
      · obtain ⟨ad, rfl, hcell⟩ := at_str HC.out k hk
        have he := HE.out
        rw [drop_get ⟨#[]⟩ l k hk, capS_cons] at he
        obtain ⟨s, hs⟩ : ∃ s, l.getD k ⟨#[]⟩ = s := ⟨_, rfl⟩
        rw [hs] at hcell he
        obtain ⟨u, hu⟩ : ∃ u : Nat, min s.size 5000 = u := ⟨_, rfl⟩
        have hmu : (if (5000 : Int) < (s.size : Int) then 5000 else (s.size : Int)) = (u : Int) := by split <;> omega
        rw [hu] at he
        have hul : u ≤ 5000 := by omega
        have HE1 := Aside0.mk (show (n + u) + capS (l.drop (k + 1)) = n0 + capS l by omega)
        have d1 : decide ((k : Int) < (l.length : Int)) = true := decide_eq_true (by omega)
        have d1' : decide (k < l.length) = true := decide_eq_true hk
        have d2 : decide ((n : Int) < 5000) = true := decide_eq_true (by omega)
        have d2' : decide (n < 5000) = true := decide_eq_true hn
        have p1 : (0 : Int) ≤ (k : Int) := by omega
        have p2 : (k : Int) < (l.length : Int) := by omega
        have p3 : (n : Int) + (u : Int) ≤ 10000 := by omega
        clear he hs hu HE hn
        go_wp2
        go_round
        case rel => exact ⟨k + 1, n + u, by go_num, by go_num, ⟨hk⟩, ⟨by omega⟩, HE1⟩
        case measure => simp [intOf]; omega
      · have d1 : decide ((k : Int) < (l.length : Int)) = true := decide_eq_true (by omega)
        have d1' : decide (k < l.length) = true := decide_eq_true hk
        have d2 : decide ((n : Int) < 5000) = false := decide_eq_false (by omega)
        have d2' : decide (n < 5000) = false := decide_eq_false hn
        clear hn
        go_wp2
        go_ret
        exact ⟨false, rfl, fun h => absurd h (by decide), rfl⟩
    · have hk' : k = l.length := by have := HK.out; omega
      have d1 : decide ((k : Int) < (l.length : Int)) = false := decide_eq_false (by omega)
      have d1' : decide (k < l.length) = false := decide_eq_false hk
      have he := HE.out
      rw [hk', List.drop_length] at he
      have HE1 := Aside0.mk he
      clear he hk'
      by_cases hn : n < 5000
      · have d2 : decide ((n : Int) < 5000) = true := decide_eq_true (by omega)
        have d2' : decide (n < 5000) = true := decide_eq_true hn
        have HT := Lib.hid (show l.length < 5000 ∧ sumS l < 5000 by
          have h1 := HE1.out
          have h2 := HN0.out
          have h3 : capS [] = 0 := rfl
          have h4 : capS l < 5000 := by omega
          rw [capS_sum l h4]
          omega)
        clear hn
        go_wp2
        go_ret
        exact ⟨true, rfl, fun _ => HT.out, rfl⟩
      · have d2 : decide ((n : Int) < 5000) = false := decide_eq_false (by omega)
        have d2' : decide (n < 5000) = false := decide_eq_false hn
        clear hn
        go_wp2
        go_ret
        exact ⟨false, rfl, fun h => absurd h (by decide), rfl⟩
structure Few5 (r : Rec) : Prop where
  names : r.f4.length < 5000 ∧ sumS r.f4 < 5000
  texts : r.f6.length < 5000 ∧ sumS r.f6 < 5000
  nums : r.f5.length ≤ 5000
  name : r.f0.size ≤ 5000
def Sized (r : Rec) : Prop := (∀ j, j < r.f4.length → (r.f4.getD j ⟨#[]⟩).size ≤ 140737488351232) ∧ ∀ j, j < r.f6.length → (r.f6.getD j ⟨#[]⟩).size ≤ 140737488351232
set_option maxHeartbeats 2000000 in
set_option maxRecDepth 100000 in
theorem few5_calls (r : Rec) (v : Value) (w : World) (hv : RecAt w v r) (hs : Sized r) :
    Calls Try.prog 30 #[v] w fun e w' => SomeB (Few5 r) (fun w' => Below w.heap.size w w') e w' := by
  obtain ⟨A4, c4, A5, c5, A6, c6, rfl, l4, g4, l5, g5, l6, g6⟩ := hv
  have G4 := Aside0.mk g4
  have G6 := Aside0.mk g6
  have HS := Aside0.mk hs
  have m4 := g4.2.1
  have m5 := g5.2.1
  have m6 := g6.2.1
  clear g4 g5 g6 hs
  by_cases k5 : r.f5.length ≤ 5000
  · by_cases k0 : r.f0.size ≤ 5000
    · have d5 : decide ((r.f5.length : Int) ≤ 5000) = true := decide_eq_true (by omega)
      have d5' : decide (r.f5.length ≤ 5000) = true := decide_eq_true k5
      have d0 : decide ((r.f0.size : Int) ≤ 5000) = true := decide_eq_true (by omega)
      have d0' : decide (r.f0.size ≤ 5000) = true := decide_eq_true k0
      have K := Aside0.mk (And.intro k5 k0)
      clear k5 k0
      go_enter Try.func30, Try.ntmps30
      go_wp2_with (((with_reducible refine gate_dst (N := 1) rfl ?_); refine box_event rfl (N := 1) rfl (cs := #[.string r.f0, .int .u16 r.f1, .int .u16 r.f2, .int .u32 r.f3, .slice A4 r.f4.length c4, .slice A5 r.f5.length c5, .slice A6 r.f6.length c6]) (t := 44) (by first | (go_simp; done) | (go_simp; rfl)) ?_; intro g hg w1 hbox hb); have HX := Aside0.mk hbox; have HB := Aside0.mk hb; have HGe := Aside0.mk hg; clear hb hg; have z0 : w1.cell? ⟨g, 0, none⟩ = some (.string r.f0) := (blk_cell HX.out 0).trans rfl; clear hbox; have z1 : w1.cell? ⟨g, 1, none⟩ = some (.int .u16 r.f1) := (blk_cell HX.out 1).trans rfl; have z2 : w1.cell? ⟨g, 2, none⟩ = some (.int .u16 r.f2) := (blk_cell HX.out 2).trans rfl; have z3 : w1.cell? ⟨g, 3, none⟩ = some (.int .u32 r.f3) := (blk_cell HX.out 3).trans rfl; have z4 : w1.cell? ⟨g, 4, none⟩ = some (.slice A4 r.f4.length c4) := (blk_cell HX.out 4).trans rfl; have z5 : w1.cell? ⟨g, 5, none⟩ = some (.slice A5 r.f5.length c5) := (blk_cell HX.out 5).trans rfl; have z6 : w1.cell? ⟨g, 6, none⟩ = some (.slice A6 r.f6.length c6) := (blk_cell HX.out 6).trans rfl)
      refine (few4_calls A4 c4 r.f4 _ (Kd.C_below G4.out HB.out) HS.out.1).mono ?_
      rintro e w2 ⟨b1, rfl, h1, rfl⟩
      have H1 := Lib.hid h1
      clear h1
      cases b1 with
      | false =>
        go_wp2_with fail
        go_ret
        exact ⟨false, rfl, fun h => absurd h (by decide), HB.out⟩
      | true =>
        go_wp2_with fail
        refine (few4_calls A6 c6 r.f6 _ (Kd.C_below G6.out HB.out) HS.out.2).mono ?_
        rintro e w2 ⟨b2, rfl, h2, rfl⟩
        have H2 := Lib.hid h2
        clear h2
        cases b2 with
        | false =>
          go_wp2_with fail
          go_ret
          exact ⟨false, rfl, fun h => absurd h (by decide), HB.out⟩
        | true =>
          go_wp2_with fail
          go_ret
          exact ⟨true, rfl, (fun _ => ⟨H1.out (by simp), H2.out (by simp), K.out.1, K.out.2⟩), HB.out⟩
    · have d5 : decide ((r.f5.length : Int) ≤ 5000) = true := decide_eq_true (by omega)
      have d5' : decide (r.f5.length ≤ 5000) = true := decide_eq_true k5
      have d0 : decide ((r.f0.size : Int) ≤ 5000) = false := decide_eq_false (by omega)
      have d0' : decide (r.f0.size ≤ 5000) = false := decide_eq_false k0
      clear k5 k0
      go_enter Try.func30, Try.ntmps30
      go_wp2_with (((with_reducible refine gate_dst (N := 1) rfl ?_); refine box_event rfl (N := 1) rfl (cs := #[.string r.f0, .int .u16 r.f1, .int .u16 r.f2, .int .u32 r.f3, .slice A4 r.f4.length c4, .slice A5 r.f5.length c5, .slice A6 r.f6.length c6]) (t := 44) (by first | (go_simp; done) | (go_simp; rfl)) ?_; intro g hg w1 hbox hb); have HX := Aside0.mk hbox; have HB := Aside0.mk hb; have HGe := Aside0.mk hg; clear hb hg; have z0 : w1.cell? ⟨g, 0, none⟩ = some (.string r.f0) := (blk_cell HX.out 0).trans rfl; clear hbox; have z1 : w1.cell? ⟨g, 1, none⟩ = some (.int .u16 r.f1) := (blk_cell HX.out 1).trans rfl; have z2 : w1.cell? ⟨g, 2, none⟩ = some (.int .u16 r.f2) := (blk_cell HX.out 2).trans rfl; have z3 : w1.cell? ⟨g, 3, none⟩ = some (.int .u32 r.f3) := (blk_cell HX.out 3).trans rfl; have z4 : w1.cell? ⟨g, 4, none⟩ = some (.slice A4 r.f4.length c4) := (blk_cell HX.out 4).trans rfl; have z5 : w1.cell? ⟨g, 5, none⟩ = some (.slice A5 r.f5.length c5) := (blk_cell HX.out 5).trans rfl; have z6 : w1.cell? ⟨g, 6, none⟩ = some (.slice A6 r.f6.length c6) := (blk_cell HX.out 6).trans rfl)
      refine (few4_calls A4 c4 r.f4 _ (Kd.C_below G4.out HB.out) HS.out.1).mono ?_
      rintro e w2 ⟨b1, rfl, h1, rfl⟩
      have H1 := Lib.hid h1
      clear h1
      cases b1 with
      | false =>
        go_wp2_with fail
        go_ret
        exact ⟨false, rfl, fun h => absurd h (by decide), HB.out⟩
      | true =>
        go_wp2_with fail
        refine (few4_calls A6 c6 r.f6 _ (Kd.C_below G6.out HB.out) HS.out.2).mono ?_
        rintro e w2 ⟨b2, rfl, h2, rfl⟩
        have H2 := Lib.hid h2
        clear h2
        cases b2 with
        | false =>
          go_wp2_with fail
          go_ret
          exact ⟨false, rfl, fun h => absurd h (by decide), HB.out⟩
        | true =>
          go_wp2_with fail
          go_ret
          exact ⟨false, rfl, (fun h => absurd h (by decide)), HB.out⟩
  · have d5 : decide ((r.f5.length : Int) ≤ 5000) = false := decide_eq_false (by omega)
    have d5' : decide (r.f5.length ≤ 5000) = false := decide_eq_false k5
    clear k5
    go_enter Try.func30, Try.ntmps30
    go_wp2_with (((with_reducible refine gate_dst (N := 1) rfl ?_); refine box_event rfl (N := 1) rfl (cs := #[.string r.f0, .int .u16 r.f1, .int .u16 r.f2, .int .u32 r.f3, .slice A4 r.f4.length c4, .slice A5 r.f5.length c5, .slice A6 r.f6.length c6]) (t := 44) (by first | (go_simp; done) | (go_simp; rfl)) ?_; intro g hg w1 hbox hb); have HX := Aside0.mk hbox; have HB := Aside0.mk hb; have HGe := Aside0.mk hg; clear hb hg; have z0 : w1.cell? ⟨g, 0, none⟩ = some (.string r.f0) := (blk_cell HX.out 0).trans rfl; clear hbox; have z1 : w1.cell? ⟨g, 1, none⟩ = some (.int .u16 r.f1) := (blk_cell HX.out 1).trans rfl; have z2 : w1.cell? ⟨g, 2, none⟩ = some (.int .u16 r.f2) := (blk_cell HX.out 2).trans rfl; have z3 : w1.cell? ⟨g, 3, none⟩ = some (.int .u32 r.f3) := (blk_cell HX.out 3).trans rfl; have z4 : w1.cell? ⟨g, 4, none⟩ = some (.slice A4 r.f4.length c4) := (blk_cell HX.out 4).trans rfl; have z5 : w1.cell? ⟨g, 5, none⟩ = some (.slice A5 r.f5.length c5) := (blk_cell HX.out 5).trans rfl; have z6 : w1.cell? ⟨g, 6, none⟩ = some (.slice A6 r.f6.length c6) := (blk_cell HX.out 6).trans rfl)
    refine (few4_calls A4 c4 r.f4 _ (Kd.C_below G4.out HB.out) HS.out.1).mono ?_
    rintro e w2 ⟨b1, rfl, h1, rfl⟩
    have H1 := Lib.hid h1
    clear h1
    cases b1 with
    | false =>
      go_wp2_with fail
      go_ret
      exact ⟨false, rfl, fun h => absurd h (by decide), HB.out⟩
    | true =>
      go_wp2_with fail
      refine (few4_calls A6 c6 r.f6 _ (Kd.C_below G6.out HB.out) HS.out.2).mono ?_
      rintro e w2 ⟨b2, rfl, h2, rfl⟩
      have H2 := Lib.hid h2
      clear h2
      cases b2 with
      | false =>
        go_wp2_with fail
        go_ret
        exact ⟨false, rfl, fun h => absurd h (by decide), HB.out⟩
      | true =>
        go_wp2_with fail
        go_ret
        exact ⟨false, rfl, (fun h => absurd h (by decide)), HB.out⟩
structure Few7 (m : Msg) : Prop where
  nq : m.qs.length ≤ 300
  n1 : m.ans.length ≤ 300
  n2 : m.auth.length ≤ 300
  n3 : m.add.length ≤ 300
  recs : ∀ r, r ∈ m.ans ++ m.auth ++ m.add → Few5 r
structure SizedM (m : Msg) : Prop where
  qs : ∀ q, q ∈ m.qs → q.f0.size ≤ 140737488351232
  recs : ∀ r, r ∈ m.ans ++ m.auth ++ m.add → Sized r
set_option maxHeartbeats 8000000 in
set_option maxRecDepth 100000 in
theorem few7_calls (m : Msg) (v : Value) (w : World) (hv : MsgAt w v m) (hs : SizedM m) :
    Calls Try.prog 14 #[v] w fun e w' => SomeB (Few7 m) (fun w' => Below w.heap.size w w') e w' := by
  have HV := Aside0.mk hv
  obtain ⟨A2, c2, A3, c3, A4, c4, A5, c5, rfl, l2, g2, l3, g3, l4, g4, l5, g5⟩ := hv
  have G2 := Aside0.mk g2
  have HS := Aside0.mk hs
  clear g2 g3 g4 g5 hs
  by_cases k2 : m.qs.length ≤ 300
  case neg =>
    have d2 : decide ((300 : Int) < (m.qs.length : Int)) = true := decide_eq_true (by omega)
    have d2' : decide (300 < m.qs.length) = true := decide_eq_true (by omega)
    clear k2
    go_enter Try.func14, Try.ntmps14
    go_wp2_with (((with_reducible refine gate_dst (N := 1) rfl ?_); refine box_event rfl (N := 1) rfl (cs := #[.int .u16 m.id, .int .u16 m.flags, .slice A2 m.qs.length c2, .slice A3 m.ans.length c3, .slice A4 m.auth.length c4, .slice A5 m.add.length c5]) (t := 26) (by first | (go_simp; done) | (go_simp; rfl)) ?_; intro g hg w1 hbox hb); have HX := Aside0.mk hbox; have HB := Aside0.mk hb; have HGe := Aside0.mk hg; clear hb hg; have z0 : w1.cell? ⟨g, 0, none⟩ = some (.int .u16 m.id) := (blk_cell HX.out 0).trans rfl; have z1 : w1.cell? ⟨g, 1, none⟩ = some (.int .u16 m.flags) := (blk_cell HX.out 1).trans rfl; have z2 : w1.cell? ⟨g, 2, none⟩ = some (.slice A2 m.qs.length c2) := (blk_cell HX.out 2).trans rfl; have z3 : w1.cell? ⟨g, 3, none⟩ = some (.slice A3 m.ans.length c3) := (blk_cell HX.out 3).trans rfl; have z4 : w1.cell? ⟨g, 4, none⟩ = some (.slice A4 m.auth.length c4) := (blk_cell HX.out 4).trans rfl; have z5 : w1.cell? ⟨g, 5, none⟩ = some (.slice A5 m.add.length c5) := (blk_cell HX.out 5).trans rfl; have hlt : g < w1.heap.size := blk_lt hbox; have hlne : ¬ g = w1.heap.size := Nat.ne_of_lt hlt; clear hbox)
    go_ret
    exact ⟨false, rfl, fun h => absurd h (by decide), HB.out⟩
  have d2 : decide ((300 : Int) < (m.qs.length : Int)) = false := decide_eq_false (by omega)
  have d2' : decide (300 < m.qs.length) = false := decide_eq_false (by omega)
  by_cases k3 : m.ans.length ≤ 300
  case neg =>
    have d3 : decide ((300 : Int) < (m.ans.length : Int)) = true := decide_eq_true (by omega)
    have d3' : decide (300 < m.ans.length) = true := decide_eq_true (by omega)
    clear k3
    go_enter Try.func14, Try.ntmps14
    go_wp2_with (((with_reducible refine gate_dst (N := 1) rfl ?_); refine box_event rfl (N := 1) rfl (cs := #[.int .u16 m.id, .int .u16 m.flags, .slice A2 m.qs.length c2, .slice A3 m.ans.length c3, .slice A4 m.auth.length c4, .slice A5 m.add.length c5]) (t := 26) (by first | (go_simp; done) | (go_simp; rfl)) ?_; intro g hg w1 hbox hb); have HX := Aside0.mk hbox; have HB := Aside0.mk hb; have HGe := Aside0.mk hg; clear hb hg; have z0 : w1.cell? ⟨g, 0, none⟩ = some (.int .u16 m.id) := (blk_cell HX.out 0).trans rfl; have z1 : w1.cell? ⟨g, 1, none⟩ = some (.int .u16 m.flags) := (blk_cell HX.out 1).trans rfl; have z2 : w1.cell? ⟨g, 2, none⟩ = some (.slice A2 m.qs.length c2) := (blk_cell HX.out 2).trans rfl; have z3 : w1.cell? ⟨g, 3, none⟩ = some (.slice A3 m.ans.length c3) := (blk_cell HX.out 3).trans rfl; have z4 : w1.cell? ⟨g, 4, none⟩ = some (.slice A4 m.auth.length c4) := (blk_cell HX.out 4).trans rfl; have z5 : w1.cell? ⟨g, 5, none⟩ = some (.slice A5 m.add.length c5) := (blk_cell HX.out 5).trans rfl; have hlt : g < w1.heap.size := blk_lt hbox; have hlne : ¬ g = w1.heap.size := Nat.ne_of_lt hlt; clear hbox)
    go_ret
    exact ⟨false, rfl, fun h => absurd h (by decide), HB.out⟩
  have d3 : decide ((300 : Int) < (m.ans.length : Int)) = false := decide_eq_false (by omega)
  have d3' : decide (300 < m.ans.length) = false := decide_eq_false (by omega)
  by_cases k4 : m.auth.length ≤ 300
  case neg =>
    have d4 : decide ((300 : Int) < (m.auth.length : Int)) = true := decide_eq_true (by omega)
    have d4' : decide (300 < m.auth.length) = true := decide_eq_true (by omega)
    clear k4
    go_enter Try.func14, Try.ntmps14
    go_wp2_with (((with_reducible refine gate_dst (N := 1) rfl ?_); refine box_event rfl (N := 1) rfl (cs := #[.int .u16 m.id, .int .u16 m.flags, .slice A2 m.qs.length c2, .slice A3 m.ans.length c3, .slice A4 m.auth.length c4, .slice A5 m.add.length c5]) (t := 26) (by first | (go_simp; done) | (go_simp; rfl)) ?_; intro g hg w1 hbox hb); have HX := Aside0.mk hbox; have HB := Aside0.mk hb; have HGe := Aside0.mk hg; clear hb hg; have z0 : w1.cell? ⟨g, 0, none⟩ = some (.int .u16 m.id) := (blk_cell HX.out 0).trans rfl; have z1 : w1.cell? ⟨g, 1, none⟩ = some (.int .u16 m.flags) := (blk_cell HX.out 1).trans rfl; have z2 : w1.cell? ⟨g, 2, none⟩ = some (.slice A2 m.qs.length c2) := (blk_cell HX.out 2).trans rfl; have z3 : w1.cell? ⟨g, 3, none⟩ = some (.slice A3 m.ans.length c3) := (blk_cell HX.out 3).trans rfl; have z4 : w1.cell? ⟨g, 4, none⟩ = some (.slice A4 m.auth.length c4) := (blk_cell HX.out 4).trans rfl; have z5 : w1.cell? ⟨g, 5, none⟩ = some (.slice A5 m.add.length c5) := (blk_cell HX.out 5).trans rfl; have hlt : g < w1.heap.size := blk_lt hbox; have hlne : ¬ g = w1.heap.size := Nat.ne_of_lt hlt; clear hbox)
    go_ret
    exact ⟨false, rfl, fun h => absurd h (by decide), HB.out⟩
  have d4 : decide ((300 : Int) < (m.auth.length : Int)) = false := decide_eq_false (by omega)
  have d4' : decide (300 < m.auth.length) = false := decide_eq_false (by omega)
  by_cases k5 : m.add.length ≤ 300
  case neg =>
    have d5 : decide ((300 : Int) < (m.add.length : Int)) = true := decide_eq_true (by omega)
    have d5' : decide (300 < m.add.length) = true := decide_eq_true (by omega)
    clear k5
    go_enter Try.func14, Try.ntmps14
    go_wp2_with (((with_reducible refine gate_dst (N := 1) rfl ?_); refine box_event rfl (N := 1) rfl (cs := #[.int .u16 m.id, .int .u16 m.flags, .slice A2 m.qs.length c2, .slice A3 m.ans.length c3, .slice A4 m.auth.length c4, .slice A5 m.add.length c5]) (t := 26) (by first | (go_simp; done) | (go_simp; rfl)) ?_; intro g hg w1 hbox hb); have HX := Aside0.mk hbox; have HB := Aside0.mk hb; have HGe := Aside0.mk hg; clear hb hg; have z0 : w1.cell? ⟨g, 0, none⟩ = some (.int .u16 m.id) := (blk_cell HX.out 0).trans rfl; have z1 : w1.cell? ⟨g, 1, none⟩ = some (.int .u16 m.flags) := (blk_cell HX.out 1).trans rfl; have z2 : w1.cell? ⟨g, 2, none⟩ = some (.slice A2 m.qs.length c2) := (blk_cell HX.out 2).trans rfl; have z3 : w1.cell? ⟨g, 3, none⟩ = some (.slice A3 m.ans.length c3) := (blk_cell HX.out 3).trans rfl; have z4 : w1.cell? ⟨g, 4, none⟩ = some (.slice A4 m.auth.length c4) := (blk_cell HX.out 4).trans rfl; have z5 : w1.cell? ⟨g, 5, none⟩ = some (.slice A5 m.add.length c5) := (blk_cell HX.out 5).trans rfl; have hlt : g < w1.heap.size := blk_lt hbox; have hlne : ¬ g = w1.heap.size := Nat.ne_of_lt hlt; clear hbox)
    go_ret
    exact ⟨false, rfl, fun h => absurd h (by decide), HB.out⟩
  have d5 : decide ((300 : Int) < (m.add.length : Int)) = false := decide_eq_false (by omega)
  have d5' : decide (300 < m.add.length) = false := decide_eq_false (by omega)
  have HK := Aside0.mk (And.intro k2 (And.intro k3 (And.intro k4 k5)))
  clear k2 k3 k4 k5
  go_enter Try.func14, Try.ntmps14
  go_wp2_with (((with_reducible refine gate_dst (N := 1) rfl ?_); refine box_event rfl (N := 1) rfl (cs := #[.int .u16 m.id, .int .u16 m.flags, .slice A2 m.qs.length c2, .slice A3 m.ans.length c3, .slice A4 m.auth.length c4, .slice A5 m.add.length c5]) (t := 26) (by first | (go_simp; done) | (go_simp; rfl)) ?_; intro g hg w1 hbox hb); have HX := Aside0.mk hbox; have HB := Aside0.mk hb; have HGe := Aside0.mk hg; clear hb hg; have z0 : w1.cell? ⟨g, 0, none⟩ = some (.int .u16 m.id) := (blk_cell HX.out 0).trans rfl; have z1 : w1.cell? ⟨g, 1, none⟩ = some (.int .u16 m.flags) := (blk_cell HX.out 1).trans rfl; have z2 : w1.cell? ⟨g, 2, none⟩ = some (.slice A2 m.qs.length c2) := (blk_cell HX.out 2).trans rfl; have z3 : w1.cell? ⟨g, 3, none⟩ = some (.slice A3 m.ans.length c3) := (blk_cell HX.out 3).trans rfl; have z4 : w1.cell? ⟨g, 4, none⟩ = some (.slice A4 m.auth.length c4) := (blk_cell HX.out 4).trans rfl; have z5 : w1.cell? ⟨g, 5, none⟩ = some (.slice A5 m.add.length c5) := (blk_cell HX.out 5).trans rfl; have hlt : g < w1.heap.size := blk_lt hbox; have hlne : ¬ g = w1.heap.size := Nat.ne_of_lt hlt; clear hbox)
  have HG := Aside0.mk (show w1.heap[g]? = w1.heap[g]? from rfl)
  go_loop [3, 4] (fun v t => ∃ (k n : Nat), t = .int .i64 k ∧ v = .int .i64 n ∧ Aside0 (k ≤ m.qs.length) ∧ Aside0 (n ≤ 70000)) (fun _ t => m.qs.length - (intOf t).toNat)
  case atStart => exact ⟨0, 0, rfl, rfl, ⟨Nat.zero_le _⟩, ⟨by decide⟩⟩
  case round =>
    obtain ⟨k, n, rfl, rfl, HKk, HN⟩ := hrel
    have hn := HN.out
    have hkk := HK.out.1
    by_cases hk : k < m.qs.length
    · obtain ⟨ad, qq, hA, hqq, e0, e1, e2⟩ := at_ques (Kd.C_below G2.out HB.out) k hk
      subst hA
      have p1 : (0 : Int) ≤ (k : Int) := by omega
      have p2 : (k : Int) < (m.qs.length : Int) := by omega
      obtain ⟨u, hu⟩ : ∃ u : Nat, min qq.f0.size 60000 = u := ⟨_, rfl⟩
      have hmu : (if (60000 : Int) < (qq.f0.size : Int) then 60000 else (qq.f0.size : Int)) = (u : Int) := by split <;> omega
      have hul : u ≤ 60000 := by omega
      have p3 : (n : Int) + (u : Int) ≤ 130000 := by omega
      clear hu hqq
      by_cases hbig : 70000 < n + u
      · have d6 : decide ((70000 : Int) < (n : Int) + (u : Int)) = true := decide_eq_true (by omega)
        clear hbig
        go_wp2
        go_ret
        exact ⟨false, rfl, fun h => absurd h (by decide), HB.out⟩
      · have d6 : decide ((70000 : Int) < (n : Int) + (u : Int)) = false := decide_eq_false (by omega)
        have hn' : n + u ≤ 70000 := by omega
        clear hbig
        go_wp2
        go_round
        case rel => exact ⟨k + 1, n + u, by go_num, by go_num, ⟨hk⟩, ⟨hn'⟩⟩
        case measure => simp [intOf]; omega
    · go_wp2_with fail
      refine (Records_calls m _ _ (HV.out.below HB.out) (by have := HK.out; omega) (by have := HK.out; omega) (by have := HK.out; omega)).mono ?_
      rintro e w2 ⟨A, c, rfl, hlc, hrc, hb⟩
      have HRc := Aside0.mk hrc
      have HB2 := Aside0.mk (below_step HB.out hb)
      have hln : (m.ans ++ m.auth ++ m.add).length ≤ 900 := by have := HK.out; simp; omega
      obtain ⟨L, hL⟩ : ∃ L, m.ans ++ m.auth ++ m.add = L := ⟨_, rfl⟩
      rw [hL] at hlc HRc hln ⊢
      have HL := Aside0.mk hL
      have HN2 := Aside0.mk (show n ≤ 70000 from hn)
      clear hrc hb z0 z1 z2 z3 z4 z5 hL hn hkk HN HKk HB hk
      go_wp2_with fail
      go_loopw [3, 6] (fun v t wr => ∃ (i n : Nat), t = .int .i64 i ∧ v = .int .i64 n ∧ Aside0 (i ≤ L.length) ∧ Aside0 (n ≤ 70000) ∧ Aside0 (∀ j, j < i → Few5 (L.getD j zRec)) ∧ Aside0 (Below w.heap.size w wr) ∧ Aside0 (Below w2.heap.size w2 wr)) (fun _ t _ => L.length - (intOf t).toNat)
      case atStart => exact ⟨0, n, rfl, rfl, ⟨Nat.zero_le _⟩, HN2, ⟨fun j h => absurd h (by omega)⟩, HB2, ⟨Below.refl _ _⟩⟩
      case round =>
        clear HN2 HB2
        obtain ⟨i, n, rfl, rfl, HI, HN, HF, HB, HBo⟩ := hrel
        have hn := HN.out
        by_cases hi : i < L.length
        · obtain ⟨ad, A4', c4', A5', c5', A6, c6, r, hA, hr, e0, e1, e2, e3, e4, e5, e6, hrec⟩ := at_rec (Kd.C_below HRc.out HBo.out) i hi
          subst hA
          have p1 : (0 : Int) ≤ (i : Int) := by omega
          have p2 : (i : Int) < (L.length : Int) := by omega
          have HSz := Aside0.mk (show Sized r by rw [← hr]; exact HS.out.recs _ (by rw [HL.out]; exact getD_mem zRec hi))
          have HRec := Aside0.mk hrec
          have HR := Aside0.mk hr
          clear hrec hr
          go_wp2_with fail
          refine (few5_calls r _ _ HRec.out HSz.out).mono ?_
          rintro e w6 ⟨b, rfl, h5, hb6⟩
          have H5 := Lib.hid h5
          have HB6 := Aside0.mk (below_step HB.out hb6)
          have HBo6 := Aside0.mk (below_step HBo.out hb6)
          clear h5 hb6 e0 e1 e2 e3 e4 e5 e6 HRec
          cases b with
          | false =>
            go_wp2_with fail
            go_ret
            exact ⟨false, rfl, fun h => absurd h (by decide), HB6.out⟩
          | true =>
            have HFr := Aside0.mk (H5.out rfl)
            obtain ⟨ad', A4', c4', A5', c5', A6', c6', r', hA, hr', e0, e1, e2, e3, e4, e5, e6, hrec⟩ := at_rec (Kd.C_below HRc.out HBo6.out) i hi
            obtain rfl : r = r' := HR.out.symm.trans hr'
            obtain rfl := Option.some.inj hA
            have HRec := Aside0.mk hrec
            obtain ⟨B4, b4, B5, b5, B6, b6, hagg, l4, g4, l5, g5, l6, g6⟩ := hrec
            simp only [Value.agg.injEq, Array.mk.injEq, List.cons.injEq, Value.slice.injEq, true_and, and_true] at hagg
            obtain ⟨⟨rfl, rfl⟩, ⟨rfl, rfl⟩, rfl, rfl⟩ := hagg
            have G4 := Aside0.mk g4
            have G6 := Aside0.mk g6
            have q4 := HFr.out.names
            have q6 := HFr.out.texts
            have q5 := HFr.out.nums
            have q0 := HFr.out.name
            have HQ4 := Aside0.mk q4
            have HQ6 := Aside0.mk q6
            clear hr' g4 g5 g6 H5 q4 q6
            go_wp2_with fail
            have HNa := Aside0.mk (show n ≤ 70000 from hn)
            go_loop [3, 7] (fun v t => ∃ (j n : Nat), t = .int .i64 j ∧ v = .int .i64 n ∧ Aside0 (j ≤ r.f4.length) ∧ Aside0 (n ≤ 70000 + j * 5000)) (fun _ t => r.f4.length - (intOf t).toNat)
            case atStart => exact ⟨0, n, rfl, rfl, ⟨Nat.zero_le _⟩, HNa⟩
            case round =>
              clear HNa hn HN
              obtain ⟨j, n, rfl, rfl, HJ, HN⟩ := hrel
              have hn := HN.out
              have hj' := HJ.out
              by_cases hj : j < r.f4.length
              · obtain ⟨ae, rfl, hcell⟩ := at_str G4.out j hj
                have hz := size_le_sumS r.f4 j hj
                have hq := HQ4.out
                obtain ⟨s, hs⟩ : ∃ s, r.f4.getD j ⟨#[]⟩ = s := ⟨_, rfl⟩
                rw [hs] at hcell hz
                have d1 : decide ((j : Int) < (r.f4.length : Int)) = true := decide_eq_true (by omega)
                have d1' : decide (j < r.f4.length) = true := decide_eq_true hj
                have p3 : (0 : Int) ≤ (j : Int) := by omega
                have p4 : (j : Int) < (r.f4.length : Int) := by omega
                have p6 : (j : Int) + 1 ≤ 9223372036854775807 := by omega
                have p5 : (n : Int) + (s.size : Int) ≤ 9223372036854775807 := by omega
                have HN1 := Aside0.mk (show n + s.size ≤ 70000 + (j + 1) * 5000 by omega)
                clear hz hq hs hn HN hj'
                go_wp2
                go_round
                case rel => exact ⟨j + 1, n + s.size, by go_num, by go_num, ⟨hj⟩, HN1⟩
                case measure => simp [intOf]; omega
              · have d1 : decide ((j : Int) < (r.f4.length : Int)) = false := decide_eq_false (by omega)
                have d1' : decide (j < r.f4.length) = false := decide_eq_false hj
                have hn2 : n ≤ 30000000 := by have := HQ4.out; omega
                clear hn HN hj hj' HJ
                go_wp2_with fail
                have HNb := Aside0.mk (show n ≤ 30000000 from hn2)
                go_loop [3, 8] (fun v t => ∃ (j n : Nat), t = .int .i64 j ∧ v = .int .i64 n ∧ Aside0 (j ≤ r.f6.length) ∧ Aside0 (n ≤ 30000000 + j * 5000)) (fun _ t => r.f6.length - (intOf t).toNat)
                case atStart => exact ⟨0, n, rfl, rfl, ⟨Nat.zero_le _⟩, HNb⟩
                case round =>
                  clear HNb hn2
                  obtain ⟨j, n, rfl, rfl, HJ, HN⟩ := hrel
                  have hn := HN.out
                  have hj' := HJ.out
                  by_cases hj : j < r.f6.length
                  · obtain ⟨ae, rfl, hcell⟩ := at_str G6.out j hj
                    have hz := size_le_sumS r.f6 j hj
                    have hq := HQ6.out
                    obtain ⟨s, hs⟩ : ∃ s, r.f6.getD j ⟨#[]⟩ = s := ⟨_, rfl⟩
                    rw [hs] at hcell hz
                    have d1 : decide ((j : Int) < (r.f6.length : Int)) = true := decide_eq_true (by omega)
                    have d1' : decide (j < r.f6.length) = true := decide_eq_true hj
                    have p3 : (0 : Int) ≤ (j : Int) := by omega
                    have p4 : (j : Int) < (r.f6.length : Int) := by omega
                    have p6 : (j : Int) + 1 ≤ 9223372036854775807 := by omega
                    have p5 : (n : Int) + (s.size : Int) ≤ 9223372036854775807 := by omega
                    have HN1 := Aside0.mk (show n + s.size ≤ 30000000 + (j + 1) * 5000 by omega)
                    clear hz hq hs hn HN hj'
                    go_wp2
                    go_round
                    case rel => exact ⟨j + 1, n + s.size, by go_num, by go_num, ⟨hj⟩, HN1⟩
                    case measure => simp [intOf]; omega
                  · have d1 : decide ((j : Int) < (r.f6.length : Int)) = false := decide_eq_false (by omega)
                    have d1' : decide (j < r.f6.length) = false := decide_eq_false hj
                    have hn2 : n ≤ 60000000 := by have := HQ6.out; omega
                    clear hn HN hj hj' HJ
                    go_wp2_with fail
                    refine start_ (n := 16) (S := fun w' => w'.cell? (ad.add (i * 7)) = some (.string r.f0) ∧ w'.cell? ⟨(ad.add (i * 7)).block, (ad.add (i * 7)).off + 5, none⟩ = some (.slice A5' r.f5.length c5')) (ds := []) (Array.replicate 16 false) (by kernel_rfl) (by kernel_rfl) rfl ⟨e0, e5⟩ (fun hS => ?_)
                    refine dpure 0 (some 106) rfl rfl (by kernel_rfl) (fun _ _ _ h => h) (by rfl) (v := ?_) (a' := ?_) ?_ ?_ ?_
                    rotate_left 2
                    · intro w'; go_simp; with_reducible rfl
                    · simp only [Act.put, List.setIfInBounds_toArray, List.set_cons_zero, List.set_cons_succ]; rfl
                    refine dpure 1 (some 107) rfl rfl (by kernel_rfl) (fun _ _ _ h => h) (by rfl) (v := ?_) (a' := ?_) ?_ ?_ ?_
                    rotate_left 2
                    · intro w'; go_simp; with_reducible rfl
                    · simp only [Act.put, List.setIfInBounds_toArray, List.set_cons_zero, List.set_cons_succ]; rfl
                    refine dpure 2 (some 108) rfl rfl (by kernel_rfl) (fun _ _ _ h => h) (by rfl) (v := ?_) (a' := ?_) ?_ ?_ ?_
                    rotate_left 2
                    · intro w'; go_simp; with_reducible rfl
                    · simp only [Act.put, List.setIfInBounds_toArray, List.set_cons_zero, List.set_cons_succ]; rfl
                    refine dpure 3 (some 109) rfl rfl (by kernel_rfl) (fun _ _ _ h => h) (by rfl) (v := ?_) (a' := ?_) ?_ ?_ ?_
                    rotate_left 2
                    · intro w'; go_simp; with_reducible rfl
                    · simp only [Act.put, List.setIfInBounds_toArray, List.set_cons_zero, List.set_cons_succ]; rfl
                    refine dpure 4 (some 110) rfl rfl (by kernel_rfl) (fun _ _ _ h => h) (by rfl) (v := ?_) (a' := ?_) ?_ ?_ ?_
                    rotate_left 2
                    · intro w'; go_simp; with_reducible rfl
                    · simp only [Act.put, List.setIfInBounds_toArray, List.set_cons_zero, List.set_cons_succ]; rfl
                    refine dtake 5 (some 111) rfl rfl (by kernel_rfl) (fun _ _ _ h => h) (by rfl) hS (v := ?_) (a' := ?_) ?_ ?_ ?_
                    rotate_left 2
                    · rintro w' ⟨s0,s1⟩; go_simp; with_reducible rfl
                    · simp only [Act.put, List.setIfInBounds_toArray, List.set_cons_zero, List.set_cons_succ]; rfl
                    refine dpure 6 (some 112) rfl rfl (by kernel_rfl) (fun _ _ _ h => h) (by rfl) (v := ?_) (a' := ?_) ?_ ?_ ?_
                    rotate_left 2
                    · intro w'; go_simp; with_reducible rfl
                    · simp only [Act.put, List.setIfInBounds_toArray, List.set_cons_zero, List.set_cons_succ]; rfl
                    refine dpure 7 (some 113) rfl rfl (by kernel_rfl) (fun _ _ _ h => h) (by rfl) (v := ?_) (a' := ?_) ?_ ?_ ?_
                    rotate_left 2
                    · intro w'; go_simp; with_reducible rfl
                    · simp only [Act.put, List.setIfInBounds_toArray, List.set_cons_zero, List.set_cons_succ]; rfl
                    refine dpure 8 (some 114) rfl rfl (by kernel_rfl) (fun _ _ _ h => h) (by rfl) (v := ?_) (a' := ?_) ?_ ?_ ?_
                    rotate_left 2
                    · intro w'; go_simp; with_reducible rfl
                    · simp only [Act.put, List.setIfInBounds_toArray, List.set_cons_zero, List.set_cons_succ]; rfl
                    refine dpure 9 (some 115) rfl rfl (by kernel_rfl) (fun _ _ _ h => h) (by rfl) (v := ?_) (a' := ?_) ?_ ?_ ?_
                    rotate_left 2
                    · intro w'; go_simp; with_reducible rfl
                    · simp only [Act.put, List.setIfInBounds_toArray, List.set_cons_zero, List.set_cons_succ]; rfl
                    refine dpure 10 (some 116) rfl rfl (by kernel_rfl) (fun _ _ _ h => h) (by rfl) (v := ?_) (a' := ?_) ?_ ?_ ?_
                    rotate_left 2
                    · intro w'; go_simp; with_reducible rfl
                    · simp only [Act.put, List.setIfInBounds_toArray, List.set_cons_zero, List.set_cons_succ]; rfl
                    refine dpure 11 (some 117) rfl rfl (by kernel_rfl) (fun _ _ _ h => h) (by rfl) (v := ?_) (a' := ?_) ?_ ?_ ?_
                    rotate_left 2
                    · intro w'; go_simp; with_reducible rfl
                    · simp only [Act.put, List.setIfInBounds_toArray, List.set_cons_zero, List.set_cons_succ]; rfl
                    refine dtake 12 (some 118) rfl rfl (by kernel_rfl) (fun _ _ _ h => h) (by rfl) hS (v := ?_) (a' := ?_) ?_ ?_ ?_
                    rotate_left 2
                    · rintro w' ⟨s0,s1⟩; go_simp; with_reducible rfl
                    · simp only [Act.put, List.setIfInBounds_toArray, List.set_cons_zero, List.set_cons_succ]; rfl
                    refine dpure 13 (some 119) rfl rfl (by kernel_rfl) (fun _ _ _ h => h) (by rfl) (v := ?_) (a' := ?_) ?_ ?_ ?_
                    rotate_left 2
                    · intro w'; go_simp; with_reducible rfl
                    · simp only [Act.put, List.setIfInBounds_toArray, List.set_cons_zero, List.set_cons_succ]; rfl
                    refine dpure 14 (some 120) rfl rfl (by kernel_rfl) (fun _ _ _ h => h) (by rfl) (v := ?_) (a' := ?_) ?_ ?_ ?_
                    rotate_left 2
                    · intro w'; go_simp; with_reducible rfl
                    · simp only [Act.put, List.setIfInBounds_toArray, List.set_cons_zero, List.set_cons_succ]; rfl
                    refine dpure 15 (some 3) rfl rfl (by kernel_rfl) (fun _ _ _ h => h) (by rfl) (v := ?_) (a' := ?_) ?_ ?_ ?_
                    rotate_left 2
                    · intro w'; go_simp; with_reducible rfl
                    · simp only [Act.put, List.setIfInBounds_toArray, List.set_cons_zero, List.set_cons_succ]; rfl
                    refine done_ (by kernel_rfl) ?_
                    have HF1 := Aside0.mk (show ∀ j, j < i + 1 → Few5 (L.getD j zRec) by
                      intro j hj
                      rcases Nat.lt_or_ge j i with h | h
                      · exact HF.out j h
                      · obtain rfl : j = i := by omega
                        rw [HR.out]; exact HFr.out)
                    have hk : ∀ n : Int, 0 ≤ n → n < 2 ^ 60 → IntKind.i64.wrap n = n := by
                      intro n h0 h1
                      rw [IntKind.wrap_i64]
                      omega
                    obtain ⟨n3, hn3⟩ : ∃ n3, n + r.f0.size + r.f5.length = n3 := ⟨_, rfl⟩
                    have hw : IntKind.i64.wrap (IntKind.i64.wrap ((n : Int) + (r.f0.size : Int)) + (r.f5.length : Int)) = (n3 : Int) := by
                      rw [hk ((n : Int) + (r.f0.size : Int)) (by omega) (by omega), hk _ (by omega) (by omega)]
                      omega
                    rw [hw]
                    have HBd := Aside0.mk (below_drew HB6.out)
                    have HBod := Aside0.mk (below_drew HBo6.out)
                    clear hw hk hn3 hn2 q5 q0
                    by_cases hbig : 70000 < n3
                    · have d6 : decide ((70000 : Int) < (n3 : Int)) = true := decide_eq_true (by omega)
                      have d6' : decide (70000 < n3) = true := decide_eq_true (by omega)
                      clear hbig
                      go_wp2_with fail
                      go_ret
                      exact ⟨false, rfl, fun h => absurd h (by decide), HBd.out⟩
                    · have d6 : decide ((70000 : Int) < (n3 : Int)) = false := decide_eq_false (by omega)
                      have d6' : decide (70000 < n3) = false := decide_eq_false (by omega)
                      have HN3 := Aside0.mk (show n3 ≤ 70000 by omega)
                      clear hbig
                      go_wp2_with fail
                      go_roundw
                      case rel => exact ⟨i + 1, n3, by go_num, rfl, ⟨hi⟩, HN3, HF1, HBd, HBod⟩
                      case measure => simp [intOf]; omega
        · have hi' : i = L.length := by have := HI.out; omega
          have HT := Aside0.mk (show Few7 m from ⟨HK.out.1, HK.out.2.1, HK.out.2.2.1, HK.out.2.2.2, fun r hr => by
            rw [HL.out] at hr
            obtain ⟨j, hj, rfl⟩ := List.getElem_of_mem hr
            have := HF.out j (by omega)
            rwa [List.getD_eq_getElem?_getD, List.getElem?_eq_getElem hj] at this⟩)
          clear hi'
          go_wp2_with fail
          go_ret
          exact ⟨true, rfl, fun _ => HT.out, HB.out⟩
end Go.Proofs.Ytbbeikdbioelgaa.M
set_option linter.unusedVariables false
set_option linter.unusedSimpArgs false
namespace Go.Proofs.Ytbbeikdbioelgaa.M
open Go.RowKit Go.Maps Go.Proofs.YtbbeikdbioelgaaW.PrintWords Go.Proofs.YtbbeikdbioelgaaW.PrintLast Go.Proofs.YtbbeikdbioelgaaW.PrintMore
abbrev MM := List UInt8 → Option Int
def nameB : Nat → MM → ByteArray → List Int
  | 0, _, _ => []
  | k + 1, m, s => if s.size ≤ 1 then [0] else
    match m s.data.toList with
    | some a => putL (a + 49152) 2
    | none => bytesOf (s.extract 0 (nb s 0 + 1)) ++ nameB k m (s.extract (nb s 0 + 1) s.size)
theorem rest_lt (s : ByteArray) (h : ¬ s.size ≤ 1) : (s.extract (nb s 0 + 1) s.size).size < s.size := by
  rw [ByteArray.size_extract]
  omega
theorem updS_far {m : MM} {l : List UInt8} {v : Int} {s : ByteArray} (h : s.size < l.length) : updS m l v s.data.toList = m s.data.toList := by
  unfold updS
  rw [if_neg]
  intro e
  have := congrArg List.length e
  rw [data_length] at this
  omega
theorem nameB_upd (f : Nat) (m : MM) (l : List UInt8) (v : Int) (s : ByteArray) (h : s.size < l.length) : nameB f (updS m l v) s = nameB f m s := by
  induction f generalizing s with
  | zero => rfl
  | succ f ih =>
    unfold nameB
    by_cases h1 : s.size ≤ 1
    · rw [if_pos h1, if_pos h1]
    · rw [if_neg h1, if_neg h1, updS_far h]
      have := rest_lt s h1
      rw [ih _ (by omega)]
theorem nameF_out (f : Nat) (out : List Int) (m : MM) (s : ByteArray) : (nameF f out m s).1 = out ++ nameB f m s := by
  induction f generalizing out m s with
  | zero => simp [nameF, nameB]
  | succ f ih =>
    unfold nameF nameB
    by_cases h1 : s.size ≤ 1
    · rw [if_pos h1, if_pos h1]
    · rw [if_neg h1, if_neg h1]
      cases hm : m s.data.toList with
      | some a => rfl
      | none =>
        show (nameF f (out ++ _) _ _).1 = _
        rw [ih, List.append_assoc]
        congr 2
        by_cases h2 : out.length < 16384
        · rw [if_pos h2]
          exact nameB_upd f m _ _ _ (by rw [data_length]; exact rest_lt s h1)
        · rw [if_neg h2]
structure Good (m : MM) (n : Nat) : Prop where
  inj : ∀ l l' v, m l = some v → m l' = some v → l = l'
  lt : ∀ l v, m l = some v → 0 ≤ v ∧ v < n
  near : Near m
theorem Good.more {m : MM} {n n' : Nat} (h : Good m n) (hn : n ≤ n') : Good m n' := ⟨h.inj, fun l v e => ⟨(h.lt l v e).1, by have := (h.lt l v e).2; omega⟩, h.near⟩
theorem bytesOf_take (s : ByteArray) (k : Nat) : bytesOf (s.extract 0 k) = (bytesOf s).take k := by
  simp [bytesOf, List.map_take, List.extract_eq_take_drop]
theorem bytesOf_drop (s : ByteArray) (k : Nat) : bytesOf (s.extract k s.size) = (bytesOf s).drop k := by
  have h : (bytesOf s).length = s.size := bytesOf_length s
  simp only [bytesOf] at h ⊢
  simp [List.extract_eq_take_drop]
  rw [List.take_of_length_le]
  simp
theorem bytesOf_zero (s : ByteArray) (h : 0 < s.size) : (bytesOf s)[0]? = some (nb s 0 : Int) := by
  unfold nb
  rw [dif_pos h]
  simp [bytesOf]
  exact ⟨_, Array.getElem?_eq_getElem (show 0 < s.data.size from h), rfl⟩
end Go.Proofs.Ytbbeikdbioelgaa.M
set_option linter.unusedVariables false
set_option linter.unusedSimpArgs false
namespace Go.Proofs.Ytbbeikdbioelgaa.M
open Go.RowKit Go.Maps Go.Proofs.YtbbeikdbioelgaaW.PrintWords Go.Proofs.YtbbeikdbioelgaaW.PrintLast Go.Proofs.YtbbeikdbioelgaaW.PrintMore
theorem bytesOf_split (s : ByteArray) (k : Nat) : bytesOf s = bytesOf (s.extract 0 k) ++ bytesOf (s.extract k s.size) := by
  rw [bytesOf_take, bytesOf_drop, List.take_append_drop]
theorem bytesOf_one {s : ByteArray} (h : s.size = 1) : bytesOf s = [(nb s 0 : Int)] := by
  have h0 := bytesOf_zero s (by omega)
  have hl := bytesOf_length s
  match hb : bytesOf s, hl with
  | [x], _ =>
    rw [hb] at h0
    exact congrArg (· :: []) (Option.some.inj h0)
  | [], hl => simp at hl; omega
  | _ :: _ :: _, hl => simp at hl; omega
theorem take_cons (s : ByteArray) (h : 0 < s.size) (k : Nat) : bytesOf (s.extract 0 (k + 1)) = (nb s 0 : Int) :: ((bytesOf s).drop 1).take k := by
  rw [bytesOf_take]
  have h0 := bytesOf_zero s h
  match hb : bytesOf s with
  | [] => rw [hb] at h0; exact absurd h0 (by simp)
  | x :: l =>
    rw [hb] at h0
    have := Option.some.inj h0
    rw [← this]
    simp
theorem put2_cons (a : Int) : putL a 2 = [a / 256 % 256, a % 256] := by
  simp [putL]
def Byt (l : List Int) : Prop := ∀ x ∈ l, 0 ≤ x ∧ x < 256
theorem Byt.nil : Byt [] := fun x hx => absurd hx (by simp)
theorem Byt.append {l l' : List Int} (h : Byt l) (h' : Byt l') : Byt (l ++ l') := fun x hx => (List.mem_append.1 hx).elim (h x) (h' x)
theorem Byt.bytes (s : ByteArray) : Byt (bytesOf s) := by
  intro x hx
  unfold bytesOf at hx
  obtain ⟨b, _, rfl⟩ := List.mem_map.1 hx
  have := b.toNat_lt
  omega
theorem Byt.put (n : Int) (k : Nat) : Byt (putL n k) := by
  induction k with
  | zero => exact Byt.nil
  | succ k ih =>
    intro x hx
    unfold putL at hx
    rcases List.mem_cons.1 hx with rfl | hx
    · omega
    · exact ih x hx
theorem Byt.flat {α : Type} (f : α → List Int) (hf : ∀ a, Byt (f a)) (l : List α) : Byt (l.flatMap f) := by
  intro x hx
  obtain ⟨a, _, ha⟩ := List.mem_flatMap.1 hx
  exact hf a x ha
theorem Byt.text (r : Rec) (s : ByteArray) : Byt (textL r s) := by
  unfold textL
  refine Byt.append ?_ (Byt.bytes s)
  split
  · intro x hx
    rw [List.mem_singleton.1 hx]
    omega
  · exact Byt.nil
theorem Byt.plain (r : Rec) : Byt (plainL r) := by
  unfold plainL
  refine Byt.append (Byt.append (Byt.append ?_ (Byt.flat _ Byt.bytes _)) ?_) (Byt.flat _ (Byt.text r) _)
  · split
    · exact Byt.nil
    · exact Byt.flat _ (fun n => Byt.put n 2) _
  · split
    · exact Byt.flat _ (fun n => Byt.put n 4) _
    · exact Byt.nil
theorem bytes_str {l : List Int} (h : Byt l) : bytesOf (strOfNums l) = l := by
  unfold bytesOf
  rw [strOfNums_data, List.map_map]
  induction l with
  | nil => rfl
  | cons a l ih =>
    rw [List.map_cons, ih (fun x hx => h x (by simp [hx]))]
    have := h a (by simp)
    congr 1
    simp only [Function.comp]
    rw [UInt8.toNat_ofNat']
    omega
theorem nameF_byt (f : Nat) (out : List Int) (m : MM) (s : ByteArray) (h : Byt out) : Byt (nameF f out m s).1 := by
  induction f generalizing out m s with
  | zero => exact h
  | succ f ih =>
    unfold nameF
    by_cases h1 : s.size ≤ 1
    · rw [if_pos h1]
      exact h.append (by intro x hx; rw [List.mem_singleton.1 hx]; omega)
    · rw [if_neg h1]
      cases m s.data.toList with
      | some a => exact h.append (Byt.put _ _)
      | none => exact ih _ _ _ (h.append (Byt.bytes _))
abbrev BytP (p : WS) : Prop := Byt p.1
theorem foldl_byt {α : Type} (f : WS → α → WS) (hf : ∀ p x, BytP p → BytP (f p x)) (l : List α) : ∀ p, BytP p → BytP (l.foldl f p) := by
  induction l with
  | nil => exact fun p h => h
  | cons a l ih => exact fun p h => ih _ (hf p a h)
theorem nameN_byt (p : WS) (s : ByteArray) (h : BytP p) : BytP (nameN p s) := nameF_byt _ _ _ _ h
theorem dataF_byt (p : WS) (r : Rec) (h : BytP p) : BytP (dataF p r) := by
  unfold dataF
  by_cases h1 : pointedB r.f1 = false
  · rw [if_pos h1]
    exact h.append (Byt.bytes _)
  · rw [if_neg h1]
    have ha : BytP (if r.f1 = 15 then (p.1 ++ putL (r.f5.getD 0 0) 2, p.2) else p) := by
      by_cases h2 : r.f1 = 15
      · rw [if_pos h2]
        exact h.append (Byt.put _ _)
      · rw [if_neg h2]
        exact h
    have hb := foldl_byt nameN nameN_byt r.f4 _ ha
    show BytP (if r.f1 = 6 then _ else _)
    by_cases h3 : r.f1 = 6
    · rw [if_pos h3]
      exact hb.append (Byt.flat _ (fun n => Byt.put n 4) _)
    · rw [if_neg h3]
      exact hb
theorem recordF_out (p : WS) (r : Rec) : ∃ D, (dataF ((headF p r).1 ++ putL 0 2, (headF p r).2) r).1 = (headF p r).1 ++ putL 0 2 ++ D ∧ (recordF p r).1 = (headF p r).1 ++ (putL (D.length : Int) 2 ++ D) := by
  obtain ⟨D, hD⟩ := dataF_pre ((headF p r).1 ++ putL 0 2, (headF p r).2) r
  refine ⟨D, hD, ?_⟩
  unfold recordF
  simp only [hD]
  rw [put2_cons, put2_cons]
  have hn : ((((headF p r).1 ++ [0 / 256 % 256, 0 % 256] ++ D).length : Nat) : Int) - ((headF p r).1.length : Int) - 2 = D.length := by
    simp only [List.length_append, List.length_cons, List.length_nil]
    omega
  rw [hn, List.append_assoc, List.set_append_right _ _ (by omega), List.set_append_right _ _ (by omega)]
  simp
theorem recordF_byt (p : WS) (r : Rec) (h : BytP p) : BytP (recordF p r) := by
  obtain ⟨D, h1, h2⟩ := recordF_out p r
  have hh : Byt (headF p r).1 := (((nameN_byt p r.f0 h).append (Byt.put _ _)).append (Byt.put _ _)).append (Byt.put _ _)
  have hd := dataF_byt ((headF p r).1 ++ putL 0 2, (headF p r).2) r (hh.append (Byt.put _ _))
  show Byt (recordF p r).1
  rw [h2]
  refine hh.append ((Byt.put _ _).append ?_)
  intro x hx
  exact hd x (by rw [h1]; exact List.mem_append.2 (.inr hx))
structure Right (r : Rec) : Prop where
  fine : Fine r
  wf : Wf r
  ok : checkF r = 0
theorem shaped_parts {r : Rec} (h : shapedB r = true) : r.f4.length = (shapeOf r.f1).1 ∧ r.f5.length = (shapeOf r.f1).2.1 ∧ (r.f6.length = (shapeOf r.f1).2.2 ∨ r.f1 = 16 ∧ r.f6.length ≠ 0) ∧ (r.f1 = 6 ∨ (r.f5.all fun n => decide (n ≤ 65535)) = true) ∧ shapedE r = true := by
  unfold shapedB at h
  rw [Bool.and_eq_true, decide_eq_true_iff] at h
  exact ⟨h.1.1, h.1.2.1, h.1.2.2.1, h.1.2.2.2, h.2⟩
theorem nums_wide {r : Rec} (h : Fine r) : ∀ x ∈ r.f5, 0 ≤ x ∧ x ≤ 4294967295 := by
  intro x hx
  obtain ⟨j, hj, rfl⟩ := List.getElem_of_mem hx
  have := h.wf j hj
  rwa [List.getD_eq_getElem?_getD, List.getElem?_eq_getElem hj] at this
theorem nums_small {r : Rec} (h : Fine r) (hs : shapedB r = true) (h6 : r.f1 ≠ 6) : ∀ x ∈ r.f5, 0 ≤ x ∧ x ≤ 65535 := by
  intro x hx
  have h1 := nums_wide h x hx
  have h2 := (shaped_parts hs).2.2.2.1.resolve_left h6
  rw [List.all_eq_true] at h2
  exact ⟨h1.1, of_decide_eq_true (h2 x hx)⟩
theorem texts_small {r : Rec} (hs : shapedB r = true) (h : r.f1 = 16) : ∀ s ∈ r.f6, s.size ≤ 255 := by
  intro s hm
  have h2 := (shaped_parts hs).2.2.2.2
  unfold shapedE at h2
  rw [if_neg (by omega), if_neg (by omega), if_pos h] at h2
  have h3 : (r.f6.any tooLong) = false := by simpa using h2
  rw [List.any_eq_false] at h3
  have h4 := h3 s hm
  unfold tooLong at h4
  simpa using h4
theorem names_all {l : List ByteArray} (h : (l.any notName) = false) : ∀ s ∈ l, isName s = true := by
  intro s hs
  rw [List.any_eq_false] at h
  have := h s hs
  unfold notName at this
  simpa using this
theorem len_one {α : Type} {l : List α} (h : l.length = 1) : ∃ a, l = [a] := by
  match l, h with
  | [a], _ => exact ⟨a, rfl⟩
theorem pointed_of {k : Int} (h : ¬ pointedB k = false) : k = 2 ∨ k = 5 ∨ k = 12 ∨ k = 6 ∨ k = 15 := by
  unfold pointedB at h
  by_cases h1 : k = 2
  · exact .inl h1
  by_cases h2 : k = 5
  · exact .inr (.inl h2)
  by_cases h3 : k = 12
  · exact .inr (.inr (.inl h3))
  by_cases h4 : k = 6
  · exact .inr (.inr (.inr (.inl h4)))
  by_cases h5 : k = 15
  · exact .inr (.inr (.inr (.inr h5)))
  rw [if_neg h1, if_neg h2, if_neg h3, if_neg h4, if_neg h5] at h
  exact absurd rfl h
theorem shape_free {k : Int} (h : pointedB k = false) (h33 : k ≠ 33) : shapeOf k = (0, 0, 1) := by
  unfold pointedB at h
  unfold shapeOf
  repeat' (split at h; · exact absurd h (by decide))
  rw [if_neg (by omega), if_neg (by omega), if_neg (by omega), if_neg (by omega), if_neg (by omega), if_neg h33]
theorem recordF_pre (p : WS) (r : Rec) : ∃ t, (recordF p r).1 = p.1 ++ t := by
  obtain ⟨D, d1, d2⟩ := recordF_out p r
  obtain ⟨u, hu⟩ := nameF_pre (r.f0.size + 1) p.1 p.2 r.f0
  rw [d2]
  show ∃ t, (nameF (r.f0.size + 1) p.1 p.2 r.f0).1 ++ putL r.f1 2 ++ putL r.f2 2 ++ putL r.f3 4 ++ (putL (D.length : Int) 2 ++ D) = _
  rw [hu]
  exact ⟨u ++ (putL r.f1 2 ++ (putL r.f2 2 ++ (putL r.f3 4 ++ (putL (D.length : Int) 2 ++ D)))), by simp only [List.append_assoc]⟩
theorem recsF_pre (l : List Rec) : ∀ (p q : WS), recsF l p = some q → ∃ t, q.1 = p.1 ++ t := by
  induction l with
  | nil =>
    intro p q h
    obtain rfl := Option.some.inj h
    exact ⟨[], by simp⟩
  | cons r l ih =>
    intro p q h
    unfold recsF at h
    by_cases hc : 65535 < (recordF p r).1.length
    · rw [if_pos hc] at h
      exact absurd h (by simp)
    · rw [if_neg hc] at h
      obtain ⟨t, ht⟩ := ih _ _ h
      obtain ⟨u, hu⟩ := recordF_pre p r
      exact ⟨u ++ t, by rw [ht, hu, List.append_assoc]⟩
theorem recsF_byt (l : List Rec) : ∀ (p q : WS), BytP p → recsF l p = some q → BytP q := by
  induction l with
  | nil =>
    intro p q hp h
    obtain rfl := Option.some.inj h
    exact hp
  | cons r l ih =>
    intro p q hp h
    unfold recsF at h
    by_cases hc : 65535 < (recordF p r).1.length
    · rw [if_pos hc] at h
      exact absurd h (by simp)
    · rw [if_neg hc] at h
      exact ih _ _ (recordF_byt p r hp) h
theorem quesF_byt (p : WS) (q : Ques) (h : BytP p) : BytP (quesF p q) := ((nameN_byt p q.f0 h).append (Byt.put _ _)).append (Byt.put _ _)
theorem quesF_pre (p : WS) (q : Ques) : ∃ t, (quesF p q).1 = p.1 ++ t := by
  obtain ⟨u, hu⟩ := nameF_pre (q.f0.size + 1) p.1 p.2 q.f0
  show ∃ t, (nameF (q.f0.size + 1) p.1 p.2 q.f0).1 ++ putL q.f1 2 ++ putL q.f2 2 = _
  rw [hu]
  exact ⟨u ++ (putL q.f1 2 ++ putL q.f2 2), by simp only [List.append_assoc]⟩
theorem ques_pre (l : List Ques) : ∀ p : WS, ∃ t, (l.foldl quesF p).1 = p.1 ++ t := by
  induction l with
  | nil => exact fun p => ⟨[], by simp⟩
  | cons q l ih =>
    intro p
    obtain ⟨t, ht⟩ := ih (quesF p q)
    obtain ⟨u, hu⟩ := quesF_pre p q
    exact ⟨u ++ t, by rw [List.foldl_cons, ht, hu, List.append_assoc]⟩
structure QRight (q : Ques) : Prop where
  name : isName q.f0 = true
  r1 : 0 ≤ q.f1 ∧ q.f1 ≤ 65535
  r2 : 0 ≤ q.f2 ∧ q.f2 ≤ 65535
theorem write_out {m : Msg} {S : ByteArray} (h : writeM m = (S, 0)) : checkM m = 0 ∧ ∃ p, recsF (m.ans ++ m.auth ++ m.add) (quesAll m) = some p ∧ p.1.length ≤ 65535 ∧ strOfNums p.1 = S := by
  unfold writeM at h
  by_cases hc : checkM m = 0
  · rw [if_pos hc] at h
    refine ⟨hc, ?_⟩
    cases hr : recsF (m.ans ++ m.auth ++ m.add) (quesAll m) with
    | none =>
      rw [hr] at h
      exact absurd (congrArg Prod.snd h) (by simp [endF])
    | some p =>
      rw [hr] at h
      unfold endF at h
      by_cases hl : 65535 < p.1.length
      · simp [hl] at h
      · simp only [hl, if_false] at h
        exact ⟨p, rfl, by omega, congrArg Prod.fst h⟩
  · rw [if_neg hc] at h
    exact absurd (congrArg Prod.snd h) hc
theorem quesAll_byt (m : Msg) : BytP (quesAll m) := foldl_byt quesF quesF_byt m.qs _ (Byt.flat _ (fun n => Byt.put n 2) _)
theorem msg_right {m : Msg} (h : MsgOk m) (hc : checkM m = 0) : (∀ q ∈ m.qs, QRight q) ∧ ∀ r ∈ m.ans ++ m.auth ++ m.add, Right r := by
  obtain ⟨c1, c2, c3⟩ := check_parts hc
  refine ⟨fun q hq => ?_, fun r hr => ⟨h.fine r hr, h.wf r hr, c3 r hr⟩⟩
  obtain ⟨q0, q1, q2, q3⟩ := h.qs q hq
  refine ⟨?_, ⟨q0, q1⟩, ⟨q2, q3⟩⟩
  obtain ⟨j, hj, rfl⟩ := List.getElem_of_mem hq
  have := c2 j hj
  rwa [List.getD_eq_getElem?_getD, List.getElem?_eq_getElem hj] at this
end Go.Proofs.Ytbbeikdbioelgaa.M
set_option linter.unusedVariables false
set_option linter.unusedSimpArgs false
namespace Go.Proofs.Ytbbeikdbioelgaa.M
open Go.RowKit Go.Maps Go.Proofs.YtbbeikdbioelgaaW.PrintWords Go.Proofs.YtbbeikdbioelgaaW.PrintLast Go.Proofs.YtbbeikdbioelgaaW.PrintMore
theorem Rd.mono {L : List Int} {p a : Nat} {r : List Int} {e : Nat} (h : Rd L p a r e) : ∀ {p' : Nat}, p ≤ p' → Rd L p' a r e := by
  induction h with
  | zero h => intro p' _; exact .zero h
  | label h h1 h2 hl hr ih => intro p' hp; exact .label h h1 h2 hl (ih hp)
  | ptr h h1 hx hx2 ht hp hr ih => intro p' hp'; exact .ptr h h1 hx hx2 ht (by omega) hr
theorem at_ext {L : List Int} {i : Nat} {x : Int} (h : L[i]? = some x) (T : List Int) : (L ++ T)[i]? = some x := by
  rw [List.getElem?_append_left (List.getElem?_eq_some_iff.1 h).1]
  exact h
theorem Rd.ext {L : List Int} {p a : Nat} {r : List Int} {e : Nat} (h : Rd L p a r e) (T : List Int) : Rd (L ++ T) p a r e := by
  induction h with
  | zero h => exact .zero (at_ext h T)
  | @label p a n r e h h1 h2 hl hr ih =>
    have := Rd.label (at_ext h T) h1 h2 (by rw [List.length_append]; omega) ih
    rwa [List.drop_append_of_le_length (by omega), List.take_append_of_le_length (by rw [List.length_drop]; omega)] at this
  | ptr h h1 hx hx2 ht hp hr ih => exact .ptr (at_ext h T) (at_ext h1 T) hx hx2 ht hp ih
theorem Rd.lt {L : List Int} {p a : Nat} {r : List Int} {e : Nat} (h : Rd L p a r e) : a < e ∧ e ≤ L.length := by
  induction h with
  | zero h => have := (List.getElem?_eq_some_iff.1 h).1; omega
  | label h h1 h2 hl hr ih => omega
  | ptr h h1 hx hx2 ht hp hr ih => have := (List.getElem?_eq_some_iff.1 h1).1; omega
theorem nb_of {S : ByteArray} {a n : Nat} (h : (bytesOf S)[a]? = some (n : Int)) : nb S a = n := by
  obtain ⟨hl, he⟩ := List.getElem?_eq_some_iff.1 h
  have hs : a < S.size := by rwa [bytesOf_length] at hl
  have h2 := nb_at S a hs
  have h3 : (bytesOf S)[a] = ((S[a]'hs).toNat : Int) := by simp only [bytesOf, List.getElem_map]; rfl
  omega
theorem Rd.ends {S : ByteArray} {L : List Int} (hL : bytesOf S = L) {p a : Nat} {r : List Int} {e : Nat} (h : Rd L p a r e) : ∀ (K : Nat) (en : Int), (e : Int) ≤ en → (en - a).toNat < K → endsR K S a en = true := by
  induction h with
  | @zero p a h =>
    intro K en he hK
    obtain ⟨K, rfl⟩ : ∃ k, K = k + 1 := ⟨K - 1, by omega⟩
    unfold endsR
    rw [if_pos (by omega), Int.toNat_natCast, if_pos (nb_of (n := 0) (by rw [hL]; exact h))]
  | @label p a n r e h h1 h2 hl hr ih =>
    intro K en he hK
    have hlt := hr.lt
    obtain ⟨K, rfl⟩ : ∃ k, K = k + 1 := ⟨K - 1, by omega⟩
    have hn := nb_of (by rw [hL]; exact h)
    unfold endsR
    rw [if_pos (by omega), Int.toNat_natCast, hn, if_neg (by omega), if_neg (by omega), if_neg (by omega)]
    rw [show (a : Int) + ((n : Int) + 1) = ((a + 1 + n : Nat) : Int) by omega]
    exact ih K en he (by omega)
  | @ptr p a x y t r e h h1 hx hx2 ht hp hr ih =>
    intro K en he hK
    obtain ⟨K, rfl⟩ : ∃ k, K = k + 1 := ⟨K - 1, by omega⟩
    have hn := nb_of (by rw [hL]; exact h)
    unfold endsR
    rw [if_pos (by omega), Int.toNat_natCast, hn, if_neg (by omega), if_pos (by omega)]
    exact decide_eq_true (by omega)
theorem nameF_rd (k : Nat) : ∀ (f : Nat) (out : List Int) (m : MM) (s : ByteArray) (p : Nat), nameW k s → s.size < f → p ≤ out.length →
    (∀ (t : ByteArray) (v : Int), m t.data.toList = some v → 0 ≤ v ∧ v < 16384 ∧ (t.size ≤ s.size → v < p ∧ ∃ e, Rd out v.toNat v.toNat (bytesOf t) e)) →
    Rd (nameF f out m s).1 p out.length (bytesOf s) (nameF f out m s).1.length ∧
    ∀ (t : ByteArray) (v : Int), (nameF f out m s).2 t.data.toList = some v → m t.data.toList = some v ∨ ((p : Int) ≤ v ∧ v < 16384 ∧ ∃ e, Rd (nameF f out m s).1 p v.toNat (bytesOf t) e) := by
  induction k with
  | zero => intro f out m s p h; exact absurd h id
  | succ k ih =>
    intro f out m s p h hf hp hm
    match f, hf with
    | f + 1, hf =>
    unfold nameF
    rcases h with ⟨h1, h2⟩ | ⟨h1, h2, h3, h4⟩
    · rw [if_pos (by omega)]
      refine ⟨?_, fun t v ht => .inl ht⟩
      rw [bytesOf_one h1, h2]
      have h0 : (out ++ [0])[out.length]? = some (0 : Int) := by simp
      have hz := Rd.zero (p := p) h0
      simpa using hz
    · rw [if_neg (by omega)]
      cases hmm : m s.data.toList with
      | some a =>
        obtain ⟨a0, a1, a2⟩ := hm s a hmm
        obtain ⟨a3, e, hr⟩ := a2 (Nat.le_refl _)
        refine ⟨?_, fun t v ht => .inl ht⟩
        obtain ⟨n, rfl⟩ := Int.eq_ofNat_of_zero_le a0
        have hput : putL ((n : Int) + 49152) 2 = [((192 + n / 256 : Nat) : Int), ((n % 256 : Nat) : Int)] := by
          rw [put2_cons]
          congr 1
          · omega
          · congr 1
            omega
        simp only [hput]
        have hq := Rd.ptr (L := out ++ [((192 + n / 256 : Nat) : Int), ((n % 256 : Nat) : Int)]) (p := p) (a := out.length) (x := 192 + n / 256) (y := n % 256) (t := n) (by simp) (by simp) (by omega) (by omega) (by omega) (by omega) (hr.ext _)
        simpa using hq
      | none =>
        simp only []
        obtain ⟨o1, ho1⟩ : ∃ x, out ++ bytesOf (s.extract 0 (nb s 0 + 1)) = x := ⟨_, rfl⟩
        obtain ⟨m1, hm1⟩ : ∃ x, (if out.length < 16384 then updS m s.data.toList out.length else m) = x := ⟨_, rfl⟩
        obtain ⟨s1, hs1⟩ : ∃ x, s.extract (nb s 0 + 1) s.size = x := ⟨_, rfl⟩
        rw [hs1] at h4
        rw [hs1, ho1, hm1]
        have z1 : s1.size = s.size - (nb s 0 + 1) := by rw [← hs1, ByteArray.size_extract]; omega
        have l1 : o1.length = out.length + (nb s 0 + 1) := by rw [← ho1, List.length_append, bytesOf_length, ByteArray.size_extract]; omega
        have keep : ∀ (t : ByteArray) (v : Int), m t.data.toList = some v → 0 ≤ v ∧ v < 16384 ∧ (t.size ≤ s1.size → v < p ∧ ∃ e, Rd o1 v.toNat v.toNat (bytesOf t) e) := by
          intro t v ht
          obtain ⟨b0, b1, b2⟩ := hm t v ht
          refine ⟨b0, b1, fun hh => ?_⟩
          obtain ⟨b3, e, b4⟩ := b2 (by omega)
          exact ⟨b3, e, by rw [← ho1]; exact b4.ext _⟩
        have new : ∀ (t : ByteArray) (v : Int), m1 t.data.toList = some v → m t.data.toList = some v ∨ (t = s ∧ v = out.length ∧ out.length < 16384) := by
          intro t v ht
          rw [← hm1] at ht
          by_cases c : out.length < 16384
          · rw [if_pos c] at ht
            unfold updS at ht
            by_cases e : t.data.toList = s.data.toList
            · rw [if_pos e] at ht
              exact .inr ⟨ByteArray.ext (Array.toList_inj.1 e), (Option.some.inj ht).symm, c⟩
            · rw [if_neg e] at ht
              exact .inl ht
          · rw [if_neg c] at ht
            exact .inl ht
        obtain ⟨i1, i2⟩ := ih f o1 m1 s1 p h4 (by omega) (by omega) (by
          intro t v ht
          rcases new t v ht with h | ⟨rfl, rfl, hc⟩
          · exact keep t v h
          · exact ⟨by omega, by omega, fun hh => by omega⟩)
        obtain ⟨T, hT⟩ := nameF_pre f o1 m1 s1
        have hsplit := bytesOf_split s (nb s 0 + 1)
        rw [hs1] at hsplit
        have htc := take_cons s (by omega) (nb s 0)
        obtain ⟨O, hO⟩ : ∃ O, (nameF f o1 m1 s1).1 = O := ⟨_, rfl⟩
        rw [hO] at i1 i2 hT ⊢
        have hR : Rd O p out.length (bytesOf s) O.length := by
          have hout : O = out ++ ((nb s 0 : Int) :: (((bytesOf s).drop 1).take (nb s 0) ++ T)) := by rw [hT, ← ho1, htc]; simp
          have ll : (((bytesOf s).drop 1).take (nb s 0)).length = nb s 0 := by rw [List.length_take, List.length_drop, bytesOf_length]; omega
          have hd : List.drop (out.length + 1) O = ((bytesOf s).drop 1).take (nb s 0) ++ T := by rw [hout]; simp [List.drop_append]
          have hlen := congrArg List.length hout
          simp only [List.length_append, List.length_cons, ll] at hlen
          have hq := Rd.label (L := O) (p := p) (a := out.length) (n := nb s 0) (r := bytesOf s1) (e := O.length) (by rw [hout]; simp) h1 h2 (by omega) (by rw [show out.length + 1 + nb s 0 = o1.length by omega]; exact i1)
          rw [hd, List.take_left' ll] at hq
          rw [hsplit, htc]
          exact hq
        refine ⟨hR, fun t v ht => ?_⟩
        rcases i2 t v ht with h | h
        · rcases new t v h with h | ⟨rfl, rfl, hc⟩
          · exact .inl h
          · exact .inr ⟨by omega, by omega, _, by rw [Int.toNat_natCast]; exact hR⟩
        · exact .inr h
abbrev GoodK (p : WS) : Prop := ∀ (t : ByteArray) (v : Int), p.2 t.data.toList = some v → 0 ≤ v ∧ v < 16384 ∧ v < p.1.length ∧ ∃ e, Rd p.1 v.toNat v.toNat (bytesOf t) e
theorem nameN_K {p : WS} (hg : GoodK p) {s : ByteArray} (hs : isName s = true) : Rd (nameN p s).1 p.1.length p.1.length (bytesOf s) (nameN p s).1.length ∧ GoodK (nameN p s) := by
  obtain ⟨i1, i2⟩ := nameF_rd (s.size + 1) (s.size + 1) p.1 p.2 s p.1.length (isName_W hs).1 (by omega) (Nat.le_refl _) (fun t v ht => by
    obtain ⟨a, b, c, d⟩ := hg t v ht
    exact ⟨a, b, fun _ => ⟨c, d⟩⟩)
  refine ⟨i1, fun t v ht => ?_⟩
  obtain ⟨T, hT⟩ := nameF_pre (s.size + 1) p.1 p.2 s
  have hT' : (nameN p s).1 = p.1 ++ T := hT
  rcases i2 t v ht with h | ⟨h1, h2, e, h3⟩
  · obtain ⟨a, b, c, e, d⟩ := hg t v h
    exact ⟨a, b, by rw [hT', List.length_append]; omega, e, by rw [hT']; exact d.ext T⟩
  · have h4 : v.toNat < (nameN p s).1.length := by
      have := h3.lt
      show v.toNat < (nameF _ _ _ _).1.length
      omega
    exact ⟨by omega, h2, by omega, e, h3.mono (by omega)⟩
theorem app_K {p : WS} (hg : GoodK p) (l : List Int) : GoodK (p.1 ++ l, p.2) := by
  intro t v ht
  obtain ⟨a, b, c, e, d⟩ := hg t v ht
  exact ⟨a, b, by simp only [List.length_append]; omega, e, d.ext l⟩
theorem nameAt_of {S : ByteArray} {L : List Int} (hS : bytesOf S = L) {p a e : Nat} {s : ByteArray} (h : Rd L p a (bytesOf s) e) (hp : p ≤ a) (hs : isName s = true) : nameAt S a = .ok (bytesOf s, (e : Int)) := by
  have hz := isName_size hs
  have := (h.mono hp).read hS (a * 256 + 257) [] (-1) (by rw [bytesOf_length]; simp; omega) (by simp)
  unfold nameAt
  rw [Int.toNat_natCast, this]
  rfl
theorem drop_next {L X R : List Int} {a : Nat} (h : L.drop a = X ++ R) : L.drop (a + X.length) = R := by
  rw [← List.drop_drop, h]
  simp
theorem drop_len {L X R : List Int} {a : Nat} (h : L.drop a = X ++ R) (hx : X ≠ []) : a + X.length + R.length = L.length := by
  have hl := congrArg List.length h
  rw [List.length_drop, List.length_append] at hl
  have : 0 < X.length := List.length_pos_iff.2 hx
  omega
theorem getN {S : ByteArray} {a n : Nat} {T R : List Int} (h : (bytesOf S).drop a = T ++ R) (hT : T.length = n) (h1 : 1 ≤ n) (h8 : n ≤ 8) : getF S (a : Int) (n : Int) = some (valF 0 T) := by
  have hl := congrArg List.length h
  rw [List.length_drop, bytesOf_length, List.length_append] at hl
  unfold getF
  rw [if_neg (by omega), part_bytes (by omega), Option.map_some, bmid', show a + n - a = n by omega, h, ← hT, List.take_left]
theorem get2p {S : ByteArray} {a : Nat} {x : Int} {R : List Int} (h : (bytesOf S).drop a = putL x 2 ++ R) (hx : 0 ≤ x ∧ x ≤ 65535) : getF S (a : Int) 2 = some x := by
  have e := getN (n := 2) h (putL_length _ _) (by decide) (by decide)
  rw [show valF 0 (putL x 2) = x by rw [put2_cons]; simp only [valF]; omega] at e
  exact e
theorem get4p {S : ByteArray} {a : Nat} {x : Int} {R : List Int} (h : (bytesOf S).drop a = putL x 4 ++ R) (hx : 0 ≤ x ∧ x ≤ 4294967295) : getF S (a : Int) 4 = some x := by
  have e := getN (n := 4) h (putL_length _ _) (by decide) (by decide)
  rw [show valF 0 (putL x 4) = x by simp [putL, valF]; omega] at e
  exact e
theorem part_w {S t : ByteArray} {a : Nat} {R : List Int} (h : (bytesOf S).drop a = bytesOf t ++ R) (ha : a ≤ S.size) : partF S (a : Int) (t.size : Int) = some t := by
  have hl := congrArg List.length h
  rw [List.length_drop, bytesOf_length, List.length_append, bytesOf_length] at hl
  rw [part_bytes (by omega)]
  congr 1
  apply tb_inj
  rw [bmid', show a + t.size - a = t.size by omega, h, List.take_left' (bytesOf_length t)]
theorem ques_w {S : ByteArray} {L R : List Int} (hS : bytesOf S = L) {p : WS} (hg : GoodK p) {q : Ques} (hq : QRight q) (hL : L = (quesF p q).1 ++ R) : quesR S (p.1.length : Int) = .ok (q, ((quesF p q).1.length : Int)) ∧ GoodK (quesF p q) := by
  obtain ⟨h1, h2⟩ := nameN_K hg hq.name
  refine ⟨?_, app_K (app_K h2 _) _⟩
  have hd : L = (nameN p q.f0).1 ++ (putL q.f1 2 ++ (putL q.f2 2 ++ R)) := by
    rw [hL]
    show (_ ++ _ ++ _) ++ R = _
    simp only [List.append_assoc]
  unfold quesR
  rw [nameAt_of hS (by rw [hd]; exact h1.ext _) (Nat.le_refl _) hq.name]
  simp only []
  have d1 : (bytesOf S).drop (nameN p q.f0).1.length = putL q.f1 2 ++ (putL q.f2 2 ++ R) := by rw [hS, hd]; simp
  have d2 : (bytesOf S).drop ((nameN p q.f0).1.length + 2) = putL q.f2 2 ++ R := by have := drop_next d1; rwa [putL_length] at this
  rw [get2p d1 hq.r1]
  simp only []
  rw [show (((nameN p q.f0).1.length : Int) + 2) = (((nameN p q.f0).1.length + 2 : Nat) : Int) by omega, get2p d2 hq.r2]
  simp only [tb_str]
  have hz : (((nameN p q.f0).1.length + 2 : Nat) : Int) + 2 = ((quesF p q).1.length : Int) := by
    show _ = (((nameN p q.f0).1 ++ putL q.f1 2 ++ putL q.f2 2).length : Int)
    simp only [List.length_append, putL_length]
    omega
  rw [hz]
theorem quess_w {S : ByteArray} {L : List Int} (hS : bytesOf S = L) (l : List Ques) : ∀ (p : WS) (out : List Ques) (R : List Int), GoodK p → (∀ q ∈ l, QRight q) → L = (l.foldl quesF p).1 ++ R →
    quessR S l.length out (p.1.length : Int) = .ok (out ++ l, ((l.foldl quesF p).1.length : Int)) ∧ GoodK (l.foldl quesF p) := by
  induction l with
  | nil => intro p out R hg _ _; exact ⟨by simp [quessR], hg⟩
  | cons q l ih =>
    intro p out R hg hq hL
    rw [List.foldl_cons] at hL ⊢
    obtain ⟨T, hT⟩ := ques_pre l (quesF p q)
    obtain ⟨e1, e2⟩ := ques_w hS hg (hq q (by simp)) (R := T ++ R) (by rw [hL, hT, List.append_assoc])
    obtain ⟨e3, e4⟩ := ih (quesF p q) (out ++ [q]) R e2 (fun x hx => hq x (by simp [hx])) hL
    refine ⟨?_, e4⟩
    rw [List.length_cons, quessR, e1]
    simp only []
    rw [e3]
    simp
theorem names_w {S : ByteArray} {L : List Int} (hS : bytesOf S = L) {k en : Int} (hk : k ≠ 33) (l : List ByteArray) : ∀ (p : WS) (out : List ByteArray) (R : List Int), GoodK p → (∀ s ∈ l, isName s = true) → L = (l.foldl nameN p).1 ++ R → ((l.foldl nameN p).1.length : Int) ≤ en →
    namesR S k en l.length out (p.1.length : Int) = .ok (out ++ l, ((l.foldl nameN p).1.length : Int)) ∧ GoodK (l.foldl nameN p) := by
  induction l with
  | nil => intro p out R hg _ _ _; exact ⟨by simp [namesR], hg⟩
  | cons s l ih =>
    intro p out R hg hs hL he
    rw [List.foldl_cons] at hL he ⊢
    obtain ⟨T, hT⟩ := foldl_pre l (nameN p s)
    have hn := hs s (by simp)
    obtain ⟨h1, h2⟩ := nameN_K hg hn
    obtain ⟨e3, e4⟩ := ih (nameN p s) (out ++ [s]) R h2 (fun x hx => hs x (by simp [hx])) hL he
    refine ⟨?_, e4⟩
    have hr : Rd L p.1.length p.1.length (bytesOf s) (nameN p s).1.length := by rw [hL, hT, List.append_assoc]; exact h1.ext _
    have hw : withinF S k (p.1.length : Int) en = .ok (bytesOf s, ((nameN p s).1.length : Int)) := by
      have hle : ((nameN p s).1.length : Int) ≤ en := by rw [hT, List.length_append] at he; omega
      unfold withinF endsF
      rw [hr.ends hS _ en hle (by omega), if_neg (by decide), if_neg hk, nameAt_of hS hr (Nat.le_refl _) hn]
    rw [List.length_cons, namesR, hw]
    simp only [tb_str]
    rw [e3]
    simp
theorem nums_w {S : ByteArray} {z : Nat} {B en : Int} (hz1 : 1 ≤ z) (hget : ∀ (a : Nat) (x : Int) (R : List Int), (bytesOf S).drop a = putL x z ++ R → 0 ≤ x ∧ x ≤ B → getF S (a : Int) (z : Int) = some x) (l : List Int) : ∀ (a : Nat) (out R : List Int), (bytesOf S).drop a = l.flatMap (fun n => putL n z) ++ R → (∀ x ∈ l, 0 ≤ x ∧ x ≤ B) → ((a + z * l.length : Nat) : Int) ≤ en →
    numsR S (z : Int) en l.length out (a : Int) = .ok (out ++ l, ((a + z * l.length : Nat) : Int)) := by
  induction l with
  | nil => intro a out R _ _ _; simp [numsR]
  | cons x l ih =>
    intro a out R hd hx he
    rw [List.flatMap_cons, List.append_assoc] at hd
    have hm : z * (l.length + 1) = z + z * l.length := by rw [Nat.mul_add, Nat.mul_one, Nat.add_comm]
    rw [List.length_cons] at he ⊢
    rw [hm] at he ⊢
    have hd2 := drop_next hd
    rw [putL_length] at hd2
    rw [numsR, if_neg (by omega), hget a x _ hd (hx x (by simp))]
    simp only []
    rw [show (a : Int) + (z : Int) = ((a + z : Nat) : Int) by omega, ih (a + z) (out ++ [x]) R hd2 (fun y hy => hx y (by simp [hy])) (by rw [Nat.add_assoc]; exact he), Nat.add_assoc]
    simp
theorem texts_w {S : ByteArray} {en : Int} (l : List ByteArray) : ∀ (a : Nat) (out : List ByteArray) (K : Nat) (R : List Int), a ≤ S.size → (bytesOf S).drop a = l.flatMap (fun s => (s.size : Int) % 256 :: bytesOf s) ++ R → (∀ s ∈ l, s.size ≤ 255) → en = (a : Int) + (l.flatMap (fun s => (s.size : Int) % 256 :: bytesOf s)).length → (en - a).toNat < K →
    textsR S en K out (a : Int) = .ok (out ++ l, en) := by
  induction l with
  | nil =>
    intro a out K R _ _ _ he hK
    obtain ⟨K, rfl⟩ : ∃ k, K = k + 1 := ⟨K - 1, by omega⟩
    simp only [List.flatMap_nil, List.length_nil] at he
    rw [textsR, if_neg (by omega), List.append_nil]
    congr 2
    omega
  | cons s l ih =>
    intro a out K R ha hd hx he hK
    obtain ⟨K, rfl⟩ : ∃ k, K = k + 1 := ⟨K - 1, by omega⟩
    rw [List.flatMap_cons, List.cons_append, List.cons_append] at hd
    rw [List.flatMap_cons, List.length_append, List.length_cons, bytesOf_length] at he
    have hsz := hx s (by simp)
    have hd0 : (bytesOf S).drop a = [(s.size : Int) % 256] ++ (bytesOf s ++ (l.flatMap (fun s => (s.size : Int) % 256 :: bytesOf s) ++ R)) := by rw [hd]; simp
    have hd1 := drop_next hd0
    have hln := drop_len hd0 (by simp)
    simp only [List.length_singleton, bytesOf_length, List.length_append] at hd1 hln
    have hd2 := drop_next hd1
    rw [bytesOf_length] at hd2
    have hg := getN (n := 1) hd0 rfl (by decide) (by decide)
    rw [show valF 0 [(s.size : Int) % 256] = (s.size : Int) by simp only [valF]; omega] at hg
    have hg1 : getF S (a : Int) 1 = some (s.size : Int) := hg
    rw [textsR, if_pos (by omega), hg1]
    simp only []
    rw [if_neg (by omega), show (a : Int) + 1 = ((a + 1 : Nat) : Int) by omega, part_w hd1 (by omega)]
    simp only []
    rw [show ((a + 1 : Nat) : Int) + (s.size : Int) = ((a + 1 + s.size : Nat) : Int) by omega, ih (a + 1 + s.size) (out ++ [s]) K R (by omega) hd2 (fun y hy => hx y (by simp [hy])) (by omega) (by omega)]
    simp
theorem bare_w {S : ByteArray} (k : Nat) : ∀ (x : ByteArray) (a : Nat) (R b : List Int) (K : Nat), nameW k x → (bytesOf S).drop a = bytesOf x ++ R → b.length + x.size ≤ 255 → x.size ≤ K → bareR K S b (a : Int) = .ok (b ++ bytesOf x, ((a + x.size : Nat) : Int)) := by
  induction k with
  | zero => intro x a R b K h; exact absurd h id
  | succ k ih =>
    intro x a R b K h hd hb hK
    have hpos := nameW_pos h
    obtain ⟨K, rfl⟩ : ∃ k, K = k + 1 := ⟨K - 1, by omega⟩
    have hln := congrArg List.length hd
    rw [List.length_drop, bytesOf_length, List.length_append, bytesOf_length] at hln
    have hb1 := bsplit' x (by omega)
    have hat : (bytesOf S)[a]? = some (nb x 0 : Int) := by
      have h0 : ((bytesOf S).drop a)[0]? = some (nb x 0 : Int) := by rw [hd, hb1]; rfl
      rw [List.getElem?_drop] at h0
      exact h0
    unfold bareR
    rw [get_byte hat]
    simp only []
    rcases h with ⟨h1, h2⟩ | ⟨h1, h2, h3, h4⟩
    · rw [if_pos (by omega), bytesOf_one h1, h2, h1]
      rfl
    · obtain ⟨s1, hs1⟩ : ∃ y, x.extract (nb x 0 + 1) x.size = y := ⟨_, rfl⟩
      rw [hs1] at h4
      have z1 : s1.size = x.size - (nb x 0 + 1) := by rw [← hs1, ByteArray.size_extract]; omega
      have z2 := nameW_pos h4
      rw [if_neg (by omega), if_neg (by omega), if_neg (by omega), if_neg (by omega)]
      have hsplit := bytesOf_split x (nb x 0 + 1)
      rw [hs1] at hsplit
      have htc := take_cons x (by omega) (nb x 0)
      have ll : (((bytesOf x).drop 1).take (nb x 0)).length = nb x 0 := by rw [List.length_take, List.length_drop, bytesOf_length]; omega
      obtain ⟨lab, hlab⟩ : ∃ y, ((bytesOf x).drop 1).take (nb x 0) = y := ⟨_, rfl⟩
      rw [hlab] at htc ll
      have hx : bytesOf x = (nb x 0 : Int) :: (lab ++ bytesOf s1) := by rw [hsplit, htc]; rfl
      have hd0 : (bytesOf S).drop a = [(nb x 0 : Int)] ++ (lab ++ (bytesOf s1 ++ R)) := by rw [hd, hx]; simp
      have hd1 := drop_next hd0
      have hd2 := drop_next hd1
      rw [ll] at hd2
      simp only [List.length_singleton] at hd1 hd2
      rw [show (a : Int) + 1 = ((a + 1 : Nat) : Int) by omega, part_bytes (by omega)]
      simp only []
      rw [bmid', show a + 1 + nb x 0 - (a + 1) = nb x 0 by omega, hd1, List.take_left' ll, show ((a + 1 : Nat) : Int) + (nb x 0 : Int) = ((a + 1 + nb x 0 : Nat) : Int) by omega]
      rw [ih s1 (a + 1 + nb x 0) R _ K h4 hd2 (by simp only [List.length_append, List.length_singleton, ll]; omega) (by omega), hx]
      congr 2
      · simp
      · omega
end Go.Proofs.Ytbbeikdbioelgaa.M
set_option linter.unusedVariables false
set_option linter.unusedSimpArgs false
namespace Go.Proofs.Ytbbeikdbioelgaa.M
open Go.RowKit Go.Maps Go.Proofs.YtbbeikdbioelgaaW.PrintWords Go.Proofs.YtbbeikdbioelgaaW.PrintLast Go.Proofs.YtbbeikdbioelgaaW.PrintMore
theorem bytes_plain {r : Rec} (hr : Right r) : bytesOf (plainS r) = plainL r := by
  unfold plainS
  rw [if_pos hr.ok, bytes_str (Byt.plain r)]
theorem data_end (en : Int) (names texts : List ByteArray) (nums : List Int) {a : Int} (h : a = en) : dataE en names nums (texts, a) = .ok ((names, nums, texts), a) := by
  rw [dataE]
  rw [if_pos h]
theorem data_plain {S : ByteArray} {L R : List Int} (hS : bytesOf S = L) {p : List Int} {r : Rec} (hr : Right r) (hp : pointedB r.f1 = false) (hL : L = (p ++ plainL r) ++ R) :
    dataR S r.f1 ((p ++ plainL r).length : Int) (p.length : Int) = .ok ((r.f4, r.f5, r.f6), ((p ++ plainL r).length : Int)) := by
  obtain ⟨hsm, _, hn0, hn4, hsh⟩ := check_small hr.fine hr.ok
  obtain ⟨a4, a5, a6, a7, a8⟩ := shaped_parts hsh
  have n6 : r.f1 ≠ 6 := fun e => by rw [e] at hp; exact absurd hp (by decide)
  have hsz : S.size = L.length := by rw [← hS, bytesOf_length]
  have hd : (bytesOf S).drop p.length = plainL r ++ R := by rw [hS, hL]; simp
  have hlen := congrArg List.length hL
  rw [List.length_append] at hlen
  obtain ⟨en, hen⟩ : ∃ en : Nat, (p ++ plainL r).length = en := ⟨_, rfl⟩
  rw [hen] at hlen ⊢
  rw [List.length_append] at hen
  have hpl : (plainL r).length = 2 * r.f5.length + (sumS r.f4 + (r.f6.flatMap (textL r)).length) := by
    rw [plainL_not n6, List.nil_append, List.length_append, List.length_append, numsL_len, namesL_len, Nat.add_assoc]
  rw [plainL_not n6] at hd
  simp only [List.nil_append, List.append_assoc] at hd
  have hnums : numsR S 2 (en : Int) r.f5.length [] (p.length : Int) = .ok ([] ++ r.f5, ((p.length + 2 * r.f5.length : Nat) : Int)) :=
    nums_w (S := S) (z := 2) (B := 65535) (en := (en : Int)) (by decide) (fun a x R h hx => get2p h hx) r.f5 p.length [] _ hd (nums_small hr.fine hsh n6) (by omega)
  have hd2 := drop_next hd
  rw [numsL_len] at hd2
  unfold dataR
  rw [if_neg n6, ← a5, hnums]
  simp only [List.nil_append]
  rw [dataM]
  by_cases h33 : r.f1 = 33
  · have a0 : r.f6 = [] := List.length_eq_zero_iff.1 ((by rw [h33] at a6; exact a6.resolve_right (by omega)))
    obtain ⟨s, hs⟩ := len_one (by rw [h33] at a4; exact a4)
    have hnm := names_all hn4 s (by rw [hs]; simp)
    have hW := isName_W hnm
    rw [hs, a0] at hd2 hpl
    simp only [List.flatMap_cons, List.flatMap_nil, List.append_nil, List.nil_append] at hd2
    simp only [sumS_cons, sumS_nil, List.flatMap_nil, List.length_nil, Nat.add_zero] at hpl
    obtain ⟨a, ha⟩ : ∃ a : Nat, p.length + 2 * r.f5.length = a := ⟨_, rfl⟩
    rw [ha] at hd2 ⊢
    have hrd := Rd.of_name (bytesOf S) a _ s a R hW.1 hd2 (by rw [bytesOf_length]; omega)
    have hbr := bare_w (S := S) _ s a R [] 257 hW.1 hd2 (by simp; omega) (by omega)
    rw [h33, hs, a0]
    have hw : withinF S 33 (a : Int) (en : Int) = .ok (bytesOf s, ((a + s.size : Nat) : Int)) := by
      unfold withinF endsF
      rw [hrd.ends rfl _ (en : Int) (by omega) (by omega), if_neg (by decide), if_pos rfl]
      exact hbr
    have hn : namesR S 33 (en : Int) (shapeOf 33).1 [] (a : Int) = .ok ([s], ((a + s.size : Nat) : Int)) := by
      show namesR S 33 (en : Int) 1 [] (a : Int) = _
      rw [namesR, hw]
      simp only [tb_str]
      rfl
    rw [hn]
    simp only []
    rw [dataN]
    rw [if_neg (by decide)]
    unfold dataT
    rw [if_neg (by decide), if_neg (by decide), data_end _ _ _ _ (by omega)]
    congr 2
    omega
  · have hf := shape_free hp h33
    rw [hf] at a4 a5 a6
    have b4 : r.f4 = [] := List.length_eq_zero_iff.1 a4
    have b5 : r.f5 = [] := List.length_eq_zero_iff.1 a5
    rw [b4, b5] at hd2 hpl
    simp only [List.flatMap_nil, List.nil_append, List.length_nil, Nat.mul_zero, Nat.add_zero, Nat.zero_add, sumS_nil] at hd2 hpl
    rw [hf, b4, b5]
    have hn : namesR S r.f1 (en : Int) ((0, 0, 1) : Nat × Nat × Nat).1 [] ((p.length + 2 * ([] : List Int).length : Nat) : Int) = .ok ([], (p.length : Int)) := rfl
    rw [hn]
    simp only []
    rw [dataN]
    rw [if_neg n6]
    unfold dataT
    by_cases h16 : r.f1 = 16
    · rw [if_pos h16]
      have e1 : textL r = fun s => (s.size : Int) % 256 :: bytesOf s := by
        funext s
        unfold textL
        rw [if_pos h16]
        rfl
      rw [e1] at hd2 hpl
      rw [texts_w r.f6 p.length [] _ R (by omega) hd2 (texts_small hsh h16) (by omega) (by omega)]
      simp only [List.nil_append]
      exact data_end _ _ _ _ rfl
    · rw [if_neg h16, hf, if_pos (by decide)]
      obtain ⟨s, hs⟩ := len_one (a6.resolve_right (fun e => h16 e.1))
      have e1 : textL r s = bytesOf s := by
        unfold textL
        rw [if_neg h16]
        rfl
      rw [hs] at hd2 hpl
      simp only [List.flatMap_cons, List.flatMap_nil, List.append_nil, e1, bytesOf_length] at hd2 hpl
      rw [show (en : Int) - (p.length : Int) = (s.size : Int) by omega, part_w hd2 (by omega), hs]
      simp only []
      exact data_end _ _ _ _ rfl
theorem data_pointed {S : ByteArray} {L R : List Int} (hS : bytesOf S = L) {p : WS} (hg : GoodK p) {r : Rec} (hr : Right r) (hp : ¬ pointedB r.f1 = false) (hL : L = (dataF p r).1 ++ R) :
    dataR S r.f1 ((dataF p r).1.length : Int) (p.1.length : Int) = .ok ((r.f4, r.f5, r.f6), ((dataF p r).1.length : Int)) ∧ GoodK (dataF p r) := by
  obtain ⟨hsm, _, hn0, hn4, hsh⟩ := check_small hr.fine hr.ok
  obtain ⟨a4, a5, a6, a7, a8⟩ := shaped_parts hsh
  have hk := pointed_of hp
  have hz : ∀ k : Int, k = 2 ∨ k = 5 ∨ k = 12 ∨ k = 6 ∨ k = 15 → (shapeOf k).2.2 = 0 ∧ ¬ (shapeOf k).1 + (shapeOf k).2.1 = 0 := by
    rintro k (rfl | rfl | rfl | rfl | rfl) <;> decide
  have a0 : r.f6 = [] := List.length_eq_zero_iff.1 (by
    rw [(hz _ hk).1] at a6
    exact a6.resolve_right (fun e => by omega))
  have hsh0 := (hz _ hk).2
  have m4 := names_all hn4
  have n16 : r.f1 ≠ 16 := by omega
  have n33 : r.f1 ≠ 33 := by omega
  by_cases h6 : r.f1 = 6
  · have hD : dataF p r = ((r.f4.foldl nameN p).1 ++ r.f5.flatMap (fun n => putL n 4), (r.f4.foldl nameN p).2) := by
      unfold dataF
      rw [if_neg hp]
      simp only [if_neg (show ¬ r.f1 = 15 by omega), if_pos h6]
    rw [hD] at hL ⊢
    simp only [] at hL ⊢
    obtain ⟨en, hen⟩ : ∃ en : Nat, ((r.f4.foldl nameN p).1 ++ r.f5.flatMap (fun n => putL n 4)).length = en := ⟨_, rfl⟩
    rw [hen]
    rw [List.length_append, numsL_len] at hen
    obtain ⟨e1, e2⟩ := names_w hS n33 (en := (en : Int)) r.f4 p [] _ hg m4 (by rw [hL, List.append_assoc]) (by omega)
    refine ⟨?_, app_K e2 _⟩
    have hd : (bytesOf S).drop (r.f4.foldl nameN p).1.length = r.f5.flatMap (fun n => putL n 4) ++ R := by rw [hS, hL]; simp
    have hnums : numsR S 4 (en : Int) r.f5.length [] ((r.f4.foldl nameN p).1.length : Int) = .ok ([] ++ r.f5, (((r.f4.foldl nameN p).1.length + 4 * r.f5.length : Nat) : Int)) :=
      nums_w (S := S) (z := 4) (B := 4294967295) (en := (en : Int)) (by decide) (fun a x R h hx => get4p h hx) r.f5 _ [] R hd (nums_wide hr.fine) (by omega)
    unfold dataR
    rw [if_pos h6]
    rw [dataM]
    rw [← a4, e1]
    simp only [List.nil_append]
    rw [dataN]
    rw [if_pos h6, ← a5, hnums]
    simp only [List.nil_append]
    unfold dataT
    rw [if_neg n16, if_neg hsh0, a0, data_end _ _ _ _ (by omega), hen]
  · obtain ⟨p1, hp1, hD⟩ : ∃ p1 : WS, p1 = (p.1 ++ r.f5.flatMap (fun n => putL n 2), p.2) ∧ dataF p r = r.f4.foldl nameN p1 := by
      refine ⟨_, rfl, ?_⟩
      unfold dataF
      rw [if_neg hp]
      simp only [if_neg h6]
      by_cases h15 : r.f1 = 15
      · obtain ⟨x, hx⟩ := len_one (by rw [h15] at a5; exact a5)
        simp only [if_pos h15, hx, List.getD_cons_zero, List.flatMap_cons, List.flatMap_nil, List.append_nil]
      · have hz5 : ∀ k : Int, k = 2 ∨ k = 5 ∨ k = 12 ∨ k = 6 ∨ k = 15 → k ≠ 15 → k ≠ 6 → (shapeOf k).2.1 = 0 := by
          rintro k (rfl | rfl | rfl | rfl | rfl) h h'
          · rfl
          · rfl
          · rfl
          · exact absurd rfl h'
          · exact absurd rfl h
        have c0 : r.f5 = [] := List.length_eq_zero_iff.1 (a5.trans (hz5 _ hk h15 h6))
        simp only [if_neg h15, c0, List.flatMap_nil, List.append_nil]
    rw [hD] at hL ⊢
    have hg1 : GoodK p1 := by rw [hp1]; exact app_K hg _
    have hl1 : p1.1.length = p.1.length + 2 * r.f5.length := by rw [hp1]; simp only [List.length_append, numsL_len]
    obtain ⟨T, hT⟩ := foldl_pre r.f4 p1
    obtain ⟨en, hen⟩ : ∃ en : Nat, (r.f4.foldl nameN p1).1.length = en := ⟨_, rfl⟩
    have hen2 := hen
    rw [hT, List.length_append] at hen2
    obtain ⟨e1, e2⟩ := names_w hS n33 (en := (en : Int)) r.f4 p1 [] R hg1 m4 hL (by omega)
    refine ⟨?_, e2⟩
    rw [hen] at e1 ⊢
    have hd : (bytesOf S).drop p.1.length = r.f5.flatMap (fun n => putL n 2) ++ (T ++ R) := by rw [hS, hL, hT, hp1]; simp
    have hnums : numsR S 2 (en : Int) r.f5.length [] (p.1.length : Int) = .ok ([] ++ r.f5, ((p.1.length + 2 * r.f5.length : Nat) : Int)) :=
      nums_w (S := S) (z := 2) (B := 65535) (en := (en : Int)) (by decide) (fun a x R h hx => get2p h hx) r.f5 p.1.length [] _ hd (nums_small hr.fine hsh h6) (by omega)
    unfold dataR
    rw [if_neg h6, ← a5, hnums]
    simp only [List.nil_append]
    rw [dataM]
    rw [← hl1, ← a4, e1]
    simp only [List.nil_append]
    rw [dataN]
    rw [if_neg h6]
    unfold dataT
    rw [if_neg n16, if_neg hsh0, a0, data_end _ _ _ _ rfl]
theorem data_w {S : ByteArray} {L R : List Int} (hS : bytesOf S = L) {p : WS} (hg : GoodK p) {r : Rec} (hr : Right r) (hL : L = (dataF p r).1 ++ R) :
    dataR S r.f1 ((dataF p r).1.length : Int) (p.1.length : Int) = .ok ((r.f4, r.f5, r.f6), ((dataF p r).1.length : Int)) ∧ GoodK (dataF p r) := by
  by_cases hp : pointedB r.f1 = false
  · have hD : dataF p r = (p.1 ++ plainL r, p.2) := by
      unfold dataF
      rw [if_pos hp, bytes_plain hr]
    rw [hD] at hL ⊢
    exact ⟨data_plain hS hr hp hL, app_K hg _⟩
  · exact data_pointed hS hg hr hp hL
theorem nameF_two (f : Nat) : ∀ (out out' : List Int) (m : MM) (s : ByteArray), out.length = out'.length → (nameF f out m s).2 = (nameF f out' m s).2 := by
  induction f with
  | zero => intro out out' m s _; rfl
  | succ f ih =>
    intro out out' m s h
    unfold nameF
    by_cases h1 : s.size ≤ 1
    · rw [if_pos h1, if_pos h1]
    · rw [if_neg h1, if_neg h1]
      cases m s.data.toList with
      | some a => rfl
      | none =>
        simp only []
        rw [h]
        exact ih _ _ _ _ (by rw [List.length_append, List.length_append, h])
theorem foldl_any (l : List ByteArray) : ∀ (o o' : List Int) (m : MM), o.length = o'.length → ∃ T, (l.foldl nameN (o, m)).1 = o ++ T ∧ (l.foldl nameN (o', m)).1 = o' ++ T ∧ (l.foldl nameN (o, m)).2 = (l.foldl nameN (o', m)).2 := by
  induction l with
  | nil => intro o o' m h; exact ⟨[], by simp, by simp, rfl⟩
  | cons s l ih =>
    intro o o' m h
    have h1 : (nameN (o, m) s).1 = o ++ nameB (s.size + 1) m s := nameF_out _ _ _ _
    have h2 : (nameN (o', m) s).1 = o' ++ nameB (s.size + 1) m s := nameF_out _ _ _ _
    have h3 : (nameN (o, m) s).2 = (nameN (o', m) s).2 := nameF_two _ _ _ _ _ h
    obtain ⟨T, t1, t2, t3⟩ := ih (o ++ nameB (s.size + 1) m s) (o' ++ nameB (s.size + 1) m s) (nameN (o', m) s).2 (by rw [List.length_append, List.length_append, h])
    have e1 : nameN (o, m) s = (o ++ nameB (s.size + 1) m s, (nameN (o', m) s).2) := Prod.ext h1 h3
    have e2 : nameN (o', m) s = (o' ++ nameB (s.size + 1) m s, (nameN (o', m) s).2) := Prod.ext h2 rfl
    rw [List.foldl_cons, List.foldl_cons, e1, e2]
    exact ⟨nameB (s.size + 1) m s ++ T, by rw [t1, List.append_assoc], by rw [t2, List.append_assoc], t3⟩
theorem dataF_any (o o' : List Int) (m : MM) (r : Rec) (h : o.length = o'.length) : ∃ T, (dataF (o, m) r).1 = o ++ T ∧ (dataF (o', m) r).1 = o' ++ T ∧ (dataF (o, m) r).2 = (dataF (o', m) r).2 := by
  unfold dataF
  by_cases hp : pointedB r.f1 = false
  · rw [if_pos hp, if_pos hp]
    exact ⟨_, rfl, rfl, rfl⟩
  · rw [if_neg hp, if_neg hp]
    simp only []
    by_cases h15 : r.f1 = 15
    · have n6 : ¬ r.f1 = 6 := by omega
      simp only [if_pos h15, if_neg n6]
      obtain ⟨T, t1, t2, t3⟩ := foldl_any r.f4 (o ++ putL (r.f5.getD 0 0) 2) (o' ++ putL (r.f5.getD 0 0) 2) m (by rw [List.length_append, List.length_append, h])
      exact ⟨putL (r.f5.getD 0 0) 2 ++ T, by rw [t1, List.append_assoc], by rw [t2, List.append_assoc], t3⟩
    · simp only [if_neg h15]
      obtain ⟨T, t1, t2, t3⟩ := foldl_any r.f4 o o' m h
      by_cases h6 : r.f1 = 6
      · simp only [if_pos h6]
        exact ⟨T ++ r.f5.flatMap (fun n => putL n 4), by rw [t1, List.append_assoc], by rw [t2, List.append_assoc], t3⟩
      · simp only [if_neg h6]
        exact ⟨T, t1, t2, t3⟩
theorem recordF_eq (p : WS) (r : Rec) : ∃ n : Nat, (n : Int) + (headF p r).1.length + 2 = (recordF p r).1.length ∧ recordF p r = dataF ((headF p r).1 ++ putL (n : Int) 2, (headF p r).2) r := by
  obtain ⟨D, d1, d2⟩ := recordF_out p r
  obtain ⟨T, t1, t2, t3⟩ := dataF_any ((headF p r).1 ++ putL 0 2) ((headF p r).1 ++ putL (D.length : Int) 2) (headF p r).2 r (by simp only [List.length_append, putL_length])
  have hT : T = D := List.append_cancel_left (t1.symm.trans d1)
  subst hT
  refine ⟨T.length, ?_, Prod.ext ?_ ?_⟩
  · rw [d2]
    simp only [List.length_append, putL_length]
    omega
  · rw [t2, d2, List.append_assoc]
  · rw [← t3]
    rfl
theorem rec_w {S : ByteArray} {L R : List Int} (hS : bytesOf S = L) {p : WS} (hg : GoodK p) {r : Rec} (hr : Right r) (hl : (recordF p r).1.length ≤ 65535) (hL : L = (recordF p r).1 ++ R) :
    recR S (p.1.length : Int) = .ok (r, ((recordF p r).1.length : Int)) ∧ GoodK (recordF p r) := by
  obtain ⟨hsm, _, hn0, hn4, hsh⟩ := check_small hr.fine hr.ok
  have hw := hr.wf
  obtain ⟨h1, h2⟩ := nameN_K hg hn0
  have hgh : GoodK (headF p r) := app_K (app_K (app_K h2 _) _) _
  obtain ⟨n, hn, he⟩ := recordF_eq p r
  obtain ⟨f1, f2⟩ := data_w hS (p := ((headF p r).1 ++ putL (n : Int) 2, (headF p r).2)) (app_K hgh _) hr (R := R) (by rw [hL, he])
  obtain ⟨T, t1, _, _⟩ := dataF_any ((headF p r).1 ++ putL (n : Int) 2) ((headF p r).1 ++ putL (n : Int) 2) (headF p r).2 r rfl
  rw [← he] at f1 f2 t1
  refine ⟨?_, f2⟩
  obtain ⟨N, hN⟩ : ∃ N, (nameN p r.f0).1 = N := ⟨_, rfl⟩
  have hh : (headF p r).1 = N ++ putL r.f1 2 ++ putL r.f2 2 ++ putL r.f3 4 := by rw [← hN]; rfl
  have hd : L = N ++ (putL r.f1 2 ++ (putL r.f2 2 ++ (putL r.f3 4 ++ (putL (n : Int) 2 ++ (T ++ R))))) := by
    rw [hL, t1, hh]
    simp only [List.append_assoc]
  have hlh : (headF p r).1.length = N.length + 2 + 2 + 4 := by rw [hh]; simp only [List.length_append, putL_length]
  have d1 : (bytesOf S).drop N.length = putL r.f1 2 ++ (putL r.f2 2 ++ (putL r.f3 4 ++ (putL (n : Int) 2 ++ (T ++ R)))) := by rw [hS, hd]; simp
  have d2 := drop_next d1
  rw [putL_length] at d2
  have d3 := drop_next d2
  rw [putL_length] at d3
  have d4 := drop_next d3
  rw [putL_length] at d4
  have hsz : S.size = (recordF p r).1.length + R.length := by
    have := congrArg List.length hL
    rw [List.length_append, ← hS, bytesOf_length] at this
    exact this
  rw [hN] at h1
  unfold recR
  rw [nameAt_of hS (by rw [hd]; exact h1.ext _) (Nat.le_refl _) hn0]
  simp only []
  rw [get2p d1 ⟨hw.t0, hw.t1⟩]
  simp only []
  rw [show (N.length : Int) + 2 = ((N.length + 2 : Nat) : Int) by omega, get2p d2 ⟨hw.c0, hw.c1⟩]
  simp only []
  rw [show ((N.length + 2 : Nat) : Int) + 2 = ((N.length + 2 + 2 : Nat) : Int) by omega, get4p d3 ⟨hw.l0, hw.l1⟩]
  simp only []
  rw [show ((N.length + 2 + 2 : Nat) : Int) + 4 = ((N.length + 2 + 2 + 4 : Nat) : Int) by omega, get2p d4 (by omega)]
  simp only []
  rw [if_neg (by omega)]
  have e1 : ((N.length + 2 + 2 + 4 : Nat) : Int) + 2 = ((((headF p r).1 ++ putL (n : Int) 2, (headF p r).2) : WS).1.length : Int) := by
    simp only [List.length_append, putL_length]
    omega
  have e2 : ((((headF p r).1 ++ putL (n : Int) 2, (headF p r).2) : WS).1.length : Int) + (n : Int) = ((recordF p r).1.length : Int) := by
    simp only [List.length_append, putL_length]
    omega
  rw [e1, e2, f1]
  simp only [tb_str]
  exact if_pos hr.ok
theorem recs_w {S : ByteArray} {L : List Int} (hS : bytesOf S = L) (l : List Rec) : ∀ (p q : WS) (out : List Rec) (R : List Int), GoodK p → (∀ r ∈ l, Right r) → recsF l p = some q → L = q.1 ++ R →
    recsR S l.length out (p.1.length : Int) = .ok (out ++ l, (q.1.length : Int)) ∧ GoodK q := by
  induction l with
  | nil =>
    intro p q out R hg _ h _
    obtain rfl := Option.some.inj h
    exact ⟨by simp [recsR], hg⟩
  | cons r l ih =>
    intro p q out R hg hr h hL
    unfold recsF at h
    by_cases hc : 65535 < (recordF p r).1.length
    · rw [if_pos hc] at h
      exact absurd h (by simp)
    rw [if_neg hc] at h
    obtain ⟨T, hT⟩ := recsF_pre _ _ _ h
    obtain ⟨e1, e2⟩ := rec_w hS hg (hr r (by simp)) (by omega) (R := T ++ R) (by rw [hL, hT, List.append_assoc])
    obtain ⟨e3, e4⟩ := ih (recordF p r) q (out ++ [r]) R e2 (fun x hx => hr x (by simp [hx])) h hL
    refine ⟨?_, e4⟩
    rw [List.length_cons, recsR, e1]
    simp only []
    rw [e3]
    simp
theorem recsF_app (l l' : List Rec) : ∀ (p q : WS), recsF (l ++ l') p = some q → ∃ p1, recsF l p = some p1 ∧ recsF l' p1 = some q := by
  induction l with
  | nil => intro p q h; exact ⟨p, rfl, h⟩
  | cons r l ih =>
    intro p q h
    rw [List.cons_append] at h
    rw [recsF] at h ⊢
    by_cases hc : 65535 < (recordF p r).1.length
    · rw [if_pos hc] at h
      exact absurd h (by simp)
    rw [if_neg hc] at h ⊢
    exact ih _ _ h
theorem cnt_w {S : ByteArray} (l : List Int) : ∀ (a : Nat) (out R : List Int), (bytesOf S).drop a = l.flatMap (fun n => putL n 2) ++ R → (∀ x ∈ l, 0 ≤ x ∧ x ≤ 65535) →
    cntR S l.length out (a : Int) = .ok (out ++ l, ((a + 2 * l.length : Nat) : Int)) := by
  induction l with
  | nil => intro a out R _ _; simp [cntR]
  | cons x l ih =>
    intro a out R hd hx
    rw [List.flatMap_cons, List.append_assoc] at hd
    have hd2 := drop_next hd
    rw [putL_length] at hd2
    rw [List.length_cons, cntR, get2p hd (hx x (by simp))]
    simp only []
    rw [show (a : Int) + 2 = ((a + 2 : Nat) : Int) by omega, ih (a + 2) (out ++ [x]) R hd2 (fun y hy => hx y (by simp [hy]))]
    congr 2
    · simp
    · omega
theorem write_read {m : Msg} {S : ByteArray} (hm : MsgOk m) (h : writeM m = (S, 0)) : readF S = (m, 0) ∧ S.size ≤ 65535 := by
  obtain ⟨c1, q, q1, q2, q3⟩ := write_out h
  obtain ⟨hq, hr⟩ := msg_right hm c1
  have hn := (check_parts c1).1
  have hS : bytesOf S = q.1 := by rw [← q3, bytes_str (recsF_byt _ _ _ (quesAll_byt m) q1)]
  have hsz : S.size = q.1.length := by rw [← bytesOf_length S, hS]
  obtain ⟨pb, b1, b2⟩ := recsF_app _ _ _ _ q1
  obtain ⟨pa, a1, a2⟩ := recsF_app _ _ _ _ b1
  obtain ⟨tb, htb⟩ := recsF_pre _ _ _ b2
  obtain ⟨ta, hta⟩ := recsF_pre _ _ _ a2
  obtain ⟨t0, ht0⟩ := recsF_pre _ _ _ a1
  obtain ⟨u, hu⟩ := ques_pre m.qs ((numsOf m).flatMap (fun n => putL n 2), fun _ => none)
  have hg0 : GoodK (((numsOf m).flatMap (fun n => putL n 2), fun _ => none) : WS) := fun t v hv => absurd hv (by simp)
  obtain ⟨x1, x2⟩ := quess_w hS m.qs _ [] (t0 ++ (ta ++ tb)) hg0 hq (by rw [htb, hta, ht0]; simp only [List.append_assoc]; rfl)
  obtain ⟨y1, y2⟩ := recs_w hS m.ans (quesAll m) pa [] (ta ++ tb) x2 (fun r hr' => hr r (by simp [hr'])) a1 (by rw [htb, hta, List.append_assoc])
  obtain ⟨y3, y4⟩ := recs_w hS m.auth pa pb [] tb y2 (fun r hr' => hr r (by simp [hr'])) a2 htb
  obtain ⟨y5, y6⟩ := recs_w hS m.add pb q [] [] y4 (fun r hr' => hr r (by simp [hr'])) b2 (by simp)
  refine ⟨?_, by omega⟩
  have hall : q.1 = (numsOf m).flatMap (fun n => putL n 2) ++ (u ++ (t0 ++ (ta ++ tb))) := by
    rw [htb, hta, ht0, show (quesAll m).1 = _ from hu]
    simp only [List.append_assoc]
  have hfl : (numsOf m).flatMap (fun n => putL n 2) = putL m.id 2 ++ (putL m.flags 2 ++ ([(m.qs.length : Int), (m.ans.length : Int), (m.auth.length : Int), (m.add.length : Int)].flatMap (fun n => putL n 2))) := by
    unfold numsOf
    rw [List.flatMap_cons, List.flatMap_cons]
  have d0 : (bytesOf S).drop 0 = putL m.id 2 ++ (putL m.flags 2 ++ ([(m.qs.length : Int), (m.ans.length : Int), (m.auth.length : Int), (m.add.length : Int)].flatMap (fun n => putL n 2) ++ (u ++ (t0 ++ (ta ++ tb))))) := by
    rw [hS, hall, hfl, List.drop_zero]
    simp only [List.append_assoc]
  have d1 := drop_next d0
  rw [putL_length] at d1
  have d2 := drop_next d1
  rw [putL_length] at d2
  have g0 : getF S 0 2 = some m.id := get2p (a := 0) d0 ⟨hm.id0, hm.id1⟩
  have g1 : getF S 2 2 = some m.flags := get2p (a := 2) d1 ⟨hm.fl0, hm.fl1⟩
  have g2 : cntR S 4 [] 4 = .ok ([(m.qs.length : Int), (m.ans.length : Int), (m.auth.length : Int), (m.add.length : Int)], 12) := by
    refine cnt_w (S := S) [(m.qs.length : Int), (m.ans.length : Int), (m.auth.length : Int), (m.add.length : Int)] 4 [] _ d2 ?_
    intro x hx
    simp only [List.mem_cons, List.not_mem_nil, or_false] at hx
    rcases hx with rfl | rfl | rfl | rfl <;> omega
  have h12 : (((numsOf m).flatMap (fun n => putL n 2), fun _ => none) : WS).1.length = 12 := by
    show ((numsOf m).flatMap (fun n => putL n 2)).length = 12
    rw [numsL_len]
    rfl
  rw [h12] at x1
  have hmsg : msgR S = .ok (m, (q.1.length : Int)) := by
    unfold msgR
    rw [g0]
    simp only []
    rw [g1]
    simp only []
    rw [g2]
    simp only []
    rw [msgA]
    rw [if_neg (by simp; omega)]
    rw [show (List.getD [(m.qs.length : Int), (m.ans.length : Int), (m.auth.length : Int), (m.add.length : Int)] 0 0).toNat = m.qs.length from Int.toNat_natCast _]
    rw [show quessR S m.qs.length [] (12 : Int) = _ from x1]
    simp only [List.nil_append]
    rw [msgB]
    rw [show (List.getD [(m.qs.length : Int), (m.ans.length : Int), (m.auth.length : Int), (m.add.length : Int)] 1 0).toNat = m.ans.length from Int.toNat_natCast _]
    rw [show recsR S m.ans.length [] ((List.foldl quesF ((numsOf m).flatMap (fun n => putL n 2), fun _ => none) m.qs).1.length : Int) = _ from y1]
    simp only [List.nil_append]
    rw [msgC]
    rw [show (List.getD [(m.qs.length : Int), (m.ans.length : Int), (m.auth.length : Int), (m.add.length : Int)] 2 0).toNat = m.auth.length from Int.toNat_natCast _, y3]
    simp only [List.nil_append]
    rw [msgD]
    rw [show (List.getD [(m.qs.length : Int), (m.ans.length : Int), (m.auth.length : Int), (m.add.length : Int)] 3 0).toNat = m.add.length from Int.toNat_natCast _, y5]
    simp only [List.nil_append]
    rw [msgE]
    rw [if_neg (by omega)]
  unfold readF
  rw [if_neg (by omega), hmsg]
end Go.Proofs.Ytbbeikdbioelgaa.M
set_option linter.unusedVariables false
set_option linter.unusedSimpArgs false
namespace Go.Proofs.Ytbbeikdbioelgaa.M
open Go.RowKit Go.Maps Go.Proofs.YtbbeikdbioelgaaW.PrintWords Go.Proofs.YtbbeikdbioelgaaW.PrintLast Go.Proofs.YtbbeikdbioelgaaW.PrintMore
attribute [local go_sem] max2_int min2_int max_two min_two max_three min_three max_four min_four
attribute [local go_sem ↓] Go.wp_at_zero Go.wp_at_succ
theorem total_ok {r : Rec} (h : checkF r = 0) : ¬ 65535 < total r := by
  rw [checkF_eq] at h
  intro c
  by_cases k1 : isName r.f0 = false
  · rw [if_pos k1] at h; exact absurd h (by decide)
  rw [if_neg k1] at h
  by_cases k2 : r.f4.any notName = true
  · rw [if_pos k2] at h; exact absurd h (by decide)
  rw [if_neg k2] at h
  by_cases k3 : shapedB r = false
  · rw [if_pos k3] at h; exact absurd h (by decide)
  rw [if_neg k3, if_pos c] at h
  exact absurd h (by decide)
set_option maxHeartbeats 2000000 in
set_option maxRecDepth 100000 in
theorem Plain5_calls (r : Rec) (v : Value) (w : World) (hv : RecAt w v r) (hF : Fine r) (h0 : r.f0.size ≤ 140737488351232) :
    Calls Try.prog 54 #[v] w fun e w' => e = .returned (.string (plainS r)) ∧ Below w.heap.size w w' := by
  have HV := Aside0.mk hv
  obtain ⟨A4, c4, A5, c5, A6, c6, rfl, l4, g4, l5, g5, l6, g6⟩ := hv
  have HF := Aside0.mk hF
  have HZ := Lib.hid h0
  obtain ⟨R, hR⟩ : ∃ R, plainS r = R := ⟨_, rfl⟩
  rw [hR]
  unfold plainS at hR
  obtain ⟨n, hn⟩ : ∃ n, checkF r = n := ⟨_, rfl⟩
  rw [hn] at hR
  have HN := Lib.hid hn
  clear g4 g5 g6 hF h0
  by_cases k : n = 0
  · subst k
    rw [if_pos rfl] at hR
    have HE := Lib.hid (show plain5E r = .returned (.tuple #[.string R, .bool true]) by unfold plain5E; rw [if_neg (total_ok hn), hR])
    clear hR hn
    go_enter Try.func54, Try.ntmps54
    go_wp2_with (((with_reducible refine gate_dst (N := 1) rfl ?_); refine box_event rfl (N := 1) rfl (cs := #[.string r.f0, .int .u16 r.f1, .int .u16 r.f2, .int .u32 r.f3, .slice A4 r.f4.length c4, .slice A5 r.f5.length c5, .slice A6 r.f6.length c6]) (t := 44) (by first | (go_simp; done) | (go_simp; rfl)) ?_; intro g hg w1 hbox hb); have HX := Aside0.mk hbox; have HB := Aside0.mk hb; have HGe := Aside0.mk hg; clear hb hg; have z0 : w1.cell? ⟨g, 0, none⟩ = some (.string r.f0) := (blk_cell HX.out 0).trans rfl; clear hbox; have z1 : w1.cell? ⟨g, 1, none⟩ = some (.int .u16 r.f1) := (blk_cell HX.out 1).trans rfl; have z2 : w1.cell? ⟨g, 2, none⟩ = some (.int .u16 r.f2) := (blk_cell HX.out 2).trans rfl; have z3 : w1.cell? ⟨g, 3, none⟩ = some (.int .u32 r.f3) := (blk_cell HX.out 3).trans rfl; have z4 : w1.cell? ⟨g, 4, none⟩ = some (.slice A4 r.f4.length c4) := (blk_cell HX.out 4).trans rfl; have z5 : w1.cell? ⟨g, 5, none⟩ = some (.slice A5 r.f5.length c5) := (blk_cell HX.out 5).trans rfl; have z6 : w1.cell? ⟨g, 6, none⟩ = some (.slice A6 r.f6.length c6) := (blk_cell HX.out 6).trans rfl)
    refine (check5_calls r _ _ (HV.out.below HB.out) HF.out HZ.out).mono ?_
    rw [HN.out]
    rintro e w2 ⟨rfl, hb⟩
    have HX2 := Aside0.mk (blk_below HX.out hb)
    have HB2 := Aside0.mk (HB.out.trans (hb.mono (below_size HB.out)))
    clear hb z0 z1 z2 z3 z4 z5 z6
    have z0 : w2.cell? ⟨g, 0, none⟩ = some (.string r.f0) := (blk_cell HX2.out 0).trans rfl
    have z1 : w2.cell? ⟨g, 1, none⟩ = some (.int .u16 r.f1) := (blk_cell HX2.out 1).trans rfl
    have z2 : w2.cell? ⟨g, 2, none⟩ = some (.int .u16 r.f2) := (blk_cell HX2.out 2).trans rfl
    have z3 : w2.cell? ⟨g, 3, none⟩ = some (.int .u32 r.f3) := (blk_cell HX2.out 3).trans rfl
    have z4 : w2.cell? ⟨g, 4, none⟩ = some (.slice A4 r.f4.length c4) := (blk_cell HX2.out 4).trans rfl
    have z5 : w2.cell? ⟨g, 5, none⟩ = some (.slice A5 r.f5.length c5) := (blk_cell HX2.out 5).trans rfl
    have z6 : w2.cell? ⟨g, 6, none⟩ = some (.slice A6 r.f6.length c6) := (blk_cell HX2.out 6).trans rfl
    go_wp2_with fail
    refine (plain5_calls r _ _ (HV.out.below HB2.out) HF.out).mono ?_
    rw [HE.out]
    rintro e w3 ⟨rfl, hb⟩
    have HB3 := Aside0.mk (below_step HB2.out hb)
    clear hb
    go_wp2_with fail
    go_ret
    exact ⟨rfl, HB3.out⟩
  · rw [if_neg k] at hR
    subst hR
    have hne : (n != 0) = true := by rw [bne_iff_ne]; exact k
    clear hn k
    go_enter Try.func54, Try.ntmps54
    go_wp2_with (((with_reducible refine gate_dst (N := 1) rfl ?_); refine box_event rfl (N := 1) rfl (cs := #[.string r.f0, .int .u16 r.f1, .int .u16 r.f2, .int .u32 r.f3, .slice A4 r.f4.length c4, .slice A5 r.f5.length c5, .slice A6 r.f6.length c6]) (t := 44) (by first | (go_simp; done) | (go_simp; rfl)) ?_; intro g hg w1 hbox hb); have HX := Aside0.mk hbox; have HB := Aside0.mk hb; have HGe := Aside0.mk hg; clear hb hg; have z0 : w1.cell? ⟨g, 0, none⟩ = some (.string r.f0) := (blk_cell HX.out 0).trans rfl; clear hbox; have z1 : w1.cell? ⟨g, 1, none⟩ = some (.int .u16 r.f1) := (blk_cell HX.out 1).trans rfl; have z2 : w1.cell? ⟨g, 2, none⟩ = some (.int .u16 r.f2) := (blk_cell HX.out 2).trans rfl; have z3 : w1.cell? ⟨g, 3, none⟩ = some (.int .u32 r.f3) := (blk_cell HX.out 3).trans rfl; have z4 : w1.cell? ⟨g, 4, none⟩ = some (.slice A4 r.f4.length c4) := (blk_cell HX.out 4).trans rfl; have z5 : w1.cell? ⟨g, 5, none⟩ = some (.slice A5 r.f5.length c5) := (blk_cell HX.out 5).trans rfl; have z6 : w1.cell? ⟨g, 6, none⟩ = some (.slice A6 r.f6.length c6) := (blk_cell HX.out 6).trans rfl)
    refine (check5_calls r _ _ (HV.out.below HB.out) HF.out HZ.out).mono ?_
    rw [HN.out]
    rintro e w2 ⟨rfl, hb⟩
    have HX2 := Aside0.mk (blk_below HX.out hb)
    have HB2 := Aside0.mk (HB.out.trans (hb.mono (below_size HB.out)))
    clear hb z0 z1 z2 z3 z4 z5 z6
    have z0 : w2.cell? ⟨g, 0, none⟩ = some (.string r.f0) := (blk_cell HX2.out 0).trans rfl
    have z1 : w2.cell? ⟨g, 1, none⟩ = some (.int .u16 r.f1) := (blk_cell HX2.out 1).trans rfl
    have z2 : w2.cell? ⟨g, 2, none⟩ = some (.int .u16 r.f2) := (blk_cell HX2.out 2).trans rfl
    have z3 : w2.cell? ⟨g, 3, none⟩ = some (.int .u32 r.f3) := (blk_cell HX2.out 3).trans rfl
    have z4 : w2.cell? ⟨g, 4, none⟩ = some (.slice A4 r.f4.length c4) := (blk_cell HX2.out 4).trans rfl
    have z5 : w2.cell? ⟨g, 5, none⟩ = some (.slice A5 r.f5.length c5) := (blk_cell HX2.out 5).trans rfl
    have z6 : w2.cell? ⟨g, 6, none⟩ = some (.slice A6 r.f6.length c6) := (blk_cell HX2.out 6).trans rfl
    go_wp2_with fail
    go_ret
    exact ⟨rfl, HB2.out⟩
def sumN {α : Type} (f : α → Nat) (l : List α) (k : Nat) : Nat := ((l.take k).map f).sum
theorem sumN_zero {α : Type} (f : α → Nat) (l : List α) : sumN f l 0 = 0 := rfl
theorem sumN_end {α : Type} (f : α → Nat) (l : List α) : sumN f l l.length = (l.map f).sum := by unfold sumN; rw [List.take_length]
theorem sumN_next {α : Type} (f : α → Nat) (z : α) (l : List α) (k : Nat) (h : k < l.length) : sumN f l (k + 1) = sumN f l k + f (l.getD k z) := by
  unfold sumN
  rw [List.take_succ_eq_append_getElem h, List.map_append, List.sum_append, List.getD_eq_getElem?_getD, List.getElem?_eq_getElem h]
  simp
theorem sumN_le {α : Type} (f : α → Nat) (B : Nat) (l : List α) (h : ∀ x ∈ l, f x ≤ B) (k : Nat) : sumN f l k ≤ B * k := by
  unfold sumN
  induction k generalizing l with
  | zero => simp
  | succ k ih =>
    cases l with
    | nil => simp
    | cons a l =>
      rw [List.take_succ_cons, List.map_cons, List.sum_cons]
      have h1 := ih l (fun x hx => h x (by simp [hx]))
      have h2 := h a (by simp)
      rw [Nat.mul_add, Nat.mul_one]
      omega
def lenQ (q : Ques) : Nat := q.f0.size + 4
def lenR (r : Rec) : Nat := r.f0.size + 10 + (plainS r).size
def plainM (m : Msg) : Nat := 12 + (m.qs.map lenQ).sum + ((m.ans ++ m.auth ++ m.add).map lenR).sum
set_option maxHeartbeats 4000000 in
set_option maxRecDepth 100000 in
theorem plain7_calls (m : Msg) (v : Value) (w : World) (hv : MsgAt w v m) (hm : MsgOk m) (hc : checkM m = 0) :
    Calls Try.prog 28 #[v] w fun e w' => e = .returned (.int .i64 (plainM m : Nat)) ∧ Below w.heap.size w w' := by
  have HV := Aside0.mk hv
  obtain ⟨A2, c2, A3, c3, A4, c4, A5, c5, rfl, l2, g2, l3, g3, l4, g4, l5, g5⟩ := hv
  have G2 := Aside0.mk g2
  obtain ⟨p1, p2, p3⟩ := check_parts hc
  obtain ⟨R, hR⟩ : ∃ R, plainM m = R := ⟨_, rfl⟩
  rw [hR]
  have HR := Lib.hid hR
  have HP2 := Lib.hid p2
  have HP3 := Lib.hid p3
  have HM := Aside0.mk hm
  have HPl := Lib.hid p1
  have m2 : (m.qs.length : Int) ≤ 256 := by omega
  clear g2 g3 g4 g5 hm hc hR p2 p3 p1
  go_enter Try.func28, Try.ntmps28
  go_wp2_with (((with_reducible refine gate_dst (N := 1) rfl ?_); refine box_event rfl (N := 1) rfl (cs := #[.int .u16 m.id, .int .u16 m.flags, .slice A2 m.qs.length c2, .slice A3 m.ans.length c3, .slice A4 m.auth.length c4, .slice A5 m.add.length c5]) (t := 26) (by first | (go_simp; done) | (go_simp; rfl)) ?_; intro g hg w1 hbox hb); have HX := Aside0.mk hbox; have HB := Aside0.mk hb; have HGe := Aside0.mk hg; clear hb hg; have z0 : w1.cell? ⟨g, 0, none⟩ = some (.int .u16 m.id) := (blk_cell HX.out 0).trans rfl; have z1 : w1.cell? ⟨g, 1, none⟩ = some (.int .u16 m.flags) := (blk_cell HX.out 1).trans rfl; have z2 : w1.cell? ⟨g, 2, none⟩ = some (.slice A2 m.qs.length c2) := (blk_cell HX.out 2).trans rfl; have z3 : w1.cell? ⟨g, 3, none⟩ = some (.slice A3 m.ans.length c3) := (blk_cell HX.out 3).trans rfl; have z4 : w1.cell? ⟨g, 4, none⟩ = some (.slice A4 m.auth.length c4) := (blk_cell HX.out 4).trans rfl; have z5 : w1.cell? ⟨g, 5, none⟩ = some (.slice A5 m.add.length c5) := (blk_cell HX.out 5).trans rfl; have hlt : g < w1.heap.size := blk_lt hbox; have hlne : ¬ g = w1.heap.size := Nat.ne_of_lt hlt; clear hbox)
  go_loopg [3, 4] m.qs.length (fun kq v3 v4 w' => ∃ k : Nat, v4 = .int .i64 k ∧ v3 = .int .i64 ((12 + sumN lenQ m.qs k : Nat) : Int) ∧ Aside0 (kq + k = m.qs.length) ∧ w1 = w')
  case atStart => exact ⟨0, rfl, by rw [sumN_zero]; rfl, ⟨rfl⟩, rfl⟩
  case round =>
    obtain ⟨k, rfl, rfl, HK, rfl⟩ := hrel
    have hsm : sumN lenQ m.qs k ≤ 259 * k := sumN_le lenQ 259 m.qs (fun q hq => by
      obtain ⟨j, hj, rfl⟩ := List.getElem_of_mem hq
      have h1 := HP2.out j hj
      rw [List.getD_eq_getElem?_getD, List.getElem?_eq_getElem hj] at h1
      have := isName_size h1
      show _ + 4 ≤ 259
      exact Nat.add_le_add_right this 4) k
    cases gk with
    | zero =>
      obtain rfl : k = m.qs.length := by have := HK.out; omega
      rw [sumN_end] at hsm ⊢
      obtain ⟨n, hn⟩ : ∃ n, 12 + (m.qs.map lenQ).sum = n := ⟨_, rfl⟩
      rw [hn]
      have HN := Lib.hid hn
      have HNl := Lib.hid (show n ≤ 100000 by omega)
      clear hn hsm HK
      go_wp2_with fail
      refine (Records_calls m _ _ (HV.out.below HB.out) (by have := HPl.out; omega) (by have := HPl.out; omega) (by have := HPl.out; omega)).mono ?_
      rintro e w2 ⟨A, c, rfl, hlc, hlr, hb⟩
      have HB2 := Aside0.mk (below_step HB.out hb)
      obtain ⟨l, hl⟩ : ∃ l, m.ans ++ m.auth ++ m.add = l := ⟨_, rfl⟩
      rw [hl] at hlc hlr ⊢
      have HL := Lib.hid hl
      have HLR := Aside0.mk hlr
      have q0 : (l.length : Int) ≤ 256 := by have := HPl.out; rw [← hl, List.length_append, List.length_append]; omega
      clear z0 z1 z2 z3 z4 z5 hb hlr hl
      go_wp2_with fail
      go_loopg [3, 6] l.length (fun kq v3 v6 w' => ∃ k : Nat, v6 = .int .i64 k ∧ v3 = .int .i64 ((n + sumN lenR l k : Nat) : Int) ∧ Aside0 (kq + k = l.length) ∧ Aside0 (Below w2.heap.size w2 w'))
      case atStart => exact ⟨0, rfl, by rw [sumN_zero]; rfl, ⟨rfl⟩, ⟨Below.refl _ _⟩⟩
      case round =>
        obtain ⟨k, rfl, rfl, HK, HBr⟩ := hrel
        have hsm : sumN lenR l k ≤ 70000 * k := sumN_le lenR 70000 l (fun r hr => by
          rw [← HL.out] at hr
          have h2 := check_small (HM.out.fine r hr) (HP3.out r hr)
          have := isName_size h2.2.2.1
          have h3 : (plainS r).size ≤ 65535 := by unfold plainS; rw [if_pos (HP3.out r hr), strOfNums_size]; exact h2.2.1
          show _ + 10 + _ ≤ 70000
          omega) k
        cases gk with
        | zero =>
          obtain rfl : k = l.length := by have := HK.out; omega
          have HF := Lib.hid (show n + sumN lenR l l.length = R by rw [sumN_end, ← HR.out, ← HN.out, ← HL.out]; rfl)
          rw [HF.out]
          clear hsm
          go_wp2_with fail
          go_ret
          exact ⟨rfl, HB2.out.trans (HBr.out.mono HB2.out.size)⟩
        | succ j =>
          have hk : k < l.length := by have := HK.out; omega
          obtain ⟨ad, A4', c4', A5', c5', A6, c6, r, hA, hr, e0, e1, e2, e3, e4, e5, e6, hrec⟩ := at_rec (Kd.C_below HLR.out HBr.out) k hk
          subst hA
          have hin : r ∈ m.ans ++ m.auth ++ m.add := by rw [HL.out, ← hr]; exact getD_mem zRec hk
          have hck := HP3.out r hin
          have HFn := Aside0.mk (HM.out.fine r hin)
          have h2 := check_small HFn.out hck
          have hz := isName_size h2.2.2.1
          have h3 : (plainS r).size ≤ 65535 := by unfold plainS; rw [if_pos hck, strOfNums_size]; exact h2.2.1
          have hnx := sumN_next lenR zRec l k hk
          rw [hr] at hnx
          have HNx := Lib.hid (show n + sumN lenR l (k + 1) = n + sumN lenR l k + r.f0.size + 10 + (plainS r).size by rw [hnx]; unfold lenR; omega)
          obtain ⟨a, ha⟩ : ∃ a, n + sumN lenR l k = a := ⟨_, rfl⟩
          rw [ha] at HNx ⊢
          have q1 : (a : Int) ≤ 20000000 := by have := HNl.out; omega
          have q2 : (r.f0.size : Int) ≤ 255 := by omega
          obtain ⟨t, ht⟩ : ∃ t, plainS r = t := ⟨_, rfl⟩
          rw [ht] at h3 HNx
          have HT := Lib.hid ht
          have q3 : (t.size : Int) ≤ 65535 := by omega
          have q4 : (0 : Int) ≤ (k : Int) := by omega
          have q5 : (k : Int) < (l.length : Int) := by omega
          have HRec := Aside0.mk hrec
          have hw1 : IntKind.i64.wrap ((a : Int) + (r.f0.size : Int)) = (a : Int) + (r.f0.size : Int) := by rw [IntKind.wrap_i64]; omega
          have hw2 : IntKind.i64.wrap ((a : Int) + (r.f0.size : Int) + 10) = (a : Int) + (r.f0.size : Int) + 10 := by rw [IntKind.wrap_i64]; omega
          have hw3 : IntKind.i64.wrap ((a : Int) + (r.f0.size : Int) + 10 + (t.size : Int)) = (a : Int) + (r.f0.size : Int) + 10 + (t.size : Int) := by rw [IntKind.wrap_i64]; omega
          clear hsm hr hck h2 hz h3 hnx ha ht hin hrec
          go_wp2_with fail
          refine dr_start (fun w' => w'.cell? (ad.add (k * 7)) = some (.string r.f0) ∧ w'.cell? ⟨(ad.add (k * 7)).block, (ad.add (k * 7)).off + 1, none⟩ = some (.int .u16 r.f1) ∧ w'.cell? ⟨(ad.add (k * 7)).block, (ad.add (k * 7)).off + 2, none⟩ = some (.int .u16 r.f2) ∧ w'.cell? ⟨(ad.add (k * 7)).block, (ad.add (k * 7)).off + 3, none⟩ = some (.int .u32 r.f3) ∧
            w'.cell? ⟨(ad.add (k * 7)).block, (ad.add (k * 7)).off + 4, none⟩ = some (.slice A4' r.f4.length c4') ∧ w'.cell? ⟨(ad.add (k * 7)).block, (ad.add (k * 7)).off + 5, none⟩ = some (.slice A5' r.f5.length c5') ∧ w'.cell? ⟨(ad.add (k * 7)).block, (ad.add (k * 7)).off + 6, none⟩ = some (.slice A6 r.f6.length c6)) [] (by kernel_rfl) ⟨e0, e1, e2, e3, e4, e5, e6⟩ (fun hS => ?_)
          repeat (first | (refine dr_pure (by kernel_rfl) (by rfl) (fun _ _ _ h => h) (v := ?_) (a' := ?_) ?_ ?_ ?_; rotate_left 2; (focus (intro w'; go_simp; with_reducible rfl)); (focus (simp only [Act.put, List.setIfInBounds_toArray, List.set_cons_zero, List.set_cons_succ]; rfl))) | (refine dr_take (by kernel_rfl) (by rfl) (fun _ _ _ h => h) hS (v := ?_) (a' := ?_) ?_ ?_ ?_; rotate_left 2; (focus (intro w' hS'; go_simp; with_reducible rfl)); (focus (simp only [Act.put, List.setIfInBounds_toArray, List.set_cons_zero, List.set_cons_succ]; rfl))) | (refine dr_off (by kernel_rfl) (by rfl) (fun _ _ _ h => h) (a' := ?_) ?_ ?_; rotate_left; (focus (simp only [Act.put, List.setIfInBounds_toArray, List.set_cons_zero, List.set_cons_succ]; rfl))))
          refine dr_call Try.func54 (by kernel_rfl) rfl rfl (by kernel_rfl) (by kernel_rfl) (by rfl) (args := #[.agg #[.string r.f0, .int .u16 r.f1, .int .u16 r.f2, .int .u32 r.f3, .slice A4' r.f4.length c4', .slice A5' r.f5.length c5', .slice A6 r.f6.length c6]]) (by first | rfl | kernel_rfl | (simp [Act.eval]; done)) ?_
          refine (Plain5_calls r _ _ (HRec.out.below (Below.refl wr.heap.size wr).drew) HFn.out (by omega)).mono ?_
          rw [HT.out]
          rintro e w3 ⟨rfl, hb⟩
          have hb3 := undrew hb
          have HB3 := Aside0.mk (HBr.out.trans (hb3.mono HBr.out.size))
          refine .inl ⟨_, rfl, ⟨pw_cell_below hb3 e0, pw_cell_below hb3 e1, pw_cell_below hb3 e2, pw_cell_below hb3 e3, pw_cell_below hb3 e4, pw_cell_below hb3 e5, pw_cell_below hb3 e6⟩, fun hS => ?_⟩
          clear hb hb3 e0 e1 e2 e3 e4 e5 e6
          refine dr_norm (a' := ?_) ?_ ?_
          rotate_left
          · simp only [Act.put, List.setIfInBounds_toArray, List.set_cons_zero, List.set_cons_succ]; rfl
          repeat (first | (refine dr_pure (by kernel_rfl) (by rfl) (fun _ _ _ h => h) (v := ?_) (a' := ?_) ?_ ?_ ?_; rotate_left 2; (focus (intro w'; go_simp; with_reducible rfl)); (focus (simp only [Act.put, List.setIfInBounds_toArray, List.set_cons_zero, List.set_cons_succ]; rfl))) | (refine dr_take (by kernel_rfl) (by rfl) (fun _ _ _ h => h) hS (v := ?_) (a' := ?_) ?_ ?_ ?_; rotate_left 2; (focus (intro w' hS'; go_simp; with_reducible rfl)); (focus (simp only [Act.put, List.setIfInBounds_toArray, List.set_cons_zero, List.set_cons_succ]; rfl))) | (refine dr_off (by kernel_rfl) (by rfl) (fun _ _ _ h => h) (a' := ?_) ?_ ?_; rotate_left; (focus (simp only [Act.put, List.setIfInBounds_toArray, List.set_cons_zero, List.set_cons_succ]; rfl))))
          refine dr_done (by kernel_rfl) ?_
          clear hS
          go_wp2_with fail
          go_roundg j
          case measure => omega
          case rel => exact ⟨k + 1, by go_num, by rw [HNx.out]; refine congrArg (Value.int IntKind.i64) ?_; omega, ⟨by have := HK.out; omega⟩, HB3⟩
    | succ j =>
      have hk : k < m.qs.length := by have := HK.out; omega
      obtain ⟨ad, q, rfl, hq, e0, e1, e2⟩ := at_ques (Kd.C_below G2.out HB.out) k hk
      have hnx := sumN_next lenQ zQues m.qs k hk
      rw [hq] at hnx
      have hz := isName_size (by have := HP2.out k hk; rw [hq] at this; exact this)
      have HNx := Lib.hid (show 12 + sumN lenQ m.qs (k + 1) = 12 + sumN lenQ m.qs k + q.f0.size + 4 by rw [hnx]; unfold lenQ; omega)
      obtain ⟨n, hn⟩ : ∃ n, 12 + sumN lenQ m.qs k = n := ⟨_, rfl⟩
      rw [hn] at HNx ⊢
      have q1 : (n : Int) ≤ 100000 := by omega
      have q2 : (q.f0.size : Int) ≤ 255 := by omega
      have q3 : (0 : Int) ≤ (k : Int) := by omega
      have q4 : (k : Int) < (m.qs.length : Int) := by omega
      clear hsm hnx hz hn hq
      go_wp2_with fail
      go_roundg j
      case measure => omega
      case rel => exact ⟨k + 1, by go_num, by rw [HNx.out]; go_num, ⟨by have := HK.out; omega⟩, rfl⟩
end Go.Proofs.Ytbbeikdbioelgaa.M
set_option linter.unusedVariables false
set_option linter.unusedSimpArgs false
namespace Go.Proofs.Ytbbeikdbioelgaa.M
open Go.RowKit Go.Maps Go.Proofs.YtbbeikdbioelgaaW.PrintWords Go.Proofs.YtbbeikdbioelgaaW.PrintLast Go.Proofs.YtbbeikdbioelgaaW.PrintMore
theorem nameF_le (k : Nat) : ∀ (f : Nat) (out : List Int) (m : MM) (s : ByteArray), nameW k s → (nameF f out m s).1.length ≤ out.length + s.size := by
  induction k with
  | zero => intro f out m s h; exact absurd h id
  | succ k ih =>
    intro f out m s h
    have hpos := nameW_pos h
    cases f with
    | zero => simp only [nameF]; omega
    | succ f =>
      unfold nameF
      by_cases h1 : s.size ≤ 1
      · rw [if_pos h1]
        simp only [List.length_append, List.length_singleton]
        omega
      · rw [if_neg h1]
        cases m s.data.toList with
        | some a => simp only [List.length_append, putL_length]; omega
        | none =>
          simp only []
          rcases h with ⟨h2, _⟩ | ⟨h2, h3, h4, h5⟩
          · omega
          · refine Nat.le_trans (ih _ _ _ _ h5) ?_
            rw [List.length_append, bytesOf_length, ByteArray.size_extract, ByteArray.size_extract]
            omega
theorem nameN_le (p : WS) {s : ByteArray} (hs : isName s = true) : (nameN p s).1.length ≤ p.1.length + s.size := nameF_le _ _ _ _ _ (isName_W hs).1
theorem foldl_le (l : List ByteArray) : ∀ p : WS, (∀ s ∈ l, isName s = true) → (l.foldl nameN p).1.length ≤ p.1.length + sumS l := by
  induction l with
  | nil => intro p _; simp [sumS]
  | cons s l ih =>
    intro p h
    rw [List.foldl_cons, sumS_cons]
    have h1 := ih (nameN p s) (fun x hx => h x (by simp [hx]))
    have h2 := nameN_le p (h s (by simp))
    omega
theorem dataF_le (p : WS) {r : Rec} (hr : Right r) : (dataF p r).1.length ≤ p.1.length + (plainL r).length := by
  obtain ⟨hsm, _, hn0, hn4, hsh⟩ := check_small hr.fine hr.ok
  obtain ⟨a4, a5, a6, a7, a8⟩ := shaped_parts hsh
  have m4 := names_all hn4
  unfold dataF
  by_cases hp : pointedB r.f1 = false
  · rw [if_pos hp, bytes_plain hr]
    simp only [List.length_append]
    omega
  · rw [if_neg hp]
    by_cases h6 : r.f1 = 6
    · have hpl : (plainL r).length = sumS r.f4 + 4 * r.f5.length + (r.f6.flatMap (textL r)).length := by
        rw [plainL_six h6, List.nil_append, List.length_append, List.length_append, numsL_len, namesL_len]
      simp only [if_pos h6, if_neg (show ¬ r.f1 = 15 by omega), List.length_append, numsL_len]
      have := foldl_le r.f4 p m4
      omega
    · have hpl : (plainL r).length = 2 * r.f5.length + sumS r.f4 + (r.f6.flatMap (textL r)).length := by
        rw [plainL_not h6, List.nil_append, List.length_append, List.length_append, numsL_len, namesL_len]
      simp only [if_neg h6]
      by_cases h15 : r.f1 = 15
      · simp only [if_pos h15]
        have := foldl_le r.f4 (p.1 ++ putL (r.f5.getD 0 0) 2, p.2) m4
        simp only [List.length_append, putL_length] at this
        rw [h15] at a5
        have a5' : r.f5.length = 1 := a5
        omega
      · simp only [if_neg h15]
        have := foldl_le r.f4 p m4
        omega
theorem plainS_len {r : Rec} (hr : Right r) : (plainS r).size = (plainL r).length := by
  unfold plainS
  rw [if_pos hr.ok, strOfNums_size]
theorem recordF_le (p : WS) {r : Rec} (hr : Right r) : (recordF p r).1.length ≤ p.1.length + lenR r := by
  obtain ⟨hsm, _, hn0, hn4, hsh⟩ := check_small hr.fine hr.ok
  have h1 := dataF_le ((headF p r).1 ++ putL 0 2, (headF p r).2) hr
  have h2 := nameN_le p hn0
  unfold lenR
  rw [plainS_len hr]
  unfold recordF
  simp only [List.length_set]
  simp only [List.length_append, putL_length] at h1
  have h3 : (headF p r).1.length = (nameN p r.f0).1.length + 2 + 2 + 4 := by
    show ((nameN p r.f0).1 ++ putL r.f1 2 ++ putL r.f2 2 ++ putL r.f3 4).length = _
    simp only [List.length_append, putL_length]
  omega
theorem recsF_some (l : List Rec) : ∀ p q : WS, (∀ r ∈ l, Right r) → recsF l p = some q → q.1.length ≤ p.1.length + (l.map lenR).sum := by
  induction l with
  | nil =>
    intro p q _ h
    obtain rfl := Option.some.inj h
    simp
  | cons r l ih =>
    intro p q hr h
    rw [recsF] at h
    by_cases hc : 65535 < (recordF p r).1.length
    · rw [if_pos hc] at h
      exact absurd h (by simp)
    rw [if_neg hc] at h
    have h1 := ih _ _ (fun x hx => hr x (by simp [hx])) h
    have h2 := recordF_le p (hr r (by simp))
    rw [List.map_cons, List.sum_cons]
    omega
theorem recsF_none (l : List Rec) : ∀ p : WS, (∀ r ∈ l, Right r) → recsF l p = none → 65535 < p.1.length + (l.map lenR).sum := by
  induction l with
  | nil => intro p _ h; exact absurd h (by simp [recsF])
  | cons r l ih =>
    intro p hr h
    have h2 := recordF_le p (hr r (by simp))
    rw [List.map_cons, List.sum_cons]
    rw [recsF] at h
    by_cases hc : 65535 < (recordF p r).1.length
    · omega
    rw [if_neg hc] at h
    have h1 := ih _ (fun x hx => hr x (by simp [hx])) h
    omega
theorem ques_le (l : List Ques) : ∀ p : WS, (∀ q ∈ l, QRight q) → (l.foldl quesF p).1.length ≤ p.1.length + (l.map lenQ).sum := by
  induction l with
  | nil => intro p _; simp
  | cons q l ih =>
    intro p hq
    have h1 := ih (quesF p q) (fun x hx => hq x (by simp [hx]))
    have h2 := nameN_le p (hq q (by simp)).name
    have h3 : (quesF p q).1.length = (nameN p q.f0).1.length + 2 + 2 := by
      show ((nameN p q.f0).1 ++ putL q.f1 2 ++ putL q.f2 2).length = _
      simp only [List.length_append, putL_length]
    rw [List.foldl_cons, List.map_cons, List.sum_cons]
    unfold lenQ at h1 ⊢
    omega
theorem quesAll_le {m : Msg} (hq : ∀ q ∈ m.qs, QRight q) : (quesAll m).1.length ≤ 12 + (m.qs.map lenQ).sum := by
  have h := ques_le m.qs ((numsOf m).flatMap (fun n => putL n 2), fun _ => none) hq
  simp only [numsL_len] at h
  exact h
theorem checkF_ne (r : Rec) : checkF r ≠ 3 := by
  unfold checkF
  repeat' split
  all_goals decide
theorem checkM_ne (m : Msg) : checkM m ≠ 3 := by
  unfold checkM
  split
  · decide
  split
  · decide
  generalize m.ans ++ m.auth ++ m.add = l
  induction l with
  | nil => decide
  | cons a l ih =>
    rw [firstBad]
    split
    · exact ih
    · exact checkF_ne a
theorem write_bad {m : Msg} {S : ByteArray} {e : Int} (hm : MsgOk m) (h : writeM m = (S, e)) (he : e ≠ 0) : S = ⟨#[]⟩ ∧ ((e = 3 ∧ checkM m = 0 ∧ 65535 < plainM m) ∨ (e ≠ 3 ∧ e = checkM m)) := by
  unfold writeM at h
  by_cases hc : checkM m = 0
  · rw [if_pos hc] at h
    obtain ⟨hq, hr⟩ := msg_right hm hc
    have h2 := quesAll_le hq
    cases hx : recsF (m.ans ++ m.auth ++ m.add) (quesAll m) with
    | none =>
      rw [hx] at h
      have h1 := recsF_none _ _ hr hx
      obtain ⟨e1, e2⟩ := Prod.mk.inj h
      exact ⟨e1.symm, .inl ⟨e2.symm, hc, by unfold plainM; omega⟩⟩
    | some p =>
      rw [hx] at h
      have h1 := recsF_some _ _ _ hr hx
      unfold endF at h
      by_cases hl : 65535 < p.1.length
      · simp only [if_pos hl] at h
        obtain ⟨e1, e2⟩ := Prod.mk.inj h
        exact ⟨e1.symm, .inl ⟨e2.symm, hc, by unfold plainM; omega⟩⟩
      · simp only [if_neg hl] at h
        exact absurd (Prod.mk.inj h).2.symm he
  · rw [if_neg hc] at h
    obtain ⟨e1, e2⟩ := Prod.mk.inj h
    exact ⟨e1.symm, .inr ⟨by rw [← e2]; exact checkM_ne m, e2.symm⟩⟩
end Go.Proofs.Ytbbeikdbioelgaa.M
set_option linter.unusedVariables false
set_option linter.unusedSimpArgs false
namespace Go.Proofs.Ytbbeikdbioelgaa.M
open Go.RowKit Go.Maps Go.Proofs.YtbbeikdbioelgaaW.PrintWords Go.Proofs.YtbbeikdbioelgaaW.PrintLast Go.Proofs.YtbbeikdbioelgaaW.PrintMore
def RecFull (r : Rec) : Prop := Wf r ∧ checkF r = 0 ∧ Fine r
theorem rec_full {s : ByteArray} (hs : s.size ≤ 1000000) {a : Int} {r : Rec} {a' : Int} (h : recR s a = .ok (r, a')) : RecFull r := by
  unfold recR at h
  cases hn : nameAt s a with
  | error d => rw [hn] at h; exact absurd h (by simp)
  | ok y =>
    obtain ⟨b, a1⟩ := y
    rw [hn] at h
    simp only [] at h
    cases h1 : getF s a1 2 with
    | none => rw [h1] at h; exact absurd h (by simp)
    | some t =>
      rw [h1] at h
      simp only [] at h
      cases h2 : getF s (a1 + 2) 2 with
      | none => rw [h2] at h; exact absurd h (by simp)
      | some c =>
        rw [h2] at h
        simp only [] at h
        cases h3 : getF s (a1 + 2 + 2) 4 with
        | none => rw [h3] at h; exact absurd h (by simp)
        | some l =>
          rw [h3] at h
          simp only [] at h
          cases h4 : getF s (a1 + 2 + 2 + 4) 2 with
          | none => rw [h4] at h; exact absurd h (by simp)
          | some n =>
            rw [h4] at h
            simp only [] at h
            have g4 := get2 h4
            by_cases c1 : (s.size : Int) - (a1 + 2 + 2 + 4 + 2) < n
            · rw [if_pos c1] at h; exact absurd h (by simp)
            rw [if_neg c1] at h
            cases hd : dataR s t (a1 + 2 + 2 + 4 + 2 + n) (a1 + 2 + 2 + 4 + 2) with
            | error d => rw [hd] at h; exact absurd h (by simp)
            | ok y =>
              obtain ⟨⟨names, nums, texts⟩, a2⟩ := y
              rw [hd] at h
              simp only [] at h
              have hp := (dataR_all hd (by omega)).1
              by_cases c2 : checkF ⟨strOfNums b, t, c, l, names, nums, texts⟩ = 0
              · rw [if_pos c2] at h
                rw [← (Prod.mk.inj (Except.ok.inj h)).1]
                have g1 := get2 h1
                have g3 := get4 h3
                have g2 := get2 h2
                exact ⟨⟨g1.1, g1.2.1, g2.1, g2.2.1, g3.1, g3.2.1⟩, c2, hp.fine hs _ _ _ _⟩
              · rw [if_neg c2] at h
                exact absurd h (by simp)
theorem recs_full {s : ByteArray} (hs : s.size ≤ 1000000) (K : Nat) : ∀ {out : List Rec} {a : Int} {out' : List Rec} {a' : Int}, recsR s K out a = .ok (out', a') → (∀ r ∈ out, RecFull r) → (∀ r ∈ out', RecFull r) ∧ out'.length = out.length + K := by
  induction K with
  | zero =>
    intro out a out' a' h hq
    rw [← (Prod.mk.inj (Except.ok.inj h)).1]
    exact ⟨hq, rfl⟩
  | succ K ih =>
    intro out a out' a' h hq
    unfold recsR at h
    cases h1 : recR s a with
    | error c => rw [h1] at h; exact absurd h (by simp)
    | ok x =>
      obtain ⟨q, a1⟩ := x
      rw [h1] at h
      obtain ⟨k1, k2⟩ := ih h (fun y hy => by
        rcases List.mem_append.1 hy with hy | hy
        · exact hq y hy
        · rw [List.mem_singleton.1 hy]; exact rec_full hs h1)
      exact ⟨k1, by rw [k2, List.length_append, List.length_singleton]; omega⟩
theorem firstBad_ok (l : List Rec) (h : ∀ r ∈ l, checkF r = 0) : firstBad l = 0 := by
  induction l with
  | nil => rfl
  | cons a l ih => rw [firstBad, if_pos (h a (by simp)), ih (fun r hr => h r (by simp [hr]))]
structure MsgFull (m : Msg) : Prop where
  ok : MsgOk m
  check : checkM m = 0
  sized : SizedM m
theorem quess_named {s : ByteArray} {K : Nat} {a : Int} {qs : List Ques} {a' : Int} (h : quessR s K [] a = .ok (qs, a')) : ∀ q ∈ qs, isName q.f0 = true := fun q hq => ((quess_right _ h (fun x hx => absurd hx (by simp))).1 q hq).1
theorem fine_sized {r : Rec} (h : Fine r) : Sized r := by
  refine ⟨fun j hj => ?_, fun j hj => by have := h.texts j hj; omega⟩
  have h1 := names_le r.f4 (j + 1)
  rw [flat_snoc ⟨#[]⟩ bytesOf r.f4 j hj, List.length_append, bytesOf_length] at h1
  have h2 := h.names
  omega
theorem msg_full {s : ByteArray} {m : Msg} {e : Int} (h : msgR s = .ok (m, e)) (hs : s.size ≤ 65535) : MsgFull m := by
  have c0 : ¬ 65535 < s.size := by omega
  unfold msgR at h
  cases h1 : getF s 0 2 with
  | none => rw [h1] at h; exact absurd h (by simp)
  | some id =>
    rw [h1] at h
    simp only [] at h
    cases h2 : getF s 2 2 with
    | none => rw [h2] at h; exact absurd h (by simp)
    | some fl =>
      rw [h2] at h
      simp only [] at h
      have g2 := get2 h2
      have g1 := get2 h1
      cases h3 : cntR s 4 [] 4 with
      | error c => rw [h3] at h; exact absurd h (by simp)
      | ok y =>
        obtain ⟨l, b⟩ := y
        rw [h3] at h
        obtain ⟨e1, e2, e3⟩ := cntR_sm _ h3 (fun x hx => absurd hx (by simp)) (by omega)
        obtain ⟨n0, n1, n2, n3, rfl⟩ := four_nats e2 e1
        simp only [msgA] at h
        by_cases c1 : 256 < [(n0 : Int), (n1 : Int), (n2 : Int), (n3 : Int)].sum
        · rw [if_pos c1] at h; exact absurd h (by simp)
        rw [if_neg c1] at h
        simp only [List.sum_cons, List.sum_nil] at c1
        cases h4 : quessR s ([(n0 : Int), (n1 : Int), (n2 : Int), (n3 : Int)].getD 0 0).toNat [] b with
        | error c => rw [h4] at h; exact absurd h (by simp)
        | ok y =>
          obtain ⟨qs, b1⟩ := y
          rw [h4] at h
          simp only [msgB] at h
          cases h5 : recsR s ([(n0 : Int), (n1 : Int), (n2 : Int), (n3 : Int)].getD 1 0).toNat [] b1 with
          | error c => rw [h5] at h; exact absurd h (by simp)
          | ok y =>
            obtain ⟨ans, b2⟩ := y
            rw [h5] at h
            simp only [msgC] at h
            cases h6 : recsR s ([(n0 : Int), (n1 : Int), (n2 : Int), (n3 : Int)].getD 2 0).toNat [] b2 with
            | error c => rw [h6] at h; exact absurd h (by simp)
            | ok y =>
              obtain ⟨auth, b3⟩ := y
              rw [h6] at h
              simp only [msgD] at h
              cases h7 : recsR s ([(n0 : Int), (n1 : Int), (n2 : Int), (n3 : Int)].getD 3 0).toNat [] b3 with
              | error c => rw [h7] at h; exact absurd h (by simp)
              | ok y =>
                obtain ⟨add, b4⟩ := y
                rw [h7] at h
                simp only [msgE] at h
                by_cases c2 : b4 < s.size
                · rw [if_pos c2] at h; exact absurd h (by simp)
                rw [if_neg c2] at h
                obtain ⟨rfl, rfl⟩ := Prod.mk.inj (Except.ok.inj h)
                obtain ⟨p4, q4⟩ := quess_sm _ h4 (fun x hx => absurd hx (by simp))
                obtain ⟨p5, q5⟩ := recs_full (by omega) _ h5 (fun x hx => absurd hx (by simp))
                obtain ⟨p6, q6⟩ := recs_full (by omega) _ h6 (fun x hx => absurd hx (by simp))
                obtain ⟨p7, q7⟩ := recs_full (by omega) _ h7 (fun x hx => absurd hx (by simp))
                have q4 : qs.length = n0 := by rw [q4]; simp
                have q5 : ans.length = n1 := by rw [q5]; simp
                have q6 : auth.length = n2 := by rw [q6]; simp
                have q7 : add.length = n3 := by rw [q7]; simp
                have hall : ∀ r ∈ ans ++ auth ++ add, RecFull r := by
                  intro r hr
                  rcases List.mem_append.1 hr with hr | hr
                  · rcases List.mem_append.1 hr with hr | hr
                    · exact p5 r hr
                    · exact p6 r hr
                  · exact p7 r hr
                refine ⟨⟨fun r hr => (hall r hr).2.2, fun r hr => (hall r hr).1, fun q hq => ⟨(p4 q hq).t0, (p4 q hq).t1, (p4 q hq).c0, (p4 q hq).c1⟩, g1.1, g1.2.1, g2.1, g2.2.1, by rw [q4]; omega, by rw [q5]; omega, by rw [q6]; omega, by rw [q7]; omega⟩, ?_, ⟨fun q hq => by have := (p4 q hq).name; omega, fun r hr => fine_sized (hall r hr).2.2⟩⟩
                unfold checkM
                simp only []
                rw [if_neg (by rw [q4, q5, q6, q7]; omega), if_neg, firstBad_ok _ (fun r hr => (hall r hr).2.1)]
                rw [Bool.not_eq_true, List.any_eq_false]
                intro q hq
                unfold badQ
                rw [quess_named h4 q hq]
                decide
theorem read_full {s : ByteArray} {m : Msg} (h : readF s = (m, 0)) : MsgFull m := by
  obtain ⟨h1, a, h2⟩ := readF_ok h
  exact msg_full h2 (by omega)
end Go.Proofs.Ytbbeikdbioelgaa.M
set_option linter.unusedVariables false
set_option linter.unusedSimpArgs false
namespace Go.Proofs.Ytbbeikdbioelgaa.M
open Go.RowKit Go.Maps Go.Proofs.YtbbeikdbioelgaaW.PrintWords Go.Proofs.YtbbeikdbioelgaaW.PrintLast Go.Proofs.YtbbeikdbioelgaaW.PrintMore
attribute [local go_sem] max2_int min2_int max_two min_two max_three min_three max_four min_four
attribute [local go_sem ↓] Go.wp_at_zero Go.wp_at_succ
set_option maxHeartbeats 8000000 in
set_option maxRecDepth 100000 in
theorem read7_calls (s : ByteArray) (w : World) :
    Calls Try.prog 12 #[.string s] w fun e w' => e = .returned (.bool true) ∧ Below w.heap.size w w' := by
  by_cases h1 : 3000 < s.size
  · have d1 : decide ((3000 : Int) < (s.size : Int)) = true := decide_eq_true (by omega)
    have d2 : decide (3000 < s.size) = true := decide_eq_true h1
    clear h1
    go_enter Try.func12, Try.ntmps12
    go_wp2_with fail
    refine (awake_calls _).mono ?_
    rintro e w1 ⟨rfl, hb⟩
    have HB := Aside0.mk hb
    clear hb
    go_wp2_with fail
    go_ret
    exact ⟨rfl, HB.out⟩
  have d1 : decide ((3000 : Int) < (s.size : Int)) = false := decide_eq_false (by omega)
  have d2 : decide (3000 < s.size) = false := decide_eq_false h1
  have HS := Lib.hid (show s.size ≤ 3000 by omega)
  clear h1
  go_enter Try.func12, Try.ntmps12
  go_wp2_with fail
  refine (awake_calls _).mono ?_
  rintro e w1 ⟨rfl, hb⟩
  have HB := Aside0.mk hb
  clear hb
  go_wp2_with fail
  refine (Read_calls s _ (by have := HS.out; omega)).mono ?_
  obtain ⟨⟨m, co⟩, hr⟩ : ∃ x, readF s = x := ⟨_, rfl⟩
  have HR := Lib.hid hr
  rw [hr]
  clear hr
  rintro e w2 ⟨⟨v, rfl, hm⟩, hb⟩
  have HM1 := Aside0.mk hm
  have HB1 := Aside0.mk (below_step HB.out hb)
  obtain ⟨A2, c2, A3, c3, A4, c4, A5, c5, rfl, -⟩ := hm
  clear hb HB
  by_cases k1 : co = 0
  case neg =>
    have e1 : (co != 0) = true := by rw [bne_iff_ne]; exact k1
    clear k1
    go_wp2_with fail
    go_ret
    exact ⟨rfl, below_alloc HB1.out _⟩
  have e1 : (co != 0) = false := by rw [k1]; rfl
  subst k1
  obtain ⟨ho, hc, hsz⟩ := read_full HR.out
  have HO := Aside0.mk ho
  have HC := Lib.hid hc
  have HSz := Aside0.mk hsz
  clear ho hc hsz
  go_wp2_with fail
  have hal := below_alloc (Below.refl w2.heap.size w2) (.cells #[.int .u16 m.id, .int .u16 m.flags, .slice A2 m.qs.length c2, .slice A3 m.ans.length c3, .slice A4 m.auth.length c4, .slice A5 m.add.length c5] 26 (0, 0))
  have HX2 := Aside0.mk (SAt.new w2 #[.int .u16 m.id, .int .u16 m.flags, .slice A2 m.qs.length c2, .slice A3 m.ans.length c3, .slice A4 m.auth.length c4, .slice A5 m.add.length c5] 26)
  have HB2 := Aside0.mk (HB1.out.trans (hal.mono HB1.out.size))
  have HM2 := Aside0.mk (HM1.out.below hal)
  generalize w2.alloc (.cells #[.int .u16 m.id, .int .u16 m.flags, .slice A2 m.qs.length c2, .slice A3 m.ans.length c3, .slice A4 m.auth.length c4, .slice A5 m.add.length c5] 26 (0, 0)) = w3 at *
  obtain ⟨g, hg⟩ : ∃ g, w2.heap.size = g := ⟨_, rfl⟩
  rw [hg] at HX2 ⊢
  clear hal HM1 HB1 hg
  refine (few7_calls m _ _ HM2.out HSz.out).mono ?_
  rintro e w4 ⟨b, rfl, h7, hb⟩
  have z0 := 0
  have z1 := 0
  have z2 := 0
  have z3 := 0
  have z4 := 0
  have z5 := 0
  have HX3 := Aside0.mk (HX2.out.below hb)
  have HB3 := Aside0.mk (below_step HB2.out hb)
  have HM3 := Aside0.mk (HM2.out.below hb)
  clear hb HX2 HB2 HM2 z0 z1 z2 z3 z4 z5
  have z0 := HX3.out.is 0 rfl
  have z1 := HX3.out.is 1 rfl
  have z2 := HX3.out.is 2 rfl
  have z3 := HX3.out.is 3 rfl
  have z4 := HX3.out.is 4 rfl
  have z5 := HX3.out.is 5 rfl
  clear h7
  cases b with
  | false =>
    go_wp2_with fail
    go_ret
    exact ⟨rfl, HB3.out⟩
  | true =>
  go_wp2_with fail
  refine (write_calls m _ _ HM3.out HO.out).mono ?_
  rintro e w5 ⟨rfl, hb⟩
  have HX4 := Aside0.mk (HX3.out.below hb)
  have HB4 := Aside0.mk (below_step HB3.out hb)
  have HM4 := Aside0.mk (HM3.out.below hb)
  clear hb HX3 HB3 HM3 z0 z1 z2 z3 z4 z5
  have z0 := HX4.out.is 0 rfl
  have z1 := HX4.out.is 1 rfl
  have z2 := HX4.out.is 2 rfl
  have z3 := HX4.out.is 3 rfl
  have z4 := HX4.out.is 4 rfl
  have z5 := HX4.out.is 5 rfl
  obtain ⟨S, hS⟩ : ∃ S, (writeM m).1 = S := ⟨_, rfl⟩
  obtain ⟨co, hco⟩ : ∃ co, (writeM m).2 = co := ⟨_, rfl⟩
  rw [hS, hco]
  have HS := Aside0.mk (Prod.ext_iff.2 ⟨hS, hco⟩ : writeM m = (S, co))
  clear hS hco
  by_cases k1 : co = 0
  case neg =>
    have e2 : (co != 0) = true := by rw [bne_iff_ne]; exact k1
    obtain ⟨rfl, hE⟩ := write_bad HO.out HS.out k1
    rcases hE with ⟨rfl, hc, hp⟩ | ⟨hn, hc⟩
    · have d1 : decide ((65535 : Int) < ((plainM m : Nat) : Int)) = true := decide_eq_true (by omega)
      have d2 : decide (65535 < plainM m) = true := decide_eq_true hp
      have e3 : ((3 : Int) == 3) = true := rfl
      clear hc k1 hp
      go_wp2_with fail
      refine (plain7_calls m _ _ HM4.out HO.out HC.out).mono ?_
      rintro e w6 ⟨rfl, hb⟩
      have HX5 := Aside0.mk (HX4.out.below hb)
      have HB5 := Aside0.mk (below_step HB4.out hb)
      have HM5 := Aside0.mk (HM4.out.below hb)
      clear hb HX4 HB4 HM4 z0 z1 z2 z3 z4 z5
      have z0 := HX5.out.is 0 rfl
      have z1 := HX5.out.is 1 rfl
      have z2 := HX5.out.is 2 rfl
      have z3 := HX5.out.is 3 rfl
      have z4 := HX5.out.is 4 rfl
      have z5 := HX5.out.is 5 rfl
      go_wp2_with fail
      go_ret
      exact ⟨rfl, HB5.out⟩
    · exact absurd (hc.trans HC.out) k1
  have e2 : (co != 0) = false := by rw [k1]; rfl
  subst k1
  have hW := write_read HO.out HS.out
  have HR2 := Aside0.mk hW.1
  have HSl := Lib.hid hW.2
  clear hW
  go_wp2_with fail
  refine (Read_calls S _ (by have := HSl.out; omega)).mono ?_
  rw [HR2.out]
  rintro e w6 ⟨⟨v, rfl, hm⟩, hb⟩
  have HN5 := Aside0.mk hm
  obtain ⟨B2, d2, B3, d3, B4, d4, B5, d5, rfl, -⟩ := hm
  have HX5 := Aside0.mk (HX4.out.below hb)
  have HB5 := Aside0.mk (below_step HB4.out hb)
  have HM5 := Aside0.mk (HM4.out.below hb)
  clear hb HX4 HB4 HM4 z0 z1 z2 z3 z4 z5
  have z0 := HX5.out.is 0 rfl
  have z1 := HX5.out.is 1 rfl
  have z2 := HX5.out.is 2 rfl
  have z3 := HX5.out.is 3 rfl
  have z4 := HX5.out.is 4 rfl
  have z5 := HX5.out.is 5 rfl
  go_wp2_with fail
  have hal := below_alloc (Below.refl w6.heap.size w6) (.cells #[.int .u16 m.id, .int .u16 m.flags, .slice B2 m.qs.length d2, .slice B3 m.ans.length d3, .slice B4 m.auth.length d4, .slice B5 m.add.length d5] 26 (0, 0))
  have HX6 := Aside0.mk (HX5.out.below hal)
  have HY6 := Aside0.mk (SAt.new w6 #[.int .u16 m.id, .int .u16 m.flags, .slice B2 m.qs.length d2, .slice B3 m.ans.length d3, .slice B4 m.auth.length d4, .slice B5 m.add.length d5] 26)
  have HB6 := Aside0.mk (HB5.out.trans (hal.mono HB5.out.size))
  have HM6 := Aside0.mk (HM5.out.below hal)
  have HN6 := Aside0.mk (HN5.out.below hal)
  generalize w6.alloc (.cells #[.int .u16 m.id, .int .u16 m.flags, .slice B2 m.qs.length d2, .slice B3 m.ans.length d3, .slice B4 m.auth.length d4, .slice B5 m.add.length d5] 26 (0, 0)) = w7 at *
  obtain ⟨g2, hg⟩ : ∃ g, w6.heap.size = g := ⟨_, rfl⟩
  rw [hg] at HY6 ⊢
  clear hal HM5 HN5 HB5 HX5 hg z0 z1 z2 z3 z4 z5
  have y0 := HY6.out.is 0 rfl
  have y1 := HY6.out.is 1 rfl
  have y2 := HY6.out.is 2 rfl
  have y3 := HY6.out.is 3 rfl
  have y4 := HY6.out.is 4 rfl
  have y5 := HY6.out.is 5 rfl
  go_wp2_with fail
  refine (write_calls m _ _ HN6.out HO.out).mono ?_
  rw [HS.out]
  rintro e w8 ⟨rfl, hb⟩
  have HX7 := Aside0.mk (HX6.out.below hb)
  have HY7 := Aside0.mk (HY6.out.below hb)
  have HB7 := Aside0.mk (below_step HB6.out hb)
  have HM7 := Aside0.mk (HM6.out.below hb)
  have HN7 := Aside0.mk (HN6.out.below hb)
  clear hb HX6 HY6 HB6 HM6 HN6 y0 y1 y2 y3 y4 y5
  have z0 := HX7.out.is 0 rfl
  have z1 := HX7.out.is 1 rfl
  have z2 := HX7.out.is 2 rfl
  have z3 := HX7.out.is 3 rfl
  have z4 := HX7.out.is 4 rfl
  have z5 := HX7.out.is 5 rfl
  have y0 := HY7.out.is 0 rfl
  have y1 := HY7.out.is 1 rfl
  have y2 := HY7.out.is 2 rfl
  have y3 := HY7.out.is 3 rfl
  have y4 := HY7.out.is 4 rfl
  have y5 := HY7.out.is 5 rfl
  have hse := text_eq S
  go_wp2_with fail
  refine (same6_calls HN7.out HM7.out).mono ?_
  rintro e w9 ⟨b, rfl, hi, hb⟩
  obtain rfl : b = true := hi.2 rfl
  have HB8 := Aside0.mk (below_step HB7.out hb)
  clear hi hb
  go_wp2_with fail
  go_ret
  exact ⟨rfl, HB8.out⟩
theorem read7_row (W : World) (s : ByteArray) (hs : s.size ≤ 140737488351232) :
    Calls Try.prog 12 #[.string s] W fun e w' => e = .returned (.bool true) ∧ Below W.heap.size W w' := read7_calls s W
end Go.Proofs.Ytbbeikdbioelgaa.M
