/- Digits: plain laws. -/
import Derived.Test.YtdpoookgmckclaaDoorMText10
set_option linter.unusedVariables false
set_option linter.unusedSimpArgs false
namespace Go.Proofs.YtdpoookgmckclaaDoor.M
open Go.RowKit Go.Maps Go.Proofs.YtdpoookgmckclaaDoorW.PrintWords Go.Proofs.YtdpoookgmckclaaDoorW.PrintLast Go.Proofs.YtdpoookgmckclaaDoorW.PrintMore
def dgS (m : Nat) : ByteArray := ⟨(Lib.decDigits m).toArray⟩
def dgI (m : Nat) : List Int := bytesOf (dgS m)
theorem dg_one (m : Nat) (h : m < 10) : dgI m = [48 + (m : Int)] := by
  unfold dgI dgS
  rw [dig_one m h]
  exact tb_byt (by intro x hx; simp at hx; omega)
theorem dg_more (m : Nat) (h : ¬ m < 10) : dgI m = dgI (m / 10) ++ [48 + ((m % 10 : Nat) : Int)] := by
  have e := dig_more m h ⟨#[]⟩
  have e2 := congrArg bytesOf e
  rw [tb_app, tb_app, tb_app, tb_byt (l := [48 + ((m % 10 : Nat) : Int)]) (by intro x hx; simp at hx; omega)] at e2
  have z : bytesOf ⟨#[]⟩ = [] := rfl
  rw [z, List.append_nil, List.append_nil] at e2
  exact e2
theorem valD_snoc (l : List Int) (c : Int) : ∀ n, valD n (l ++ [c]) = valD n l * 10 + (c - 48) := by
  induction l with
  | nil => intro n; rfl
  | cons a l ih => intro n; exact ih _
theorem dg_ok (m : Nat) : (dgI m).all digI = true ∧ valD 0 (dgI m) = m ∧ 1 ≤ (dgI m).length ∧ m < 10 ^ (dgI m).length ∧ (1 ≤ m → (dgI m).getD 0 0 ≠ 48) ∧ (m < 10 → (dgI m).length = 1) := by
  induction m using Nat.strongRecOn with
  | _ m ih =>
    by_cases h : m < 10
    · rw [dg_one m h]
      refine ⟨?_, ?_, Nat.le_refl _, by simpa using h, ?_, fun _ => rfl⟩
      · simp [digI, inI]; omega
      · simp [valD]; omega
      · intro h1; simp; omega
    · obtain ⟨i1, i2, i3, i4, i5, i6⟩ := ih (m / 10) (by omega)
      rw [dg_more m h]
      refine ⟨?_, ?_, by simp, ?_, ?_, fun h' => absurd h' h⟩
      · rw [List.all_append, i1]; simp [digI, inI]; omega
      · rw [valD_snoc, i2]; omega
      · rw [List.length_append, List.length_singleton, Nat.pow_succ]; omega
      · intro _
        have := i5 (by omega)
        rw [List.getD_eq_getElem?_getD, List.getElem?_append_left (by omega), ← List.getD_eq_getElem?_getD]
        exact this
theorem dg_len (k : Nat) : ∀ m, m < 10 ^ (k + 1) → (dgI m).length ≤ k + 1 := by
  induction k with
  | zero => intro m h; rw [(dg_ok m).2.2.2.2.2 (by simpa using h)]; omega
  | succ k ih =>
    intro m h
    by_cases h1 : m < 10
    · rw [(dg_ok m).2.2.2.2.2 h1]; omega
    · rw [dg_more m h1, List.length_append, List.length_singleton]
      have : m / 10 < 10 ^ (k + 1) := by rw [Nat.pow_succ 10 (k + 1)] at h; omega
      have := ih _ this
      omega
theorem valD_nn (l : List Int) (h : l.all digI = true) : ∀ n, 0 ≤ n → 0 ≤ valD n l := by
  induction l with
  | nil => intro n hn; exact hn
  | cons c l ih =>
    intro n hn
    rw [List.all_cons, Bool.and_eq_true] at h
    have hc : 48 ≤ c ∧ c ≤ 57 := by have := h.1; simpa [digI, inI] using this
    exact ih h.2 _ (by omega)
/-- Digits without a nought ahead are just their number's. -/
theorem dg_back (k : Nat) : ∀ l : List Int, l.length = k + 1 → l.all digI = true → (1 < l.length → l.getD 0 0 ≠ 48) → dgI (valD 0 l).toNat = l := by
  induction k with
  | zero =>
    intro l hl ha _
    match l, hl with
    | [c], _ =>
      have hc : 48 ≤ c ∧ c ≤ 57 := by simpa [digI, inI] using ha
      have e : valD 0 [c] = c - 48 := by simp [valD]
      rw [e, dg_one _ (by omega)]
      congr 1
      omega
  | succ k ih =>
    intro l hl ha hz
    rcases List.eq_nil_or_concat l with rfl | ⟨l', c, rfl⟩
    · simp at hl
    rw [List.concat_eq_append] at hl ha hz ⊢
    have hl' : l'.length = k + 1 := by simpa using hl
    rw [List.all_append, Bool.and_eq_true] at ha
    have hc : 48 ≤ c ∧ c ≤ 57 := by have := ha.2; simpa [digI, inI] using this
    have h0 : l'.getD 0 0 ≠ 48 := by
      have := hz (by rw [hl]; omega)
      rw [List.getD_eq_getElem?_getD, List.getElem?_append_left (by omega), ← List.getD_eq_getElem?_getD] at this
      exact this
    have e := ih l' hl' ha.1 (fun _ => h0)
    have hn := valD_nn l' ha.1 0 (by omega)
    have h1 : 1 ≤ (valD 0 l').toNat := by
      rcases Nat.eq_zero_or_pos (valD 0 l').toNat with h | h
      · rw [h, dg_one 0 (by omega)] at e
        exact absurd (by rw [← e]; rfl) h0
      · exact h
    rw [valD_snoc]
    have hv : (valD 0 l' * 10 + (c - 48)).toNat / 10 = (valD 0 l').toNat := by omega
    rw [dg_more _ (by omega), hv, e]
    congr 2
    omega
/-- What a number's text is told to be. -/
theorem dec_num (n : Int) : decF (numF n) 999999999 = if 0 ≤ n ∧ n ≤ 999999999 then (n, true) else (0, false) := by
  by_cases hn : n < 0
  · rw [show numF n = ⟨#[]⟩ from if_pos hn, if_neg (by omega)]
    rfl
  obtain ⟨m, rfl⟩ : ∃ m : Nat, n = m := ⟨n.toNat, by omega⟩
  have hE : numF (m : Int) = dgS m := by unfold numF; rw [if_neg hn]; rfl
  rw [hE]
  obtain ⟨i1, i2, i3, i4, i5, i6⟩ := dg_ok m
  have hs : (dgI m).length = (dgS m).size := bytesOf_length (dgS m)
  have hb : bt (dgS m) 0 = (dgI m).getD 0 0 := by rw [show (0 : Int) = ((0 : Nat) : Int) from rfl, ← bt_getD]; rfl
  unfold decF
  by_cases h9 : m < 1000000000
  · have hl := dg_len 8 m (by simpa using h9)
    rw [if_neg, if_neg, if_neg, if_pos (by omega)]
    · show (valD 0 (dgI m), true) = _
      rw [i2]
    · show ¬ 999999999 < valD 0 (dgI m)
      rw [i2]; omega
    · show ¬ (dgI m).all digI = false
      rw [i1]; simp
    · rintro (h | h | ⟨h, h'⟩)
      · omega
      · omega
      · rw [hb] at h'
        rcases Nat.lt_or_ge m 10 with hm | hm
        · have := i6 hm; omega
        · exact i5 (by omega) h'
  · rw [if_pos, if_neg (by omega)]
    right; left
    rcases Nat.lt_or_ge 9 (dgS m).size with h | h
    · exact h
    · exfalso
      have : 10 ^ (dgI m).length ≤ 10 ^ 9 := Nat.pow_le_pow_right (by decide) (by omega)
      omega
/-- The reference asks for the number's text again. -/
theorem dec_ref (s : ByteArray) (most : Int) (h9 : ¬ 9 < s.size) (hd : (bytesOf s).all digI = true) : decF s most = if numF (valD 0 (bytesOf s)) = s then (if most < valD 0 (bytesOf s) then (0, false) else (valD 0 (bytesOf s), true)) else (0, false) := by
  have hn := valD_nn _ hd 0 (by omega)
  have hE : numF (valD 0 (bytesOf s)) = dgS (valD 0 (bytesOf s)).toNat := by unfold numF; rw [if_neg (by omega)]; rfl
  have hs := bytesOf_length s
  have hb : bt s 0 = (bytesOf s).getD 0 0 := by rw [show (0 : Int) = ((0 : Nat) : Int) from rfl, ← bt_getD]; rfl
  rw [hE]
  unfold decF
  by_cases hc : s.size < 1 ∨ 9 < s.size ∨ (1 < s.size ∧ bt s 0 = 48)
  · rw [if_pos hc, if_neg]
    intro he
    obtain ⟨i1, i2, i3, i4, i5, i6⟩ := dg_ok (valD 0 (bytesOf s)).toNat
    have hl : dgI (valD 0 (bytesOf s)).toNat = bytesOf s := congrArg bytesOf he
    rw [hl] at i3 i5 i6
    rcases hc with hc | hc | ⟨hc, hc'⟩
    · omega
    · omega
    · rw [hb] at hc'
      rcases Nat.lt_or_ge (valD 0 (bytesOf s)).toNat 10 with hm | hm
      · have := i6 hm; omega
      · exact i5 (by omega) hc'
  · have he : dgS (valD 0 (bytesOf s)).toNat = s := by
      apply tb_inj
      exact dg_back (s.size - 1) _ (by omega) hd (fun h h' => hc (.inr (.inr ⟨by omega, by rw [hb]; exact h'⟩)))
    rw [if_neg hc, if_neg (show ¬ (bytesOf s).all digI = false by rw [hd]; simp), if_pos he]
theorem dec_not (s : ByteArray) (most : Int) (hd : (bytesOf s).all digI = false) : decF s most = (0, false) := by
  unfold decF
  rw [if_pos hd]
  split <;> rfl
end Go.Proofs.YtdpoookgmckclaaDoor.M
