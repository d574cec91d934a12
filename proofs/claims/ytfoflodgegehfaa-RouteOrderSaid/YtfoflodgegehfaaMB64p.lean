/- The reference's reading and writing of signs is the program's (plain). -/
import Derived.Test.YtfoflodgegehfaaMB64b
set_option linter.unusedVariables false
set_option linter.unusedSimpArgs false
namespace Go.Proofs.Ytfoflodgegehfaa.B64
open Go.RowKit Go.Proofs.YtfoflodgegehfaaW.PrintWords Go.Proofs.YtfoflodgegehfaaW.PrintLast Go.Proofs.YtfoflodgegehfaaW.PrintMore
attribute [local go_sem] max2_int min2_int max_two min_two max_three min_three max_four min_four

/-! Bytes and lists of numbers. -/
theorem bytes_range (s : ByteArray) : ∀ x ∈ bytesOf s, 0 ≤ x ∧ x ≤ 255 := by
  intro x hx
  unfold bytesOf at hx
  obtain ⟨b, _, rfl⟩ := List.mem_map.1 hx
  have := b.toNat_lt
  omega
theorem str_bytes (s : ByteArray) : strOfNums (bytesOf s) = s := by
  have : (strOfNums (bytesOf s)).data = s.data := by
    apply Array.toList_inj.1
    rw [strOfNums_data]
    unfold bytesOf
    rw [List.map_map]
    conv => rhs; rw [← List.map_id s.data.toList]
    apply List.map_congr_left
    intro b _
    simp
  cases s
  exact congrArg ByteArray.mk this
theorem bytes_str (l : List Int) (h : ∀ x ∈ l, 0 ≤ x ∧ x ≤ 255) : bytesOf (strOfNums l) = l := by
  unfold bytesOf
  rw [strOfNums_data, List.map_map]
  conv => rhs; rw [← List.map_id l]
  apply List.map_congr_left
  intro x hx
  have := h x hx
  simp only [Function.comp, id, UInt8.toNat_ofNat']
  omega
theorem bytes_app (s t : ByteArray) : bytesOf (s ++ t) = bytesOf s ++ bytesOf t := by
  unfold bytesOf
  rw [ByteArray.data_append, Array.toList_append, List.map_append]
theorem bytes_take (s : ByteArray) (n : Nat) : bytesOf (s.extract 0 n) = (bytesOf s).take n := by
  unfold bytesOf
  rw [ByteArray.data_extract, Array.toList_extract, List.map_take]
  simp [List.extract_eq_take_drop]
theorem str_app (a b : List Int) : strOfNums a ++ strOfNums b = strOfNums (a ++ b) := by
  have : (strOfNums a ++ strOfNums b).data = (strOfNums (a ++ b)).data := by
    apply Array.toList_inj.1
    rw [ByteArray.data_append, Array.toList_append, strOfNums_data, strOfNums_data, strOfNums_data, List.map_append]
  cases h1 : strOfNums a ++ strOfNums b
  cases h2 : strOfNums (a ++ b)
  rw [h1, h2] at this
  exact congrArg ByteArray.mk this

/-! Signs. -/
theorem sgn_all : ∀ n ∈ List.range 64, 0 ≤ b64h_sgn (n : Int) ∧ b64h_sgn (n : Int) ≤ 255 ∧ b64h_val (b64h_sgn (n : Int)) = (n : Int) := by decide +kernel
theorem sgn_one (v : Int) (h0 : 0 ≤ v) (h1 : v < 64) : 0 ≤ b64h_sgn v ∧ b64h_sgn v ≤ 255 ∧ b64h_val (b64h_sgn v) = v := by
  obtain ⟨n, rfl⟩ := Int.eq_ofNat_of_zero_le h0
  exact sgn_all n (List.mem_range.2 (by omega))
theorem val_all : ∀ n ∈ List.range 256, b64h_val (n : Int) ≠ 64 → b64h_sgn (b64h_val (n : Int)) = (n : Int) := by decide +kernel
theorem val_one (c : Int) (h0 : 0 ≤ c) (h1 : c ≤ 255) (hv : b64h_val c ≠ 64) : b64h_sgn (b64h_val c) = c := by
  obtain ⟨n, rfl⟩ := Int.eq_ofNat_of_zero_le h0
  exact val_all n (List.mem_range.2 (by omega)) hv

/-! A whole group. -/
theorem enc3 (a b c : Int) (t : List Int) : b64h_encGo (a :: b :: c :: t) 0 0 = b64h_sgn (a / 4 % 64) :: b64h_sgn ((a % 4 * 256 + b) / 16 % 64) :: b64h_sgn (((a % 4 * 256 + b) % 16 * 256 + c) / 64 % 64) :: b64h_sgn (((a % 4 * 256 + b) % 16 * 256 + c) % 64) :: b64h_encGo t 0 0 := by
  simp [b64h_encGo]
theorem enc1 (a : Int) : b64h_encGo [a] 0 0 = [b64h_sgn (a / 4 % 64), b64h_sgn (a % 4 * 16 % 64)] := by simp [b64h_encGo]
theorem enc2 (a b : Int) : b64h_encGo [a, b] 0 0 = [b64h_sgn (a / 4 % 64), b64h_sgn ((a % 4 * 256 + b) / 16 % 64), b64h_sgn ((a % 4 * 256 + b) % 16 * 4 % 64)] := by simp [b64h_encGo]
theorem dec4 (p q r s : Int) (t : List Int) (hp : b64h_val p ≠ 64) (hq : b64h_val q ≠ 64) (hr : b64h_val r ≠ 64) (hs : b64h_val s ≠ 64) :
    b64h_decGo (p :: q :: r :: s :: t) 0 0 = (b64h_decGo t 0 0).map ([(b64h_val p * 64 + b64h_val q) / 16, ((b64h_val p * 64 + b64h_val q) % 16 * 64 + b64h_val r) / 4, ((b64h_val p * 64 + b64h_val q) % 16 * 64 + b64h_val r) % 4 * 64 + b64h_val s] ++ ·) := by
  simp only [b64h_decGo, hp, hq, hr, hs, if_false, Int.zero_mul, Int.zero_add]
  cases b64h_decGo t 0 0 <;> simp
theorem dec2 (p q : Int) (hp : b64h_val p ≠ 64) (hq : b64h_val q ≠ 64) : b64h_decGo [p, q] 0 0 = if (b64h_val p * 64 + b64h_val q) % 16 = 0 then some [(b64h_val p * 64 + b64h_val q) / 16] else none := by
  by_cases h : (b64h_val p * 64 + b64h_val q) % 16 = 0 <;> simp [b64h_decGo, hp, hq, h]
theorem dec3 (p q r : Int) (hp : b64h_val p ≠ 64) (hq : b64h_val q ≠ 64) (hr : b64h_val r ≠ 64) : b64h_decGo [p, q, r] 0 0 = if ((b64h_val p * 64 + b64h_val q) % 16 * 64 + b64h_val r) % 4 = 0 then some [(b64h_val p * 64 + b64h_val q) / 16, ((b64h_val p * 64 + b64h_val q) % 16 * 64 + b64h_val r) / 4] else none := by
  by_cases h : ((b64h_val p * 64 + b64h_val q) % 16 * 64 + b64h_val r) % 4 = 0 <;> simp [b64h_decGo, hp, hq, hr, h]
theorem dec1 (p : Int) : b64h_decGo [p] 0 0 = none := by
  by_cases h : b64h_val p = 64 <;> simp [b64h_decGo, h]
theorem dec_bad (p q r s : Int) (t : List Int) (h : b64h_val p = 64 ∨ b64h_val q = 64 ∨ b64h_val r = 64 ∨ b64h_val s = 64) : b64h_decGo (p :: q :: r :: s :: t) 0 0 = none := by
  by_cases hp : b64h_val p = 64
  · simp [b64h_decGo, hp]
  · by_cases hq : b64h_val q = 64
    · simp [b64h_decGo, hp, hq]
    · by_cases hr : b64h_val r = 64
      · simp [b64h_decGo, hp, hq, hr]
      · have hs : b64h_val s = 64 := by simpa [hp, hq, hr] using h
        simp [b64h_decGo, hp, hq, hr, hs]
theorem dec_bad3 (p q r : Int) (h : b64h_val p = 64 ∨ b64h_val q = 64 ∨ b64h_val r = 64) : b64h_decGo [p, q, r] 0 0 = none := by
  by_cases hp : b64h_val p = 64
  · simp [b64h_decGo, hp]
  · by_cases hq : b64h_val q = 64
    · simp [b64h_decGo, hp, hq]
    · have hr : b64h_val r = 64 := by simpa [hp, hq] using h
      simp [b64h_decGo, hp, hq, hr]
theorem dec_bad2 (p q : Int) (h : b64h_val p = 64 ∨ b64h_val q = 64) : b64h_decGo [p, q] 0 0 = none := by
  by_cases hp : b64h_val p = 64
  · simp [b64h_decGo, hp]
  · have hq : b64h_val q = 64 := by simpa [hp] using h
    simp [b64h_decGo, hp, hq]

theorem sgn_ne (v : Int) (h0 : 0 ≤ v) (h1 : v < 64) : b64h_val (b64h_sgn v) ≠ 64 := by rw [(sgn_one v h0 h1).2.2]; omega

/-- What was written is read as it was. -/
theorem dec_enc (n : Nat) : ∀ l : List Int, l.length ≤ n → (∀ x ∈ l, 0 ≤ x ∧ x ≤ 255) → b64h_decGo (b64h_encGo l 0 0) 0 0 = some l ∧ (∀ y ∈ b64h_encGo l 0 0, 0 ≤ y ∧ y ≤ 255) ∧ ((b64h_encGo l 0 0).length : Int) = (l.length * 8 + 5) / 6 := by
  induction n using Nat.strongRecOn with
  | _ n ih =>
    intro l hl hr
    match l, hl, hr with
    | [], _, _ => exact ⟨by simp [b64h_encGo, b64h_decGo], by simp [b64h_encGo], by simp [b64h_encGo]⟩
    | [a], _, hr =>
      have ha := hr a (by simp)
      have v1 := sgn_one (a / 4 % 64) (by omega) (by omega)
      have v2 := sgn_one (a % 4 * 16 % 64) (by omega) (by omega)
      rw [enc1, dec2 _ _ (sgn_ne _ (by omega) (by omega)) (sgn_ne _ (by omega) (by omega)), v1.2.2, v2.2.2, if_pos (by omega)]
      refine ⟨by congr 2; omega, ?_, by simp⟩
      intro y hy
      simp only [List.mem_cons, List.mem_nil_iff, or_false] at hy
      rcases hy with rfl | rfl
      · exact ⟨v1.1, v1.2.1⟩
      · exact ⟨v2.1, v2.2.1⟩
    | [a, b], _, hr =>
      have ha := hr a (by simp)
      have hb := hr b (by simp)
      have v1 := sgn_one (a / 4 % 64) (by omega) (by omega)
      have v2 := sgn_one ((a % 4 * 256 + b) / 16 % 64) (by omega) (by omega)
      have v3 := sgn_one ((a % 4 * 256 + b) % 16 * 4 % 64) (by omega) (by omega)
      rw [enc2, dec3 _ _ _ (sgn_ne _ (by omega) (by omega)) (sgn_ne _ (by omega) (by omega)) (sgn_ne _ (by omega) (by omega)), v1.2.2, v2.2.2, v3.2.2, if_pos (by omega)]
      refine ⟨?_, ?_, by simp⟩
      · have e1 : (a / 4 % 64 * 64 + (a % 4 * 256 + b) / 16 % 64) / 16 = a := by omega
        have e2 : ((a / 4 % 64 * 64 + (a % 4 * 256 + b) / 16 % 64) % 16 * 64 + (a % 4 * 256 + b) % 16 * 4 % 64) / 4 = b := by omega
        rw [e1, e2]
      · intro y hy
        simp only [List.mem_cons, List.mem_nil_iff, or_false] at hy
        rcases hy with rfl | rfl | rfl
        · exact ⟨v1.1, v1.2.1⟩
        · exact ⟨v2.1, v2.2.1⟩
        · exact ⟨v3.1, v3.2.1⟩
    | a :: b :: c :: t, hl, hr =>
      have ha := hr a (by simp)
      have hb := hr b (by simp)
      have hc := hr c (by simp)
      simp only [List.length_cons] at hl
      obtain ⟨i1, i2, i3⟩ := ih t.length (by omega) t (Nat.le_refl _) (fun x hx => hr x (by simp [hx]))
      have v1 := sgn_one (a / 4 % 64) (by omega) (by omega)
      have v2 := sgn_one ((a % 4 * 256 + b) / 16 % 64) (by omega) (by omega)
      have v3 := sgn_one (((a % 4 * 256 + b) % 16 * 256 + c) / 64 % 64) (by omega) (by omega)
      have v4 := sgn_one (((a % 4 * 256 + b) % 16 * 256 + c) % 64) (by omega) (by omega)
      rw [enc3, dec4 _ _ _ _ _ (sgn_ne _ (by omega) (by omega)) (sgn_ne _ (by omega) (by omega)) (sgn_ne _ (by omega) (by omega)) (sgn_ne _ (by omega) (by omega)), v1.2.2, v2.2.2, v3.2.2, v4.2.2, i1]
      refine ⟨?_, ?_, by simp only [List.length_cons]; omega⟩
      · have e1 : (a / 4 % 64 * 64 + (a % 4 * 256 + b) / 16 % 64) / 16 = a := by omega
        have e2 : ((a / 4 % 64 * 64 + (a % 4 * 256 + b) / 16 % 64) % 16 * 64 + ((a % 4 * 256 + b) % 16 * 256 + c) / 64 % 64) / 4 = b := by omega
        have e3 : ((a / 4 % 64 * 64 + (a % 4 * 256 + b) / 16 % 64) % 16 * 64 + ((a % 4 * 256 + b) % 16 * 256 + c) / 64 % 64) % 4 * 64 + ((a % 4 * 256 + b) % 16 * 256 + c) % 64 = c := by omega
        rw [e1, e2, e3]
        rfl
      · intro y hy
        simp only [List.mem_cons] at hy
        rcases hy with rfl | rfl | rfl | rfl | hy
        · exact ⟨v1.1, v1.2.1⟩
        · exact ⟨v2.1, v2.2.1⟩
        · exact ⟨v3.1, v3.2.1⟩
        · exact ⟨v4.1, v4.2.1⟩
        · exact i2 y hy

/-- What was read was written with just these signs. -/
theorem enc_dec (n : Nat) : ∀ l x : List Int, l.length ≤ n → (∀ y ∈ l, 0 ≤ y ∧ y ≤ 255) → b64h_decGo l 0 0 = some x → b64h_encGo x 0 0 = l ∧ (∀ y ∈ x, 0 ≤ y ∧ y ≤ 255) ∧ x.length ≤ l.length := by
  induction n using Nat.strongRecOn with
  | _ n ih =>
    intro l x hl hr hd
    match l, hl, hr, hd with
    | [], _, _, hd =>
      have : x = [] := by simpa [b64h_decGo] using hd.symm
      subst this
      simp [b64h_encGo]
    | [p], _, _, hd => rw [dec1] at hd; exact absurd hd (by simp)
    | [p, q], _, hr, hd =>
      by_cases hb : b64h_val p = 64 ∨ b64h_val q = 64
      · rw [dec_bad2 _ _ hb] at hd; exact absurd hd (by simp)
      · have hp : b64h_val p ≠ 64 := fun e => hb (.inl e)
        have hq : b64h_val q ≠ 64 := fun e => hb (.inr e)
        have rp := b64h_val_range p
        have rq := b64h_val_range q
        rw [dec2 p q hp hq] at hd
        by_cases hz : (b64h_val p * 64 + b64h_val q) % 16 = 0
        · rw [if_pos hz] at hd
          obtain rfl := Option.some.inj hd
          have e1 : (b64h_val p * 64 + b64h_val q) / 16 / 4 % 64 = b64h_val p := by omega
          have e2 : (b64h_val p * 64 + b64h_val q) / 16 % 4 * 16 % 64 = b64h_val q := by omega
          refine ⟨?_, ?_, by simp⟩
          · rw [enc1, e1, e2, val_one p (hr p (by simp)).1 (hr p (by simp)).2 hp, val_one q (hr q (by simp)).1 (hr q (by simp)).2 hq]
          · intro y hy
            simp only [List.mem_cons, List.mem_nil_iff, or_false] at hy
            subst hy
            omega
        · rw [if_neg hz] at hd; exact absurd hd (by simp)
    | [p, q, r], _, hr, hd =>
      by_cases hb : b64h_val p = 64 ∨ b64h_val q = 64 ∨ b64h_val r = 64
      · rw [dec_bad3 _ _ _ hb] at hd; exact absurd hd (by simp)
      · have hp : b64h_val p ≠ 64 := fun e => hb (.inl e)
        have hq : b64h_val q ≠ 64 := fun e => hb (.inr (.inl e))
        have hv : b64h_val r ≠ 64 := fun e => hb (.inr (.inr e))
        have rp := b64h_val_range p
        have rq := b64h_val_range q
        have rr := b64h_val_range r
        rw [dec3 p q r hp hq hv] at hd
        by_cases hz : ((b64h_val p * 64 + b64h_val q) % 16 * 64 + b64h_val r) % 4 = 0
        · rw [if_pos hz] at hd
          obtain rfl := Option.some.inj hd
          have e1 : (b64h_val p * 64 + b64h_val q) / 16 / 4 % 64 = b64h_val p := by omega
          have e2 : ((b64h_val p * 64 + b64h_val q) / 16 % 4 * 256 + ((b64h_val p * 64 + b64h_val q) % 16 * 64 + b64h_val r) / 4) / 16 % 64 = b64h_val q := by omega
          have e3 : ((b64h_val p * 64 + b64h_val q) / 16 % 4 * 256 + ((b64h_val p * 64 + b64h_val q) % 16 * 64 + b64h_val r) / 4) % 16 * 4 % 64 = b64h_val r := by omega
          refine ⟨?_, ?_, by simp⟩
          · rw [enc2, e1, e2, e3, val_one p (hr p (by simp)).1 (hr p (by simp)).2 hp, val_one q (hr q (by simp)).1 (hr q (by simp)).2 hq, val_one r (hr r (by simp)).1 (hr r (by simp)).2 hv]
          · intro y hy
            simp only [List.mem_cons, List.mem_nil_iff, or_false] at hy
            rcases hy with rfl | rfl <;> omega
        · rw [if_neg hz] at hd; exact absurd hd (by simp)
    | p :: q :: r :: s :: t, hl, hr, hd =>
      by_cases hb : b64h_val p = 64 ∨ b64h_val q = 64 ∨ b64h_val r = 64 ∨ b64h_val s = 64
      · rw [dec_bad _ _ _ _ _ hb] at hd; exact absurd hd (by simp)
      · have hp : b64h_val p ≠ 64 := fun e => hb (.inl e)
        have hq : b64h_val q ≠ 64 := fun e => hb (.inr (.inl e))
        have hv : b64h_val r ≠ 64 := fun e => hb (.inr (.inr (.inl e)))
        have hw : b64h_val s ≠ 64 := fun e => hb (.inr (.inr (.inr e)))
        have rp := b64h_val_range p
        have rq := b64h_val_range q
        have rr := b64h_val_range r
        have rs := b64h_val_range s
        rw [dec4 p q r s t hp hq hv hw] at hd
        obtain ⟨y, hy, rfl⟩ := Option.map_eq_some_iff.1 hd
        simp only [List.length_cons] at hl
        obtain ⟨i1, i2, i3⟩ := ih t.length (by omega) t y (Nat.le_refl _) (fun x hx => hr x (by simp [hx])) hy
        have e1 : (b64h_val p * 64 + b64h_val q) / 16 / 4 % 64 = b64h_val p := by omega
        have e2 : ((b64h_val p * 64 + b64h_val q) / 16 % 4 * 256 + ((b64h_val p * 64 + b64h_val q) % 16 * 64 + b64h_val r) / 4) / 16 % 64 = b64h_val q := by omega
        have e3 : (((b64h_val p * 64 + b64h_val q) / 16 % 4 * 256 + ((b64h_val p * 64 + b64h_val q) % 16 * 64 + b64h_val r) / 4) % 16 * 256 + (((b64h_val p * 64 + b64h_val q) % 16 * 64 + b64h_val r) % 4 * 64 + b64h_val s)) / 64 % 64 = b64h_val r := by omega
        have e4 : (((b64h_val p * 64 + b64h_val q) / 16 % 4 * 256 + ((b64h_val p * 64 + b64h_val q) % 16 * 64 + b64h_val r) / 4) % 16 * 256 + (((b64h_val p * 64 + b64h_val q) % 16 * 64 + b64h_val r) % 4 * 64 + b64h_val s)) % 64 = b64h_val s := by omega
        refine ⟨?_, ?_, by simp only [List.cons_append, List.nil_append, List.length_cons]; omega⟩
        · show b64h_encGo (_ :: _ :: _ :: y) 0 0 = _
          rw [enc3, e1, e2, e3, e4, i1, val_one p (hr p (by simp)).1 (hr p (by simp)).2 hp, val_one q (hr q (by simp)).1 (hr q (by simp)).2 hq, val_one r (hr r (by simp)).1 (hr r (by simp)).2 hv, val_one s (hr s (by simp)).1 (hr s (by simp)).2 hw]
        · intro z hz
          simp only [List.cons_append, List.nil_append, List.mem_cons] at hz
          rcases hz with rfl | rfl | rfl | hz
          · omega
          · omega
          · omega
          · exact i2 z hz

/-- Whole groups stand for themselves. -/
theorem enc_app (n : Nat) : ∀ a t : List Int, a.length = 3 * n → b64h_encGo (a ++ t) 0 0 = b64h_encGo a 0 0 ++ b64h_encGo t 0 0 := by
  induction n with
  | zero =>
    intro a t ha
    have : a = [] := List.length_eq_zero_iff.1 (by omega)
    subst this
    simp [b64h_encGo]
  | succ n ih =>
    intro a t ha
    match a, ha with
    | x :: y :: z :: r, ha =>
      simp only [List.length_cons] at ha
      show b64h_encGo (x :: y :: z :: (r ++ t)) 0 0 = _
      rw [enc3, enc3, ih r t (by omega)]
      rfl
    | [x, y], ha => simp at ha; omega
    | [x], ha => simp at ha; omega
    | [], ha => simp at ha

/-! The reference's Encode. -/
theorem sign_all : ∀ n ∈ List.range 64, nuncioref03_sign.f (n : Int) = some (b64h_sgn (n : Int)) := by decide +kernel
theorem sign_one (n : Int) (h0 : 0 ≤ n) (h1 : n < 64) : nuncioref03_sign.f n = some (b64h_sgn n) := by
  obtain ⟨m, rfl⟩ := Int.eq_ofNat_of_zero_le h0
  exact sign_all m (List.mem_range.2 (by omega))
theorem w64 (n : Int) (h0 : 0 ≤ n) (h1 : n < 4611686018427387904) : wrap64 n = n := by
  unfold wrap64
  omega
theorem drop_byte (s : ByteArray) (i : Int) (h0 : 0 ≤ i) (h : i < (s.size : Int)) : (bytesOf s).drop i.toNat = bt s i :: (bytesOf s).drop (i + 1).toNat := by
  have hl : i.toNat < (bytesOf s).length := by rw [bytesOf_length]; omega
  have hr := rd_bytesOf s i
  unfold rd at hr
  rw [List.getD_eq_getElem?_getD, List.getElem?_eq_getElem hl, Option.getD_some] at hr
  rw [List.drop_eq_getElem_cons hl, hr, show (i + 1).toNat = i.toNat + 1 by omega]
theorem enc_in (s : ByteArray) (out : List Int) (k : Nat) (i n h x : Int) (hx : x < i + 3) (h0 : 0 ≤ x) (hs : x < (s.size : Int)) (hz : s.size ≤ 100000) (n0 : 0 ≤ n) (n1 : n < 65536) (g0 : 0 ≤ h) (g1 : h < 5) (i1 : i < 100000) :
    nuncioref03_Encode.l1 (k + 1) s out i n h x = nuncioref03_Encode.l1 k s out i (n * 256 + bt s x) (h + 1) (x + 1) := by
  have hb := bt_range s x
  simp only [nuncioref03_Encode.l1]
  rw [w64 (i + 3) (by omega) (by omega), if_pos hx, if_pos hs, if_pos h0, w64 (bt s x) (by omega) (by omega), w64 (n * 256) (by omega) (by omega), w64 _ (by omega) (by omega), w64 (h + 1) (by omega) (by omega), w64 (x + 1) (by omega) (by omega)]
theorem enc_out (s : ByteArray) (out : List Int) (k : Nat) (i n h x : Int) (hx : x < i + 3) (h0 : 0 ≤ x) (hs : ¬ x < (s.size : Int)) (hz : s.size ≤ 100000) (n0 : 0 ≤ n) (n1 : n < 65536) (i1 : i < 100000) :
    nuncioref03_Encode.l1 (k + 1) s out i n h x = nuncioref03_Encode.l1 k s out i (n * 256) h (x + 1) := by
  simp only [nuncioref03_Encode.l1]
  rw [w64 (i + 3) (by omega) (by omega), if_pos hx, if_neg hs, w64 (n * 256) (by omega) (by omega), w64 (x + 1) (by omega) (by omega)]
theorem enc_end (s : ByteArray) (out : List Int) (k : Nat) (i n h : Int) (i0 : 0 ≤ i) (i1 : i < 100000) (n0 : 0 ≤ n) (n1 : n < 16777216) (g0 : 1 ≤ h) (g1 : h ≤ 3) (ho : out.length ≤ 200000) :
    nuncioref03_Encode.l1 (k + 1) s out i n h (i + 3) = nuncioref03_Encode.l0 k s (out ++ [b64h_sgn (n / 262144), b64h_sgn (n / 4096 % 64), b64h_sgn (n / 64 % 64), b64h_sgn (n % 64)].take (h + 1).toNat) (i + 3) := by
  simp only [nuncioref03_Encode.l1]
  rw [w64 (i + 3) (by omega) (by omega), if_neg (by omega), Int.tdiv_eq_ediv_of_nonneg n0, Int.tdiv_eq_ediv_of_nonneg n0, Int.tdiv_eq_ediv_of_nonneg n0, w64 (n / 262144) (by omega) (by omega), w64 (n / 4096) (by omega) (by omega), w64 (n / 64) (by omega) (by omega),
    Int.tmod_eq_emod_of_nonneg (by omega), Int.tmod_eq_emod_of_nonneg (by omega), Int.tmod_eq_emod_of_nonneg (by omega), sign_one _ (by omega) (by omega), sign_one _ (by omega) (by omega), sign_one _ (by omega) (by omega), sign_one _ (by omega) (by omega)]
  simp only [Option.bind_some]
  rw [w64 (h + 1) (by omega) (by omega), if_pos (by omega), if_pos (by simp only [List.length_cons, List.length_nil]; omega), if_pos (by rw [List.length_take]; omega)]
theorem ref_enc (s : ByteArray) (hz : s.size ≤ 100000) (m : Nat) : ∀ (k : Nat) (out : List Int) (i : Int), 0 ≤ i → i ≤ (s.size : Int) + 2 → (s.size : Int) - i ≤ 3 * m → out.length ≤ 2 * i.toNat → 5 * m < k →
    nuncioref03_Encode.l0 k s out i = some (strOfNums (out ++ b64h_encGo ((bytesOf s).drop i.toNat) 0 0)) := by
  induction m with
  | zero =>
    intro k out i h0 h1 hm ho hk
    obtain ⟨k, rfl⟩ : ∃ q, k = q + 1 := ⟨k - 1, by omega⟩
    simp only [nuncioref03_Encode.l0]
    rw [if_neg (by omega), List.drop_of_length_le (by rw [bytesOf_length]; omega)]
    simp [b64h_encGo]
  | succ m ih =>
    intro k out i h0 h1 hm ho hk
    by_cases hi : i < (s.size : Int)
    · obtain ⟨k, rfl⟩ : ∃ q, k = q + 1 + 1 + 1 + 1 + 1 := ⟨k - 5, by omega⟩
      have c1 := bt_range s i
      have c2 := bt_range s (i + 1)
      have c3 := bt_range s (i + 1 + 1)
      have hstep : nuncioref03_Encode.l0 (k + 1 + 1 + 1 + 1 + 1) s out i = nuncioref03_Encode.l1 (k + 1 + 1 + 1 + 1) s out i 0 0 i := by
        rw [nuncioref03_Encode.l0, if_pos hi]
      rw [hstep, enc_in s out _ i 0 0 i (by omega) h0 hi hz (by omega) (by omega) (by omega) (by omega) (by omega), drop_byte s i h0 hi]
      by_cases hi2 : i + 1 < (s.size : Int)
      · rw [enc_in s out _ i _ _ (i + 1) (by omega) (by omega) hi2 hz (by omega) (by omega) (by omega) (by omega) (by omega), drop_byte s (i + 1) (by omega) hi2]
        by_cases hi3 : i + 1 + 1 < (s.size : Int)
        · rw [enc_in s out _ i _ _ (i + 1 + 1) (by omega) (by omega) hi3 hz (by omega) (by omega) (by omega) (by omega) (by omega), drop_byte s (i + 1 + 1) (by omega) hi3, show i + 1 + 1 + 1 = i + 3 by omega, enc_end s out _ i _ _ h0 (by omega) (by omega) (by omega) (by omega) (by omega) (by omega)]
          rw [ih k _ (i + 3) (by omega) (by omega) (by omega) (by simp only [List.length_append, List.length_take, List.length_cons, List.length_nil]; omega) (by omega), enc3]
          have e1 : ((0 * 256 + bt s i) * 256 + bt s (i + 1)) * 256 + bt s (i + 1 + 1) = bt s i * 65536 + bt s (i + 1) * 256 + bt s (i + 1 + 1) := by omega
          rw [e1, show ((0 : Int) + 1 + 1 + 1 + 1).toNat = 4 from rfl]
          have a1 : (bt s i * 65536 + bt s (i + 1) * 256 + bt s (i + 1 + 1)) / 262144 = bt s i / 4 % 64 := by omega
          have a2 : (bt s i * 65536 + bt s (i + 1) * 256 + bt s (i + 1 + 1)) / 4096 % 64 = (bt s i % 4 * 256 + bt s (i + 1)) / 16 % 64 := by omega
          have a3 : (bt s i * 65536 + bt s (i + 1) * 256 + bt s (i + 1 + 1)) / 64 % 64 = ((bt s i % 4 * 256 + bt s (i + 1)) % 16 * 256 + bt s (i + 1 + 1)) / 64 % 64 := by omega
          have a4 : (bt s i * 65536 + bt s (i + 1) * 256 + bt s (i + 1 + 1)) % 64 = ((bt s i % 4 * 256 + bt s (i + 1)) % 16 * 256 + bt s (i + 1 + 1)) % 64 := by omega
          rw [a1, a2, a3, a4]
          simp
        · rw [enc_out s out _ i _ _ (i + 1 + 1) (by omega) (by omega) hi3 hz (by omega) (by omega) (by omega), show i + 1 + 1 + 1 = i + 3 by omega, enc_end s out _ i _ _ h0 (by omega) (by omega) (by omega) (by omega) (by omega) (by omega)]
          rw [ih k _ (i + 3) (by omega) (by omega) (by omega) (by simp only [List.length_append, List.length_take, List.length_cons, List.length_nil]; omega) (by omega), List.drop_of_length_le (i := (i + 1 + 1).toNat) (by rw [bytesOf_length]; omega), List.drop_of_length_le (i := (i + 3).toNat) (by rw [bytesOf_length]; omega), enc2]
          have e1 : ((0 * 256 + bt s i) * 256 + bt s (i + 1)) * 256 = bt s i * 65536 + bt s (i + 1) * 256 := by omega
          rw [e1, show ((0 : Int) + 1 + 1 + 1).toNat = 3 from rfl]
          have a1 : (bt s i * 65536 + bt s (i + 1) * 256) / 262144 = bt s i / 4 % 64 := by omega
          have a2 : (bt s i * 65536 + bt s (i + 1) * 256) / 4096 % 64 = (bt s i % 4 * 256 + bt s (i + 1)) / 16 % 64 := by omega
          have a3 : (bt s i * 65536 + bt s (i + 1) * 256) / 64 % 64 = (bt s i % 4 * 256 + bt s (i + 1)) % 16 * 4 % 64 := by omega
          rw [a1, a2, a3]
          simp [b64h_encGo]
      · rw [enc_out s out _ i _ _ (i + 1) (by omega) (by omega) hi2 hz (by omega) (by omega) (by omega), enc_out s out _ i _ _ (i + 1 + 1) (by omega) (by omega) (by omega) hz (by omega) (by omega) (by omega), show i + 1 + 1 + 1 = i + 3 by omega, enc_end s out _ i _ _ h0 (by omega) (by omega) (by omega) (by omega) (by omega) (by omega)]
        rw [ih k _ (i + 3) (by omega) (by omega) (by omega) (by simp only [List.length_append, List.length_take, List.length_cons, List.length_nil]; omega) (by omega), List.drop_of_length_le (i := (i + 1).toNat) (by rw [bytesOf_length]; omega), List.drop_of_length_le (i := (i + 3).toNat) (by rw [bytesOf_length]; omega), enc1]
        have e1 : (0 * 256 + bt s i) * 256 * 256 = bt s i * 65536 := by omega
        rw [e1, show ((0 : Int) + 1 + 1).toNat = 2 from rfl]
        have a1 : (bt s i * 65536) / 262144 = bt s i / 4 % 64 := by omega
        have a2 : (bt s i * 65536) / 4096 % 64 = bt s i % 4 * 16 % 64 := by omega
        rw [a1, a2]
        simp [b64h_encGo]
    · obtain ⟨k, rfl⟩ : ∃ q, k = q + 1 := ⟨k - 1, by omega⟩
      rw [nuncioref03_Encode.l0, if_neg hi, List.drop_of_length_le (by rw [bytesOf_length]; omega)]
      simp [b64h_encGo]
theorem ref_encode (s : ByteArray) (hz : s.size ≤ 100000) (k : Nat) (hk : 5 * s.size + 10 < k) : nuncioref03_Encode.f k s = some (strOfNums (b64h_encGo (bytesOf s) 0 0)) := by
  unfold nuncioref03_Encode.f
  rw [ref_enc s hz (s.size + 1) k [] 0 (by omega) (by omega) (by omega) (by simp) (by omega)]
  simp

/-! The reference's Decode. -/
def num (c : Int) : Int := if b64h_val c = 64 then -1 else b64h_val c
theorem num_all : ∀ n ∈ List.range 256, nuncioref03_number.f 70 (n : Int) = some (num (n : Int)) := by decide +kernel
theorem num_one (s : ByteArray) (x : Int) (k : Nat) (hk : 70 ≤ k) : nuncioref03_number.f k (bt s x) = some (num (bt s x)) := by
  have hb := bt_range s x
  obtain ⟨n, hn⟩ := Int.eq_ofNat_of_zero_le hb.1
  rw [hn]
  exact at_rounds (nuncioref03_number.mono _) hk (num_all n (List.mem_range.2 (by omega)))
/-- What the reference's rounds read, ahead of its last look. -/
def refGo : List Int → Option (List Int)
  | [] => some []
  | [_] => none
  | [p, q] => if b64h_val p = 64 ∨ b64h_val q = 64 then none else some [(b64h_val p * 64 + b64h_val q) / 16]
  | [p, q, r] => if b64h_val p = 64 ∨ b64h_val q = 64 ∨ b64h_val r = 64 then none else some [(b64h_val p * 64 + b64h_val q) / 16, ((b64h_val p * 64 + b64h_val q) % 16 * 64 + b64h_val r) / 4]
  | p :: q :: r :: s :: t => if b64h_val p = 64 ∨ b64h_val q = 64 ∨ b64h_val r = 64 ∨ b64h_val s = 64 then none else
    (refGo t).map ([(b64h_val p * 64 + b64h_val q) / 16, ((b64h_val p * 64 + b64h_val q) % 16 * 64 + b64h_val r) / 4, ((b64h_val p * 64 + b64h_val q) % 16 * 64 + b64h_val r) % 4 * 64 + b64h_val s] ++ ·)
theorem ref_of_dec (n : Nat) : ∀ l x : List Int, l.length ≤ n → b64h_decGo l 0 0 = some x → refGo l = some x := by
  induction n using Nat.strongRecOn with
  | _ n ih =>
    intro l x hl hd
    match l, hl, hd with
    | [], _, hd => simpa [b64h_decGo, refGo] using hd
    | [p], _, hd => rw [dec1] at hd; exact absurd hd (by simp)
    | [p, q], _, hd =>
      by_cases hb : b64h_val p = 64 ∨ b64h_val q = 64
      · rw [dec_bad2 _ _ hb] at hd; exact absurd hd (by simp)
      · rw [dec2 p q (fun e => hb (.inl e)) (fun e => hb (.inr e))] at hd
        simp only [refGo, hb, if_false]
        split at hd
        · exact hd
        · exact absurd hd (by simp)
    | [p, q, r], _, hd =>
      by_cases hb : b64h_val p = 64 ∨ b64h_val q = 64 ∨ b64h_val r = 64
      · rw [dec_bad3 _ _ _ hb] at hd; exact absurd hd (by simp)
      · rw [dec3 p q r (fun e => hb (.inl e)) (fun e => hb (.inr (.inl e))) (fun e => hb (.inr (.inr e)))] at hd
        simp only [refGo, hb, if_false]
        split at hd
        · exact hd
        · exact absurd hd (by simp)
    | p :: q :: r :: s :: t, hl, hd =>
      by_cases hb : b64h_val p = 64 ∨ b64h_val q = 64 ∨ b64h_val r = 64 ∨ b64h_val s = 64
      · rw [dec_bad _ _ _ _ _ hb] at hd; exact absurd hd (by simp)
      · rw [dec4 p q r s t (fun e => hb (.inl e)) (fun e => hb (.inr (.inl e))) (fun e => hb (.inr (.inr (.inl e)))) (fun e => hb (.inr (.inr (.inr e))))] at hd
        obtain ⟨y, hy, rfl⟩ := Option.map_eq_some_iff.1 hd
        simp only [List.length_cons] at hl
        simp only [refGo, hb, if_false, ih t.length (by omega) t y (Nat.le_refl _) hy, Option.map_some]
theorem ref_range (n : Nat) : ∀ l x : List Int, l.length ≤ n → refGo l = some x → (∀ y ∈ x, 0 ≤ y ∧ y ≤ 255) ∧ x.length ≤ l.length := by
  induction n using Nat.strongRecOn with
  | _ n ih =>
    intro l x hl hd
    match l, hl, hd with
    | [], _, hd =>
      have : x = [] := by simpa [refGo] using hd.symm
      subst this
      simp
    | [p], _, hd => simp [refGo] at hd
    | [p, q], _, hd =>
      have rp := b64h_val_range p
      have rq := b64h_val_range q
      by_cases hb : b64h_val p = 64 ∨ b64h_val q = 64
      · simp [refGo, hb] at hd
      · simp only [refGo, hb, if_false] at hd
        obtain rfl := Option.some.inj hd
        refine ⟨?_, by simp⟩
        intro y hy
        simp only [List.mem_cons, List.mem_nil_iff, or_false] at hy
        subst hy
        omega
    | [p, q, r], _, hd =>
      have rp := b64h_val_range p
      have rq := b64h_val_range q
      have rr := b64h_val_range r
      by_cases hb : b64h_val p = 64 ∨ b64h_val q = 64 ∨ b64h_val r = 64
      · simp [refGo, hb] at hd
      · simp only [refGo, hb, if_false] at hd
        obtain rfl := Option.some.inj hd
        refine ⟨?_, by simp⟩
        intro y hy
        simp only [List.mem_cons, List.mem_nil_iff, or_false] at hy
        rcases hy with rfl | rfl <;> omega
    | p :: q :: r :: s :: t, hl, hd =>
      have rp := b64h_val_range p
      have rq := b64h_val_range q
      have rr := b64h_val_range r
      have rs := b64h_val_range s
      by_cases hb : b64h_val p = 64 ∨ b64h_val q = 64 ∨ b64h_val r = 64 ∨ b64h_val s = 64
      · simp [refGo, hb] at hd
      · simp only [refGo, hb, if_false] at hd
        obtain ⟨y, hy, rfl⟩ := Option.map_eq_some_iff.1 hd
        simp only [List.length_cons] at hl
        obtain ⟨i1, i2⟩ := ih t.length (by omega) t y (Nat.le_refl _) hy
        refine ⟨?_, by simp only [List.cons_append, List.nil_append, List.length_cons]; omega⟩
        intro z hz
        simp only [List.cons_append, List.nil_append, List.mem_cons] at hz
        rcases hz with rfl | rfl | rfl | hz
        · omega
        · omega
        · omega
        · exact i1 z hz

/-- The reference's end. -/
def close (s : ByteArray) (y : List Int) : ByteArray × Bool := if b64h_encGo y 0 0 = bytesOf s then (strOfNums y, true) else ((⟨#[]⟩ : ByteArray), false)

theorem dec_in (s : ByteArray) (out : List Int) (k : Nat) (hk : 70 ≤ k) (i n h x : Int) (hx : x < i + 4) (h0 : 0 ≤ x) (hs : x < (s.size : Int)) (hz : s.size ≤ 100000) (n0 : 0 ≤ n) (n1 : n < 262144) (g0 : 0 ≤ h) (g1 : h < 5) (i1 : i < 100000) :
    nuncioref03_Decode.l1 (k + 1) s out i n h x = if b64h_val (bt s x) = 64 then some ((⟨#[]⟩ : ByteArray), false) else nuncioref03_Decode.l1 k s out i (n * 64 + b64h_val (bt s x)) (h + 1) (x + 1) := by
  have hb := b64h_val_range (bt s x)
  simp only [nuncioref03_Decode.l1]
  rw [w64 (i + 4) (by omega) (by omega), if_pos hx, if_pos hs, if_pos h0, num_one s x k hk]
  simp only [Option.bind_some]
  unfold num
  by_cases hv : b64h_val (bt s x) = 64
  · rw [if_pos hv, if_pos hv, if_pos (by omega)]
  · rw [if_neg hv, if_neg hv, if_neg (by omega), w64 (n * 64) (by omega) (by omega), w64 _ (by omega) (by omega), w64 (h + 1) (by omega) (by omega), w64 (x + 1) (by omega) (by omega)]
theorem dec_out (s : ByteArray) (out : List Int) (k : Nat) (i n h x : Int) (hx : x < i + 4) (h0 : 0 ≤ x) (hs : ¬ x < (s.size : Int)) (n0 : 0 ≤ n) (n1 : n < 262144) (i1 : i < 100000) :
    nuncioref03_Decode.l1 (k + 1) s out i n h x = nuncioref03_Decode.l1 k s out i (n * 64) h (x + 1) := by
  simp only [nuncioref03_Decode.l1]
  rw [w64 (i + 4) (by omega) (by omega), if_pos hx, if_neg hs, w64 (n * 64) (by omega) (by omega), w64 (x + 1) (by omega) (by omega)]
theorem dec_end (s : ByteArray) (out : List Int) (k : Nat) (i n h : Int) (i0 : 0 ≤ i) (i1 : i < 100000) (n0 : 0 ≤ n) (n1 : n < 16777216) (g0 : 1 ≤ h) (g1 : h ≤ 4) (ho : out.length ≤ 200000) :
    nuncioref03_Decode.l1 (k + 1) s out i n h (i + 4) = if h < 2 then some ((⟨#[]⟩ : ByteArray), false) else nuncioref03_Decode.l0 k s (out ++ [n / 65536, n / 256 % 256, n % 256].take (h - 1).toNat) (i + 4) := by
  simp only [nuncioref03_Decode.l1]
  rw [w64 (i + 4) (by omega) (by omega), if_neg (by omega), Int.tdiv_eq_ediv_of_nonneg n0, Int.tdiv_eq_ediv_of_nonneg n0, w64 (n / 65536) (by omega) (by omega), w64 (n / 256) (by omega) (by omega)]
  simp only [Option.bind_some]
  by_cases h2 : h < 2
  · rw [if_pos h2, if_pos h2]
  · rw [if_neg h2, if_neg h2, w64 (h - 1) (by omega) (by omega), if_pos (by omega), if_pos (by simp only [List.length_cons, List.length_nil]; omega), if_pos (by rw [List.length_take]; omega), show n / 65536 % 256 = n / 65536 by omega]

theorem ref_close (s : ByteArray) (hz : s.size ≤ 30000) (y : List Int) (hy : ∀ x ∈ y, 0 ≤ x ∧ x ≤ 255) (hl : y.length ≤ 30000) (k : Nat) (hk : 200000 ≤ k) :
    ((nuncioref03_Encode.f k (strOfNums y)).bind fun t122 => (if t122.toList = s.toList then (some (strOfNums y, true)) else (some ((⟨#[]⟩ : ByteArray), false)))) = some (close s y) := by
  rw [ref_encode _ (by rw [strOfNums_size]; omega) k (by rw [strOfNums_size]; omega), bytes_str y hy]
  simp only [Option.bind_some]
  unfold close
  have hr := (dec_enc _ y (Nat.le_refl _) hy).2.1
  by_cases h : b64h_encGo y 0 0 = bytesOf s
  · rw [h, str_bytes, if_pos rfl, if_pos rfl]
  · have hne : ¬ (strOfNums (b64h_encGo y 0 0)).toList = s.toList := by
      intro e
      rw [ByteArray.toList_eq, ByteArray.toList_eq] at e
      apply h
      have := congrArg (List.map fun b : UInt8 => (b.toNat : Int)) e
      rw [← bytes_str _ hr]
      exact this
    rw [if_neg hne, if_neg h]

theorem ref_dec (s : ByteArray) (hz : s.size ≤ 30000) (m : Nat) : ∀ (k : Nat) (out : List Int) (i : Int), 0 ≤ i → i ≤ (s.size : Int) + 3 → (s.size : Int) - i ≤ 4 * m → (out.length : Int) ≤ i → (∀ x ∈ out, 0 ≤ x ∧ x ≤ 255) → out.length ≤ s.size → 6 * m + 200000 < k →
    nuncioref03_Decode.l0 k s out i = some (match refGo ((bytesOf s).drop i.toNat) with | none => ((⟨#[]⟩ : ByteArray), false) | some x => close s (out ++ x)) := by
  induction m with
  | zero =>
    intro k out i h0 h1 hm ho hr hos hk
    obtain ⟨k, rfl⟩ : ∃ q, k = q + 1 := ⟨k - 1, by omega⟩
    simp only [nuncioref03_Decode.l0]
    rw [if_neg (by omega), List.drop_of_length_le (by rw [bytesOf_length]; omega), ref_close s hz out hr (by omega) k (by omega)]
    simp [refGo]
  | succ m ih =>
    intro k out i h0 h1 hm ho hr hos hk
    by_cases hi : i < (s.size : Int)
    · obtain ⟨k, rfl⟩ : ∃ q, k = q + 1 + 1 + 1 + 1 + 1 + 1 := ⟨k - 6, by omega⟩
      have hstep : nuncioref03_Decode.l0 (k + 1 + 1 + 1 + 1 + 1 + 1) s out i = nuncioref03_Decode.l1 (k + 1 + 1 + 1 + 1 + 1) s out i 0 0 i := by
        rw [nuncioref03_Decode.l0, if_pos hi]
      have r1 := b64h_val_range (bt s i)
      have r2 := b64h_val_range (bt s (i + 1))
      have r3 := b64h_val_range (bt s (i + 1 + 1))
      have r4 := b64h_val_range (bt s (i + 1 + 1 + 1))
      rw [hstep, dec_in s out _ (by omega) i 0 0 i (by omega) h0 hi (by omega) (by omega) (by omega) (by omega) (by omega) (by omega), drop_byte s i h0 hi]
      by_cases v1 : b64h_val (bt s i) = 64
      · rw [if_pos v1]
        generalize (bytesOf s).drop (i + 1).toNat = l
        match l with
        | [] => simp [refGo]
        | [q] => simp [refGo, v1]
        | [q, r] => simp [refGo, v1]
        | q :: r :: u :: t => simp [refGo, v1]
      · rw [if_neg v1]
        by_cases hi2 : i + 1 < (s.size : Int)
        · rw [dec_in s out _ (by omega) i _ _ (i + 1) (by omega) (by omega) hi2 (by omega) (by omega) (by omega) (by omega) (by omega) (by omega), drop_byte s (i + 1) (by omega) hi2]
          by_cases v2 : b64h_val (bt s (i + 1)) = 64
          · rw [if_pos v2]
            generalize (bytesOf s).drop (i + 1 + 1).toNat = l
            match l with
            | [] => simp [refGo, v2]
            | [r] => simp [refGo, v2]
            | r :: u :: t => simp [refGo, v2]
          · rw [if_neg v2]
            by_cases hi3 : i + 1 + 1 < (s.size : Int)
            · rw [dec_in s out _ (by omega) i _ _ (i + 1 + 1) (by omega) (by omega) hi3 (by omega) (by omega) (by omega) (by omega) (by omega) (by omega), drop_byte s (i + 1 + 1) (by omega) hi3]
              by_cases v3 : b64h_val (bt s (i + 1 + 1)) = 64
              · rw [if_pos v3]
                generalize (bytesOf s).drop (i + 1 + 1 + 1).toNat = l
                match l with
                | [] => simp [refGo, v3]
                | u :: t => simp [refGo, v3]
              · rw [if_neg v3]
                by_cases hi4 : i + 1 + 1 + 1 < (s.size : Int)
                · rw [dec_in s out _ (by omega) i _ _ (i + 1 + 1 + 1) (by omega) (by omega) hi4 (by omega) (by omega) (by omega) (by omega) (by omega) (by omega), drop_byte s (i + 1 + 1 + 1) (by omega) hi4]
                  by_cases v4 : b64h_val (bt s (i + 1 + 1 + 1)) = 64
                  · rw [if_pos v4]
                    simp [refGo, v4]
                  · rw [if_neg v4, show i + 1 + 1 + 1 + 1 = i + 4 by omega, dec_end s out _ i _ _ h0 (by omega) (by omega) (by omega) (by omega) (by omega) (by omega), if_neg (by omega), show ((0 : Int) + 1 + 1 + 1 + 1 - 1).toNat = 3 from rfl]
                    have a1 : (((0 * 64 + b64h_val (bt s i)) * 64 + b64h_val (bt s (i + 1))) * 64 + b64h_val (bt s (i + 1 + 1))) * 64 + b64h_val (bt s (i + 1 + 1 + 1)) = b64h_val (bt s i) * 262144 + b64h_val (bt s (i + 1)) * 4096 + b64h_val (bt s (i + 1 + 1)) * 64 + b64h_val (bt s (i + 1 + 1 + 1)) := by omega
                    rw [a1]
                    have e1 : (b64h_val (bt s i) * 262144 + b64h_val (bt s (i + 1)) * 4096 + b64h_val (bt s (i + 1 + 1)) * 64 + b64h_val (bt s (i + 1 + 1 + 1))) / 65536 = (b64h_val (bt s i) * 64 + b64h_val (bt s (i + 1))) / 16 := by omega
                    have e2 : (b64h_val (bt s i) * 262144 + b64h_val (bt s (i + 1)) * 4096 + b64h_val (bt s (i + 1 + 1)) * 64 + b64h_val (bt s (i + 1 + 1 + 1))) / 256 % 256 = ((b64h_val (bt s i) * 64 + b64h_val (bt s (i + 1))) % 16 * 64 + b64h_val (bt s (i + 1 + 1))) / 4 := by omega
                    have e3 : (b64h_val (bt s i) * 262144 + b64h_val (bt s (i + 1)) * 4096 + b64h_val (bt s (i + 1 + 1)) * 64 + b64h_val (bt s (i + 1 + 1 + 1))) % 256 = ((b64h_val (bt s i) * 64 + b64h_val (bt s (i + 1))) % 16 * 64 + b64h_val (bt s (i + 1 + 1))) % 4 * 64 + b64h_val (bt s (i + 1 + 1 + 1)) := by omega
                    rw [e1, e2, e3, show (List.take 3 [(b64h_val (bt s i) * 64 + b64h_val (bt s (i + 1))) / 16, ((b64h_val (bt s i) * 64 + b64h_val (bt s (i + 1))) % 16 * 64 + b64h_val (bt s (i + 1 + 1))) / 4, ((b64h_val (bt s i) * 64 + b64h_val (bt s (i + 1))) % 16 * 64 + b64h_val (bt s (i + 1 + 1))) % 4 * 64 + b64h_val (bt s (i + 1 + 1 + 1))]) = [(b64h_val (bt s i) * 64 + b64h_val (bt s (i + 1))) / 16, ((b64h_val (bt s i) * 64 + b64h_val (bt s (i + 1))) % 16 * 64 + b64h_val (bt s (i + 1 + 1))) / 4, ((b64h_val (bt s i) * 64 + b64h_val (bt s (i + 1))) % 16 * 64 + b64h_val (bt s (i + 1 + 1))) % 4 * 64 + b64h_val (bt s (i + 1 + 1 + 1))] from rfl]
                    rw [ih k _ (i + 4) (by omega) (by omega) (by omega) (by simp only [List.length_append, List.length_cons, List.length_nil]; omega) (by
                      intro x hx
                      rcases List.mem_append.1 hx with hx | hx
                      · exact hr x hx
                      · simp only [List.mem_cons, List.mem_nil_iff, or_false] at hx
                        rcases hx with rfl | rfl | rfl <;> omega) (by simp only [List.length_append, List.length_cons, List.length_nil]; omega) (by omega)]
                    simp only [refGo, v1, v2, v3, v4, or_self, if_false]
                    cases refGo ((bytesOf s).drop (i + 4).toNat) <;> simp
                · rw [dec_out s out _ i _ _ (i + 1 + 1 + 1) (by omega) (by omega) hi4 (by omega) (by omega) (by omega), show i + 1 + 1 + 1 + 1 = i + 4 by omega, dec_end s out _ i _ _ h0 (by omega) (by omega) (by omega) (by omega) (by omega) (by omega), if_neg (by omega), show ((0 : Int) + 1 + 1 + 1 - 1).toNat = 2 from rfl]
                  have a1 : (((0 * 64 + b64h_val (bt s i)) * 64 + b64h_val (bt s (i + 1))) * 64 + b64h_val (bt s (i + 1 + 1))) * 64 = b64h_val (bt s i) * 262144 + b64h_val (bt s (i + 1)) * 4096 + b64h_val (bt s (i + 1 + 1)) * 64 := by omega
                  rw [a1]
                  have e1 : (b64h_val (bt s i) * 262144 + b64h_val (bt s (i + 1)) * 4096 + b64h_val (bt s (i + 1 + 1)) * 64) / 65536 = (b64h_val (bt s i) * 64 + b64h_val (bt s (i + 1))) / 16 := by omega
                  have e2 : (b64h_val (bt s i) * 262144 + b64h_val (bt s (i + 1)) * 4096 + b64h_val (bt s (i + 1 + 1)) * 64) / 256 % 256 = ((b64h_val (bt s i) * 64 + b64h_val (bt s (i + 1))) % 16 * 64 + b64h_val (bt s (i + 1 + 1))) / 4 := by omega
                  rw [e1, e2]
                  rw [ih k _ (i + 4) (by omega) (by omega) (by omega) (by simp only [List.length_append, List.length_take, List.length_cons, List.length_nil]; omega) (by
                      intro x hx
                      rcases List.mem_append.1 hx with hx | hx
                      · exact hr x hx
                      · simp only [List.take_succ_cons, List.take_zero, List.mem_cons, List.mem_nil_iff, or_false] at hx
                        rcases hx with rfl | rfl <;> omega) (by simp only [List.length_append, List.length_take, List.length_cons, List.length_nil]; omega) (by omega)]
                  rw [List.drop_of_length_le (i := (i + 1 + 1 + 1).toNat) (by rw [bytesOf_length]; omega), List.drop_of_length_le (i := (i + 4).toNat) (by rw [bytesOf_length]; omega)]
                  simp [refGo, v1, v2, v3]
            · rw [dec_out s out _ i _ _ (i + 1 + 1) (by omega) (by omega) hi3 (by omega) (by omega) (by omega), dec_out s out _ i _ _ (i + 1 + 1 + 1) (by omega) (by omega) (by omega) (by omega) (by omega) (by omega), show i + 1 + 1 + 1 + 1 = i + 4 by omega, dec_end s out _ i _ _ h0 (by omega) (by omega) (by omega) (by omega) (by omega) (by omega), if_neg (by omega), show ((0 : Int) + 1 + 1 - 1).toNat = 1 from rfl]
              have a1 : ((0 * 64 + b64h_val (bt s i)) * 64 + b64h_val (bt s (i + 1))) * 64 * 64 = b64h_val (bt s i) * 262144 + b64h_val (bt s (i + 1)) * 4096 := by omega
              rw [a1]
              have e1 : (b64h_val (bt s i) * 262144 + b64h_val (bt s (i + 1)) * 4096) / 65536 = (b64h_val (bt s i) * 64 + b64h_val (bt s (i + 1))) / 16 := by omega
              rw [e1]
              rw [ih k _ (i + 4) (by omega) (by omega) (by omega) (by simp only [List.length_append, List.length_take, List.length_cons, List.length_nil]; omega) (by
                      intro x hx
                      rcases List.mem_append.1 hx with hx | hx
                      · exact hr x hx
                      · simp only [List.take_succ_cons, List.take_zero, List.mem_cons, List.mem_nil_iff, or_false] at hx
                        subst hx
                        omega) (by simp only [List.length_append, List.length_take, List.length_cons, List.length_nil]; omega) (by omega)]
              rw [List.drop_of_length_le (i := (i + 1 + 1).toNat) (by rw [bytesOf_length]; omega), List.drop_of_length_le (i := (i + 4).toNat) (by rw [bytesOf_length]; omega)]
              simp [refGo, v1, v2]
        · rw [dec_out s out _ i _ _ (i + 1) (by omega) (by omega) hi2 (by omega) (by omega) (by omega), dec_out s out _ i _ _ (i + 1 + 1) (by omega) (by omega) (by omega) (by omega) (by omega) (by omega), dec_out s out _ i _ _ (i + 1 + 1 + 1) (by omega) (by omega) (by omega) (by omega) (by omega) (by omega), show i + 1 + 1 + 1 + 1 = i + 4 by omega, dec_end s out _ i _ _ h0 (by omega) (by omega) (by omega) (by omega) (by omega) (by omega), if_pos (by omega)]
          rw [List.drop_of_length_le (i := (i + 1).toNat) (by rw [bytesOf_length]; omega)]
          simp [refGo]
    · obtain ⟨k, rfl⟩ : ∃ q, k = q + 1 := ⟨k - 1, by omega⟩
      simp only [nuncioref03_Decode.l0]
      rw [if_neg hi, List.drop_of_length_le (by rw [bytesOf_length]; omega), ref_close s hz out hr (by omega) k (by omega)]
      simp [refGo]

end Go.Proofs.Ytfoflodgegehfaa.B64
