/- Bytes come back from their signs; what is read was written with just these signs; of at most 4000 bytes each, as the law says. -/
import Derived.Test.YtkaijdhnnfldkabPB64Backx2
set_option linter.unusedVariables false
set_option linter.unusedSimpArgs false
namespace Go.Proofs.Ytkaijdhnnfldkab.Pure
open Go.RowKit Go.Proofs.Ytkaijdhnnfldkab.PB64Back Go.Proofs.YtkaijdhnnfldkabW.PrintWords Go.Proofs.YtkaijdhnnfldkabW.PrintLast

/-! Bytes and lists of numbers. -/
theorem bytes_range (s : ByteArray) : ∀ x ∈ bytesOf s, 0 ≤ x ∧ x ≤ 255 := by
  intro x hx
  unfold bytesOf at hx
  obtain ⟨b, _, rfl⟩ := List.mem_map.1 hx
  have := b.toNat_lt
  omega
theorem str_bytes (s : ByteArray) : strOfNums (bytesOf s) = s := by
  have : (strOfNums (bytesOf s)).data = s.data := by
    apply Array.toList_inj.1
    rw [strOfNums_data]
    unfold bytesOf
    rw [List.map_map]
    conv => rhs; rw [← List.map_id s.data.toList]
    apply List.map_congr_left
    intro b _
    simp
  cases s
  exact congrArg ByteArray.mk this
theorem bytes_str (l : List Int) (h : ∀ x ∈ l, 0 ≤ x ∧ x ≤ 255) : bytesOf (strOfNums l) = l := by
  unfold bytesOf
  rw [strOfNums_data, List.map_map]
  conv => rhs; rw [← List.map_id l]
  apply List.map_congr_left
  intro x hx
  have := h x hx
  simp only [Function.comp, id, UInt8.toNat_ofNat']
  omega
theorem bytes_app (s t : ByteArray) : bytesOf (s ++ t) = bytesOf s ++ bytesOf t := by
  unfold bytesOf
  rw [ByteArray.data_append, Array.toList_append, List.map_append]
theorem bytes_take (s : ByteArray) (n : Nat) : bytesOf (s.extract 0 n) = (bytesOf s).take n := by
  unfold bytesOf
  rw [ByteArray.data_extract, Array.toList_extract, List.map_take]
  simp [List.extract_eq_take_drop]
theorem str_app (a b : List Int) : strOfNums a ++ strOfNums b = strOfNums (a ++ b) := by
  have : (strOfNums a ++ strOfNums b).data = (strOfNums (a ++ b)).data := by
    apply Array.toList_inj.1
    rw [ByteArray.data_append, Array.toList_append, strOfNums_data, strOfNums_data, strOfNums_data, List.map_append]
  cases h1 : strOfNums a ++ strOfNums b
  cases h2 : strOfNums (a ++ b)
  rw [h1, h2] at this
  exact congrArg ByteArray.mk this

/-! Signs. -/
theorem sgn_all : ∀ n ∈ List.range 64, 0 ≤ b64h_sgn (n : Int) ∧ b64h_sgn (n : Int) ≤ 255 ∧ b64h_val (b64h_sgn (n : Int)) = (n : Int) := by decide +kernel
theorem sgn_one (v : Int) (h0 : 0 ≤ v) (h1 : v < 64) : 0 ≤ b64h_sgn v ∧ b64h_sgn v ≤ 255 ∧ b64h_val (b64h_sgn v) = v := by
  obtain ⟨n, rfl⟩ := Int.eq_ofNat_of_zero_le h0
  exact sgn_all n (List.mem_range.2 (by omega))
theorem val_all : ∀ n ∈ List.range 256, b64h_val (n : Int) ≠ 64 → b64h_sgn (b64h_val (n : Int)) = (n : Int) := by decide +kernel
theorem val_one (c : Int) (h0 : 0 ≤ c) (h1 : c ≤ 255) (hv : b64h_val c ≠ 64) : b64h_sgn (b64h_val c) = c := by
  obtain ⟨n, rfl⟩ := Int.eq_ofNat_of_zero_le h0
  exact val_all n (List.mem_range.2 (by omega)) hv

/-! A whole group. -/
theorem enc3 (a b c : Int) (t : List Int) : b64h_encGo (a :: b :: c :: t) 0 0 = b64h_sgn (a / 4 % 64) :: b64h_sgn ((a % 4 * 256 + b) / 16 % 64) :: b64h_sgn (((a % 4 * 256 + b) % 16 * 256 + c) / 64 % 64) :: b64h_sgn (((a % 4 * 256 + b) % 16 * 256 + c) % 64) :: b64h_encGo t 0 0 := by
  simp [b64h_encGo]
theorem enc1 (a : Int) : b64h_encGo [a] 0 0 = [b64h_sgn (a / 4 % 64), b64h_sgn (a % 4 * 16 % 64)] := by simp [b64h_encGo]
theorem enc2 (a b : Int) : b64h_encGo [a, b] 0 0 = [b64h_sgn (a / 4 % 64), b64h_sgn ((a % 4 * 256 + b) / 16 % 64), b64h_sgn ((a % 4 * 256 + b) % 16 * 4 % 64)] := by simp [b64h_encGo]
theorem dec4 (p q r s : Int) (t : List Int) (hp : b64h_val p ≠ 64) (hq : b64h_val q ≠ 64) (hr : b64h_val r ≠ 64) (hs : b64h_val s ≠ 64) :
    b64h_decGo (p :: q :: r :: s :: t) 0 0 = (b64h_decGo t 0 0).map ([(b64h_val p * 64 + b64h_val q) / 16, ((b64h_val p * 64 + b64h_val q) % 16 * 64 + b64h_val r) / 4, ((b64h_val p * 64 + b64h_val q) % 16 * 64 + b64h_val r) % 4 * 64 + b64h_val s] ++ ·) := by
  simp only [b64h_decGo, hp, hq, hr, hs, if_false, Int.zero_mul, Int.zero_add]
  cases b64h_decGo t 0 0 <;> simp
theorem dec2 (p q : Int) (hp : b64h_val p ≠ 64) (hq : b64h_val q ≠ 64) : b64h_decGo [p, q] 0 0 = if (b64h_val p * 64 + b64h_val q) % 16 = 0 then some [(b64h_val p * 64 + b64h_val q) / 16] else none := by
  by_cases h : (b64h_val p * 64 + b64h_val q) % 16 = 0 <;> simp [b64h_decGo, hp, hq, h]
theorem dec3 (p q r : Int) (hp : b64h_val p ≠ 64) (hq : b64h_val q ≠ 64) (hr : b64h_val r ≠ 64) : b64h_decGo [p, q, r] 0 0 = if ((b64h_val p * 64 + b64h_val q) % 16 * 64 + b64h_val r) % 4 = 0 then some [(b64h_val p * 64 + b64h_val q) / 16, ((b64h_val p * 64 + b64h_val q) % 16 * 64 + b64h_val r) / 4] else none := by
  by_cases h : ((b64h_val p * 64 + b64h_val q) % 16 * 64 + b64h_val r) % 4 = 0 <;> simp [b64h_decGo, hp, hq, hr, h]
theorem dec1 (p : Int) : b64h_decGo [p] 0 0 = none := by
  by_cases h : b64h_val p = 64 <;> simp [b64h_decGo, h]
theorem dec_bad (p q r s : Int) (t : List Int) (h : b64h_val p = 64 ∨ b64h_val q = 64 ∨ b64h_val r = 64 ∨ b64h_val s = 64) : b64h_decGo (p :: q :: r :: s :: t) 0 0 = none := by
  by_cases hp : b64h_val p = 64
  · simp [b64h_decGo, hp]
  · by_cases hq : b64h_val q = 64
    · simp [b64h_decGo, hp, hq]
    · by_cases hr : b64h_val r = 64
      · simp [b64h_decGo, hp, hq, hr]
      · have hs : b64h_val s = 64 := by simpa [hp, hq, hr] using h
        simp [b64h_decGo, hp, hq, hr, hs]
theorem dec_bad3 (p q r : Int) (h : b64h_val p = 64 ∨ b64h_val q = 64 ∨ b64h_val r = 64) : b64h_decGo [p, q, r] 0 0 = none := by
  by_cases hp : b64h_val p = 64
  · simp [b64h_decGo, hp]
  · by_cases hq : b64h_val q = 64
    · simp [b64h_decGo, hp, hq]
    · have hr : b64h_val r = 64 := by simpa [hp, hq] using h
      simp [b64h_decGo, hp, hq, hr]
theorem dec_bad2 (p q : Int) (h : b64h_val p = 64 ∨ b64h_val q = 64) : b64h_decGo [p, q] 0 0 = none := by
  by_cases hp : b64h_val p = 64
  · simp [b64h_decGo, hp]
  · have hq : b64h_val q = 64 := by simpa [hp] using h
    simp [b64h_decGo, hp, hq]

theorem sgn_ne (v : Int) (h0 : 0 ≤ v) (h1 : v < 64) : b64h_val (b64h_sgn v) ≠ 64 := by rw [(sgn_one v h0 h1).2.2]; omega

/-- What was written is read as it was. -/
theorem dec_enc (n : Nat) : ∀ l : List Int, l.length ≤ n → (∀ x ∈ l, 0 ≤ x ∧ x ≤ 255) → b64h_decGo (b64h_encGo l 0 0) 0 0 = some l ∧ (∀ y ∈ b64h_encGo l 0 0, 0 ≤ y ∧ y ≤ 255) ∧ ((b64h_encGo l 0 0).length : Int) = (l.length * 8 + 5) / 6 := by
  induction n using Nat.strongRecOn with
  | _ n ih =>
    intro l hl hr
    match l, hl, hr with
    | [], _, _ => exact ⟨by simp [b64h_encGo, b64h_decGo], by simp [b64h_encGo], by simp [b64h_encGo]⟩
    | [a], _, hr =>
      have ha := hr a (by simp)
      have v1 := sgn_one (a / 4 % 64) (by omega) (by omega)
      have v2 := sgn_one (a % 4 * 16 % 64) (by omega) (by omega)
      rw [enc1, dec2 _ _ (sgn_ne _ (by omega) (by omega)) (sgn_ne _ (by omega) (by omega)), v1.2.2, v2.2.2, if_pos (by omega)]
      refine ⟨by congr 2; omega, ?_, by simp⟩
      intro y hy
      simp only [List.mem_cons, List.mem_nil_iff, or_false] at hy
      rcases hy with rfl | rfl
      · exact ⟨v1.1, v1.2.1⟩
      · exact ⟨v2.1, v2.2.1⟩
    | [a, b], _, hr =>
      have ha := hr a (by simp)
      have hb := hr b (by simp)
      have v1 := sgn_one (a / 4 % 64) (by omega) (by omega)
      have v2 := sgn_one ((a % 4 * 256 + b) / 16 % 64) (by omega) (by omega)
      have v3 := sgn_one ((a % 4 * 256 + b) % 16 * 4 % 64) (by omega) (by omega)
      rw [enc2, dec3 _ _ _ (sgn_ne _ (by omega) (by omega)) (sgn_ne _ (by omega) (by omega)) (sgn_ne _ (by omega) (by omega)), v1.2.2, v2.2.2, v3.2.2, if_pos (by omega)]
      refine ⟨?_, ?_, by simp⟩
      · have e1 : (a / 4 % 64 * 64 + (a % 4 * 256 + b) / 16 % 64) / 16 = a := by omega
        have e2 : ((a / 4 % 64 * 64 + (a % 4 * 256 + b) / 16 % 64) % 16 * 64 + (a % 4 * 256 + b) % 16 * 4 % 64) / 4 = b := by omega
        rw [e1, e2]
      · intro y hy
        simp only [List.mem_cons, List.mem_nil_iff, or_false] at hy
        rcases hy with rfl | rfl | rfl
        · exact ⟨v1.1, v1.2.1⟩
        · exact ⟨v2.1, v2.2.1⟩
        · exact ⟨v3.1, v3.2.1⟩
    | a :: b :: c :: t, hl, hr =>
      have ha := hr a (by simp)
      have hb := hr b (by simp)
      have hc := hr c (by simp)
      simp only [List.length_cons] at hl
      obtain ⟨i1, i2, i3⟩ := ih t.length (by omega) t (Nat.le_refl _) (fun x hx => hr x (by simp [hx]))
      have v1 := sgn_one (a / 4 % 64) (by omega) (by omega)
      have v2 := sgn_one ((a % 4 * 256 + b) / 16 % 64) (by omega) (by omega)
      have v3 := sgn_one (((a % 4 * 256 + b) % 16 * 256 + c) / 64 % 64) (by omega) (by omega)
      have v4 := sgn_one (((a % 4 * 256 + b) % 16 * 256 + c) % 64) (by omega) (by omega)
      rw [enc3, dec4 _ _ _ _ _ (sgn_ne _ (by omega) (by omega)) (sgn_ne _ (by omega) (by omega)) (sgn_ne _ (by omega) (by omega)) (sgn_ne _ (by omega) (by omega)), v1.2.2, v2.2.2, v3.2.2, v4.2.2, i1]
      refine ⟨?_, ?_, by simp only [List.length_cons]; omega⟩
      · have e1 : (a / 4 % 64 * 64 + (a % 4 * 256 + b) / 16 % 64) / 16 = a := by omega
        have e2 : ((a / 4 % 64 * 64 + (a % 4 * 256 + b) / 16 % 64) % 16 * 64 + ((a % 4 * 256 + b) % 16 * 256 + c) / 64 % 64) / 4 = b := by omega
        have e3 : ((a / 4 % 64 * 64 + (a % 4 * 256 + b) / 16 % 64) % 16 * 64 + ((a % 4 * 256 + b) % 16 * 256 + c) / 64 % 64) % 4 * 64 + ((a % 4 * 256 + b) % 16 * 256 + c) % 64 = c := by omega
        rw [e1, e2, e3]
        rfl
      · intro y hy
        simp only [List.mem_cons] at hy
        rcases hy with rfl | rfl | rfl | rfl | hy
        · exact ⟨v1.1, v1.2.1⟩
        · exact ⟨v2.1, v2.2.1⟩
        · exact ⟨v3.1, v3.2.1⟩
        · exact ⟨v4.1, v4.2.1⟩
        · exact i2 y hy

/-- What was read was written with just these signs. -/
theorem enc_dec (n : Nat) : ∀ l x : List Int, l.length ≤ n → (∀ y ∈ l, 0 ≤ y ∧ y ≤ 255) → b64h_decGo l 0 0 = some x → b64h_encGo x 0 0 = l ∧ (∀ y ∈ x, 0 ≤ y ∧ y ≤ 255) ∧ x.length ≤ l.length := by
  induction n using Nat.strongRecOn with
  | _ n ih =>
    intro l x hl hr hd
    match l, hl, hr, hd with
    | [], _, _, hd =>
      have : x = [] := by simpa [b64h_decGo] using hd.symm
      subst this
      simp [b64h_encGo]
    | [p], _, _, hd => rw [dec1] at hd; exact absurd hd (by simp)
    | [p, q], _, hr, hd =>
      by_cases hb : b64h_val p = 64 ∨ b64h_val q = 64
      · rw [dec_bad2 _ _ hb] at hd; exact absurd hd (by simp)
      · have hp : b64h_val p ≠ 64 := fun e => hb (.inl e)
        have hq : b64h_val q ≠ 64 := fun e => hb (.inr e)
        have rp := b64h_val_range p
        have rq := b64h_val_range q
        rw [dec2 p q hp hq] at hd
        by_cases hz : (b64h_val p * 64 + b64h_val q) % 16 = 0
        · rw [if_pos hz] at hd
          obtain rfl := Option.some.inj hd
          have e1 : (b64h_val p * 64 + b64h_val q) / 16 / 4 % 64 = b64h_val p := by omega
          have e2 : (b64h_val p * 64 + b64h_val q) / 16 % 4 * 16 % 64 = b64h_val q := by omega
          refine ⟨?_, ?_, by simp⟩
          · rw [enc1, e1, e2, val_one p (hr p (by simp)).1 (hr p (by simp)).2 hp, val_one q (hr q (by simp)).1 (hr q (by simp)).2 hq]
          · intro y hy
            simp only [List.mem_cons, List.mem_nil_iff, or_false] at hy
            subst hy
            omega
        · rw [if_neg hz] at hd; exact absurd hd (by simp)
    | [p, q, r], _, hr, hd =>
      by_cases hb : b64h_val p = 64 ∨ b64h_val q = 64 ∨ b64h_val r = 64
      · rw [dec_bad3 _ _ _ hb] at hd; exact absurd hd (by simp)
      · have hp : b64h_val p ≠ 64 := fun e => hb (.inl e)
        have hq : b64h_val q ≠ 64 := fun e => hb (.inr (.inl e))
        have hv : b64h_val r ≠ 64 := fun e => hb (.inr (.inr e))
        have rp := b64h_val_range p
        have rq := b64h_val_range q
        have rr := b64h_val_range r
        rw [dec3 p q r hp hq hv] at hd
        by_cases hz : ((b64h_val p * 64 + b64h_val q) % 16 * 64 + b64h_val r) % 4 = 0
        · rw [if_pos hz] at hd
          obtain rfl := Option.some.inj hd
          have e1 : (b64h_val p * 64 + b64h_val q) / 16 / 4 % 64 = b64h_val p := by omega
          have e2 : ((b64h_val p * 64 + b64h_val q) / 16 % 4 * 256 + ((b64h_val p * 64 + b64h_val q) % 16 * 64 + b64h_val r) / 4) / 16 % 64 = b64h_val q := by omega
          have e3 : ((b64h_val p * 64 + b64h_val q) / 16 % 4 * 256 + ((b64h_val p * 64 + b64h_val q) % 16 * 64 + b64h_val r) / 4) % 16 * 4 % 64 = b64h_val r := by omega
          refine ⟨?_, ?_, by simp⟩
          · rw [enc2, e1, e2, e3, val_one p (hr p (by simp)).1 (hr p (by simp)).2 hp, val_one q (hr q (by simp)).1 (hr q (by simp)).2 hq, val_one r (hr r (by simp)).1 (hr r (by simp)).2 hv]
          · intro y hy
            simp only [List.mem_cons, List.mem_nil_iff, or_false] at hy
            rcases hy with rfl | rfl <;> omega
        · rw [if_neg hz] at hd; exact absurd hd (by simp)
    | p :: q :: r :: s :: t, hl, hr, hd =>
      by_cases hb : b64h_val p = 64 ∨ b64h_val q = 64 ∨ b64h_val r = 64 ∨ b64h_val s = 64
      · rw [dec_bad _ _ _ _ _ hb] at hd; exact absurd hd (by simp)
      · have hp : b64h_val p ≠ 64 := fun e => hb (.inl e)
        have hq : b64h_val q ≠ 64 := fun e => hb (.inr (.inl e))
        have hv : b64h_val r ≠ 64 := fun e => hb (.inr (.inr (.inl e)))
        have hw : b64h_val s ≠ 64 := fun e => hb (.inr (.inr (.inr e)))
        have rp := b64h_val_range p
        have rq := b64h_val_range q
        have rr := b64h_val_range r
        have rs := b64h_val_range s
        rw [dec4 p q r s t hp hq hv hw] at hd
        obtain ⟨y, hy, rfl⟩ := Option.map_eq_some_iff.1 hd
        simp only [List.length_cons] at hl
        obtain ⟨i1, i2, i3⟩ := ih t.length (by omega) t y (Nat.le_refl _) (fun x hx => hr x (by simp [hx])) hy
        have e1 : (b64h_val p * 64 + b64h_val q) / 16 / 4 % 64 = b64h_val p := by omega
        have e2 : ((b64h_val p * 64 + b64h_val q) / 16 % 4 * 256 + ((b64h_val p * 64 + b64h_val q) % 16 * 64 + b64h_val r) / 4) / 16 % 64 = b64h_val q := by omega
        have e3 : (((b64h_val p * 64 + b64h_val q) / 16 % 4 * 256 + ((b64h_val p * 64 + b64h_val q) % 16 * 64 + b64h_val r) / 4) % 16 * 256 + (((b64h_val p * 64 + b64h_val q) % 16 * 64 + b64h_val r) % 4 * 64 + b64h_val s)) / 64 % 64 = b64h_val r := by omega
        have e4 : (((b64h_val p * 64 + b64h_val q) / 16 % 4 * 256 + ((b64h_val p * 64 + b64h_val q) % 16 * 64 + b64h_val r) / 4) % 16 * 256 + (((b64h_val p * 64 + b64h_val q) % 16 * 64 + b64h_val r) % 4 * 64 + b64h_val s)) % 64 = b64h_val s := by omega
        refine ⟨?_, ?_, by simp only [List.cons_append, List.nil_append, List.length_cons]; omega⟩
        · show b64h_encGo (_ :: _ :: _ :: y) 0 0 = _
          rw [enc3, e1, e2, e3, e4, i1, val_one p (hr p (by simp)).1 (hr p (by simp)).2 hp, val_one q (hr q (by simp)).1 (hr q (by simp)).2 hq, val_one r (hr r (by simp)).1 (hr r (by simp)).2 hv, val_one s (hr s (by simp)).1 (hr s (by simp)).2 hw]
        · intro z hz
          simp only [List.cons_append, List.nil_append, List.mem_cons] at hz
          rcases hz with rfl | rfl | rfl | hz
          · omega
          · omega
          · omega
          · exact i2 z hz

/-- Whole groups stand for themselves. -/
theorem enc_app (n : Nat) : ∀ a t : List Int, a.length = 3 * n → b64h_encGo (a ++ t) 0 0 = b64h_encGo a 0 0 ++ b64h_encGo t 0 0 := by
  induction n with
  | zero =>
    intro a t ha
    have : a = [] := List.length_eq_zero_iff.1 (by omega)
    subst this
    simp [b64h_encGo]
  | succ n ih =>
    intro a t ha
    match a, ha with
    | x :: y :: z :: r, ha =>
      simp only [List.length_cons] at ha
      show b64h_encGo (x :: y :: z :: (r ++ t)) 0 0 = _
      rw [enc3, enc3, ih r t (by omega)]
      rfl
    | [x, y], ha => simp at ha; omega
    | [x], ha => simp at ha; omega
    | [], ha => simp at ha

theorem awake_true : nunciolaw03_awake.f = some true := by decide +kernel

theorem enc_some (s : ByteArray) (h : s.size ≤ 100000) : b64_Encode.f s = some (strOfNums (b64h_encGo (bytesOf s) 0 0)) := by
  unfold b64_Encode.f
  rw [if_pos h]
theorem dec_some (s : ByteArray) (h : s.size ≤ 100000) : b64_Decode.f s = some (match b64h_decGo (bytesOf s) 0 0 with
  | none => ((⟨#[]⟩ : ByteArray), false)
  | some l => (strOfNums l, true)) := by
  unfold b64_Decode.f
  rw [if_pos h]
  cases b64h_decGo (bytesOf s) 0 0 <;> rfl

theorem second (t : ByteArray) (ht : t.size ≤ 4000) (k : Nat) : nunciolaw03_B64Back.j1 (k + 1) t false = some true := by
  simp only [nunciolaw03_B64Back.j1]
  rw [if_neg (by simp), dec_some t (by omega)]
  simp only [Option.bind_some]
  cases hd : b64h_decGo (bytesOf t) 0 0 with
  | none => 
    simp only
    rw [if_neg (by simp), if_pos (by decide +kernel)]
  | some x =>
    simp only [if_true]
    obtain ⟨e1, e2, e3⟩ := enc_dec _ (bytesOf t) x (Nat.le_refl _) (bytes_range t) hd
    rw [bytesOf_length] at e3
    rw [enc_some _ (by rw [strOfNums_size]; omega), bytes_str x e2, e1, str_bytes]
    simp

theorem B64Back : nunciolaw03_B64Back.Pure := by
  intro s t _ _
  refine ⟨5, ?_⟩
  unfold nunciolaw03_B64Back.f
  rw [awake_true]
  simp only [Option.bind_some, if_true]
  by_cases h1 : (s.size : Int) > 4000
  · rw [if_pos h1]
    simp [nunciolaw03_B64Back.j0]
  · rw [if_neg h1]
    by_cases h2 : (t.size : Int) > 4000
    · simp [nunciolaw03_B64Back.j0, h2]
    · simp only [h2, decide_false, nunciolaw03_B64Back.j0]
      obtain ⟨d1, d2, d3⟩ := dec_enc _ (bytesOf s) (Nat.le_refl _) (bytes_range s)
      rw [bytesOf_length] at d3
      rw [if_neg (by simp), enc_some s (by omega)]
      simp only [Option.bind_some]
      rw [dec_some _ (by rw [strOfNums_size]; omega), bytes_str _ d2, d1]
      simp only [Option.bind_some, if_true, str_bytes]
      have hl : (((strOfNums (b64h_encGo (bytesOf s) 0 0)).size : Int) != wrap64 ((wrap64 (wrap64 ((s.size : Int) * 8) + 5)).tdiv 6)) = false := by
        rw [strOfNums_size, bne_eq_false_iff_eq, d3]
        have w1 : wrap64 ((s.size : Int) * 8) = (s.size : Int) * 8 := by unfold wrap64; omega
        have w2 : wrap64 ((s.size : Int) * 8 + 5) = (s.size : Int) * 8 + 5 := by unfold wrap64; omega
        rw [w1, w2, Int.tdiv_eq_ediv_of_nonneg (by omega)]
        unfold wrap64
        omega
      rw [hl]
      exact second t (by omega) 3

end Go.Proofs.Ytkaijdhnnfldkab.Pure
