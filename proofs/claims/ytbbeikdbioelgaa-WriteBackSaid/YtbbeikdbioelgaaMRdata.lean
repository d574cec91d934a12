/- Walks of package rdata, and of what it calls of package slices. -/
import Derived.Test.YtbbeikdbioelgaaMName
set_option linter.unusedVariables false
set_option linter.unusedSimpArgs false
namespace Go.Proofs.Ytbbeikdbioelgaa.M
open Go.RowKit Go.Proofs.YtbbeikdbioelgaaW.PrintWords Go.Proofs.YtbbeikdbioelgaaW.PrintLast Go.Proofs.YtbbeikdbioelgaaW.PrintMore
attribute [local go_sem] max2_int min2_int max_two min_two max_three min_three max_four min_four

def idxOf (p : ByteArray → Bool) (xs : List ByteArray) : Int := match xs.findIdx? p with | some i => i | none => -1

theorem upto_succ {P : Nat → Prop} {k : Nat} (h : ∀ j, j < k → P j) (hk : P k) : ∀ j, j < k + 1 → P j := by
  intro j hj
  by_cases e : j = k
  · rw [e]; exact hk
  · exact h j (by omega)
theorem idxOf_yes {p : ByteArray → Bool} {xs : List ByteArray} {k : Nat} (h : ∀ j, j < k → p (xs.getD j ⟨#[]⟩) = false) (hk : k < xs.length) (hp : p (xs.getD k ⟨#[]⟩) = true) : idxOf p xs = k := by
  unfold idxOf
  have : xs.findIdx? p = some k := by
    rw [List.findIdx?_eq_some_iff_getElem]
    refine ⟨hk, ?_, fun j hj => ?_⟩
    · simpa [List.getD_eq_getElem?_getD, List.getElem?_eq_getElem hk] using hp
    · have := h j hj
      simpa [List.getD_eq_getElem?_getD, List.getElem?_eq_getElem (show j < xs.length by omega)] using this
  rw [this]
theorem idxOf_no {p : ByteArray → Bool} {xs : List ByteArray} (h : ∀ j, j < xs.length → p (xs.getD j ⟨#[]⟩) = false) : idxOf p xs = -1 := by
  unfold idxOf
  have : xs.findIdx? p = none := by
    rw [List.findIdx?_eq_none_iff]
    intro x hx
    obtain ⟨j, hj, rfl⟩ := List.getElem_of_mem hx
    have := h j hj
    simpa [List.getD_eq_getElem?_getD, List.getElem?_eq_getElem hj] using this
  rw [this]
/-- A text longer than a character string may be. -/
def tooLong (s : ByteArray) : Bool := decide (255 < s.size)
theorem tooLong_yes (s : ByteArray) (w : World) (h : tooLong s = true) : Calls Try.prog 76 #[.string s] w fun e w' => e = .returned (.bool true) ∧ Below w.heap.size w w' := by
  have h1 : decide (255 < s.size) = true := h
  have h2 : decide ((255 : Int) < (s.size : Int)) = true := decide_eq_true (by have := of_decide_eq_true h1; omega)
  clear h
  go_enter Try.func76, Try.ntmps76
  go_wp2
  go_ret
  exact ⟨rfl, Below.refl _ _⟩
theorem tooLong_no (s : ByteArray) (w : World) (h : tooLong s = false) : Calls Try.prog 76 #[.string s] w fun e w' => e = .returned (.bool false) ∧ Below w.heap.size w w' := by
  have h1 : decide (255 < s.size) = false := h
  have h2 : decide ((255 : Int) < (s.size : Int)) = false := decide_eq_false (by have := of_decide_eq_false h1; omega)
  clear h
  go_enter Try.func76, Try.ntmps76
  go_wp2
  go_ret
  exact ⟨rfl, Below.refl _ _⟩
set_option maxHeartbeats 1000000 in
theorem IndexFunc_tooLong (A : Option Addr) (c : Nat) (xs : List ByteArray) (w : World) (hr : Kd.string.C w A xs.length xs) (hm : xs.length ≤ 1000000000000) :
    Calls Try.prog 74 #[.slice A xs.length c, .func (.func 76) #[] #[]] w fun e w' => e = .returned (.int .i64 (idxOf tooLong xs)) ∧ Below w.heap.size w w' := by
  have HC := Aside0.mk hr
  have HB := Aside0.mk (Below.refl w.heap.size w)
  clear hr
  go_enter Try.func74, Try.ntmps74
  go_wp2
  go_loopw [8] (fun t wr => ∃ k : Nat, t = .int .i64 k ∧ Aside0 (k ≤ xs.length) ∧ Aside0 (∀ j, j < k → tooLong (xs.getD j ⟨#[]⟩) = false) ∧ Aside0 (Below w.heap.size w wr)) (fun t _ => xs.length - (intOf t).toNat)
  case atStart => exact ⟨0, rfl, ⟨Nat.zero_le _⟩, ⟨fun j hj => absurd hj (by omega)⟩, HB⟩
  case round =>
    clear HB
    obtain ⟨k, rfl, HK, HN, HB⟩ := hrel
    by_cases hk : k < xs.length
    · obtain ⟨ad, rfl, hcell⟩ := at_str (Kd.C_below HC.out HB.out) k hk
      have q1 : (0 : Int) ≤ (k : Int) := by omega
      have q2 : (k : Int) < (xs.length : Int) := by omega
      obtain ⟨s, hs⟩ : ∃ s, xs.getD k ⟨#[]⟩ = s := ⟨_, rfl⟩
      rw [hs] at hcell
      have HS := Lib.hid hs
      clear hs
      by_cases hq : tooLong s = true
      · have HQ := Lib.hid hq
        clear hq
        go_wp2_with (go_at_call 76; refine (tooLong_yes s _ HQ.out).mono ?_; rintro e w' ⟨rfl, hb⟩; have HB' := Aside0.mk (HB.out.trans (hb.mono (below_size HB.out))); clear hb)
        go_ret
        exact ⟨by rw [idxOf_yes HN.out hk (by rw [HS.out]; exact HQ.out)]; rfl, HB'.out⟩
      · have HQ := Lib.hid (Bool.eq_false_iff.mpr hq)
        clear hq
        go_wp2_with (go_at_call 76; refine (tooLong_no s _ HQ.out).mono ?_; rintro e w' ⟨rfl, hb⟩; have HB' := Aside0.mk (HB.out.trans (hb.mono (below_size HB.out))); clear hb)
        go_roundw
        case rel => exact ⟨k + 1, by go_num, ⟨hk⟩, ⟨upto_succ HN.out (by rw [HS.out]; exact HQ.out)⟩, HB'⟩
        case measure => simp [intOf]; omega
    · go_wp2
      go_ret
      have := HK.out
      obtain rfl : k = xs.length := by omega
      exact ⟨by rw [idxOf_no HN.out]; rfl, HB.out⟩
def notName (s : ByteArray) : Bool := !isName s
theorem notName_yes (s : ByteArray) (w : World) (h : notName s = true) : Calls Try.prog 61 #[.string s] w fun e w' => e = .returned (.bool true) ∧ Below w.heap.size w w' := by
  have H := Lib.hid (show isName s = false by unfold notName at h; simpa using h)
  clear h
  go_enter Try.func61, Try.ntmps61
  go_wp2_with (go_at_call 40; refine (isName_no s _ H.out).mono ?_; rintro e w' ⟨rfl, hb⟩; have HB := Aside0.mk hb; clear hb)
  go_ret
  exact ⟨rfl, HB.out⟩
theorem notName_no (s : ByteArray) (w : World) (h : notName s = false) : Calls Try.prog 61 #[.string s] w fun e w' => e = .returned (.bool false) ∧ Below w.heap.size w w' := by
  have H := Lib.hid (show isName s = true by unfold notName at h; simpa using h)
  clear h
  go_enter Try.func61, Try.ntmps61
  go_wp2_with (go_at_call 40; refine (isName_yes s _ H.out).mono ?_; rintro e w' ⟨rfl, hb⟩; have HB := Aside0.mk hb; clear hb)
  go_ret
  exact ⟨rfl, HB.out⟩
set_option maxHeartbeats 1000000 in
theorem IndexFunc_notName (A : Option Addr) (c : Nat) (xs : List ByteArray) (w : World) (hr : Kd.string.C w A xs.length xs) (hm : xs.length ≤ 1000000000000) :
    Calls Try.prog 74 #[.slice A xs.length c, .func (.func 61) #[] #[]] w fun e w' => e = .returned (.int .i64 (idxOf notName xs)) ∧ Below w.heap.size w w' := by
  have HC := Aside0.mk hr
  have HB := Aside0.mk (Below.refl w.heap.size w)
  clear hr
  go_enter Try.func74, Try.ntmps74
  go_wp2
  go_loopw [8] (fun t wr => ∃ k : Nat, t = .int .i64 k ∧ Aside0 (k ≤ xs.length) ∧ Aside0 (∀ j, j < k → notName (xs.getD j ⟨#[]⟩) = false) ∧ Aside0 (Below w.heap.size w wr)) (fun t _ => xs.length - (intOf t).toNat)
  case atStart => exact ⟨0, rfl, ⟨Nat.zero_le _⟩, ⟨fun j hj => absurd hj (by omega)⟩, HB⟩
  case round =>
    clear HB
    obtain ⟨k, rfl, HK, HN, HB⟩ := hrel
    by_cases hk : k < xs.length
    · obtain ⟨ad, rfl, hcell⟩ := at_str (Kd.C_below HC.out HB.out) k hk
      have q1 : (0 : Int) ≤ (k : Int) := by omega
      have q2 : (k : Int) < (xs.length : Int) := by omega
      obtain ⟨s, hs⟩ : ∃ s, xs.getD k ⟨#[]⟩ = s := ⟨_, rfl⟩
      rw [hs] at hcell
      have HS := Lib.hid hs
      clear hs
      by_cases hq : notName s = true
      · have HQ := Lib.hid hq
        clear hq
        go_wp2_with (go_at_call 61; refine (notName_yes s _ HQ.out).mono ?_; rintro e w' ⟨rfl, hb⟩; have HB' := Aside0.mk (HB.out.trans (hb.mono (below_size HB.out))); clear hb)
        go_ret
        exact ⟨by rw [idxOf_yes HN.out hk (by rw [HS.out]; exact HQ.out)]; rfl, HB'.out⟩
      · have HQ := Lib.hid (Bool.eq_false_iff.mpr hq)
        clear hq
        go_wp2_with (go_at_call 61; refine (notName_no s _ HQ.out).mono ?_; rintro e w' ⟨rfl, hb⟩; have HB' := Aside0.mk (HB.out.trans (hb.mono (below_size HB.out))); clear hb)
        go_roundw
        case rel => exact ⟨k + 1, by go_num, ⟨hk⟩, ⟨upto_succ HN.out (by rw [HS.out]; exact HQ.out)⟩, HB'⟩
        case measure => simp [intOf]; omega
    · go_wp2
      go_ret
      have := HK.out
      obtain rfl : k = xs.length := by omega
      exact ⟨by rw [idxOf_no HN.out]; rfl, HB.out⟩
theorem idxOf_any {p : ByteArray → Bool} {xs : List ByteArray} : (0 ≤ idxOf p xs ↔ xs.any p = true) ∧ idxOf p xs ≤ xs.length ∧ -1 ≤ idxOf p xs := by
  unfold idxOf
  cases h : xs.findIdx? p with
  | none =>
    rw [List.findIdx?_eq_none_iff] at h
    refine ⟨⟨fun h0 => absurd h0 (by decide), fun h1 => ?_⟩, by simp, by simp⟩
    obtain ⟨x, hx, hp⟩ := List.any_eq_true.1 h1
    rw [h x hx] at hp
    exact absurd hp (by decide)
  | some i =>
    obtain ⟨hi, hp, _⟩ := List.findIdx?_eq_some_iff_getElem.1 h
    refine ⟨⟨fun _ => List.any_eq_true.2 ⟨_, List.getElem_mem hi, hp⟩, fun _ => by simp⟩, by simp; omega, by simp only []; omega⟩
theorem Contains_tooLong (A : Option Addr) (c : Nat) (xs : List ByteArray) (w : World) (hr : Kd.string.C w A xs.length xs) (hm : xs.length ≤ 1000000000000) (b : Bool) (hb : xs.any tooLong = b) :
    Calls Try.prog 60 #[.slice A xs.length c, .func (.func 76) #[] #[]] w fun e w' => e = .returned (.bool b) ∧ Below w.heap.size w w' := by
  obtain ⟨h1, h2, h3⟩ := @idxOf_any tooLong xs
  obtain ⟨i, hi⟩ : ∃ i, idxOf tooLong xs = i := ⟨_, rfl⟩
  rw [hi] at h1 h2 h3
  have HI := Lib.hid hi
  have HC := Aside0.mk hr
  have HF := Lib.hid (show decide (0 ≤ i) = b by rw [← hb, Bool.eq_iff_iff, decide_eq_true_iff]; exact h1)
  clear hi hb hr h1
  go_enter Try.func60, Try.ntmps60
  go_wp2_with (go_at_call 74; refine (IndexFunc_tooLong A c xs _ HC.out hm).mono ?_; rw [HI.out]; rintro e w' ⟨rfl, hb⟩; have HB := Aside0.mk hb; clear hb)
  go_ret
  exact ⟨by rw [← HF.out]; rfl, HB.out⟩
theorem Contains_notName (A : Option Addr) (c : Nat) (xs : List ByteArray) (w : World) (hr : Kd.string.C w A xs.length xs) (hm : xs.length ≤ 1000000000000) (b : Bool) (hb : xs.any notName = b) :
    Calls Try.prog 60 #[.slice A xs.length c, .func (.func 61) #[] #[]] w fun e w' => e = .returned (.bool b) ∧ Below w.heap.size w w' := by
  obtain ⟨h1, h2, h3⟩ := @idxOf_any notName xs
  obtain ⟨i, hi⟩ : ∃ i, idxOf notName xs = i := ⟨_, rfl⟩
  rw [hi] at h1 h2 h3
  have HI := Lib.hid hi
  have HC := Aside0.mk hr
  have HF := Lib.hid (show decide (0 ≤ i) = b by rw [← hb, Bool.eq_iff_iff, decide_eq_true_iff]; exact h1)
  clear hi hb hr h1
  go_enter Try.func60, Try.ntmps60
  go_wp2_with (go_at_call 74; refine (IndexFunc_notName A c xs _ HC.out hm).mono ?_; rw [HI.out]; rintro e w' ⟨rfl, hb⟩; have HB := Aside0.mk hb; clear hb)
  go_ret
  exact ⟨by rw [← HF.out]; rfl, HB.out⟩
end Go.Proofs.Ytbbeikdbioelgaa.M
