/- Walks of nuncioref20: Count, pseudos. -/
import Derived.Test.YtdpoookgmckclaaDoorMHRefA
import Derived.Test.YtdpoookgmckclaaDoorMHOther
import Derived.Test.YtdpoookgmckclaaDoorMHFew
set_option linter.unusedVariables false
set_option linter.unusedSimpArgs false
namespace Go.Proofs.YtdpoookgmckclaaDoor.M
open Go.RowKit Go.Maps Go.Proofs.YtdpoookgmckclaaDoorW.PrintWords Go.Proofs.YtdpoookgmckclaaDoorW.PrintLast Go.Proofs.YtdpoookgmckclaaDoorW.PrintMore
attribute [local go_sem] max2_int min2_int max_two min_two max_three min_three max_four min_four
attribute [local go_sem ↓] Go.wp_at_zero Go.wp_at_succ
/-- How often a name is there. -/
def cntN (l : List Fld) (n : ByteArray) : Nat := l.countP fun f => decide (f.1 = n)
theorem cntN_cons (f : Fld) (l : List Fld) (n : ByteArray) : cntN (f :: l) n = cntN l n + if f.1 = n then 1 else 0 := by
  unfold cntN
  rw [List.countP_cons]
  by_cases h : f.1 = n <;> simp [h]
theorem cntN_le (l : List Fld) (n : ByteArray) : cntN l n ≤ l.length := List.countP_le_length
theorem nps_cons (f : Fld) (l : List Fld) : nps (f :: l) = nps l + if pseudoB f = true then 1 else 0 := by
  unfold nps
  rw [List.countP_cons]
theorem nps_le (l : List Fld) : nps l ≤ l.length := List.countP_le_length
theorem drop_fl {xs : List Fl} {k : Nat} (hk : k < xs.length) {x : Fl} (hx : xs.getD k zFl = x) : (xs.map Fl.f).drop k = x.f :: (xs.map Fl.f).drop (k + 1) := by
  rw [List.drop_eq_getElem_cons (by rw [List.length_map]; exact hk), List.getElem_map]
  rw [List.getD_eq_getElem?_getD, List.getElem?_eq_getElem hk] at hx
  rw [show xs[k] = x from hx]
theorem mem_fl {xs : List Fl} {k : Nat} (hk : k < xs.length) {x : Fl} (hx : xs.getD k zFl = x) : x ∈ xs := by
  rw [List.getD_eq_getElem?_getD, List.getElem?_eq_getElem hk] at hx
  rw [← hx]
  exact List.getElem_mem hk
theorem drop_all (xs : List Fl) : (xs.map Fl.f).drop xs.length = [] := List.drop_of_length_le (by rw [List.length_map]; exact Nat.le_refl _)
/-- The first value found, or none so far. -/
def CntV (c : Nat) (a V v : ByteArray) : Prop := if c = 0 then a = V ∧ v = ⟨#[]⟩ else v = V
set_option maxHeartbeats 8000000 in
set_option maxRecDepth 100000 in
theorem count_calls (A : Option Addr) (cp : Nat) (xs : List Fl) (s : ByteArray) (w : World) (hr : kF.C w A xs.length xs) (hcp : xs.length ≤ cp) (hl : xs.length ≤ 1000000) :
    Calls Tryd.prog 18 #[.slice A xs.length cp, .string s] w fun e w' => e = .returned (.tuple #[.int .i64 (cntN (xs.map Fl.f) s : Nat), .string (valN (xs.map Fl.f) s)]) ∧ Below w.heap.size w w' := by
  have HRd := Aside0.mk hr
  have HB := Aside0.mk (Below.refl w.heap.size w)
  obtain ⟨C, hC⟩ : ∃ C, cntN (xs.map Fl.f) s = C := ⟨_, rfl⟩
  obtain ⟨V, hV⟩ : ∃ V, valN (xs.map Fl.f) s = V := ⟨_, rfl⟩
  have HC := Aside0.mk (show 0 + cntN ((xs.map Fl.f).drop 0) s = C by rw [Nat.zero_add]; exact hC)
  have HV := Aside0.mk (show CntV 0 (valN ((xs.map Fl.f).drop 0) s) V ⟨#[]⟩ from ⟨hV, rfl⟩)
  rw [hC, hV]
  clear hC hV hr
  go_enter Tryd.func18, Tryd.ntmps18
  go_wp2_with fail
  go_loopg [6, 7, 8] xs.length (fun kq v6 v7 v8 w' => ∃ (k c : Nat) (v : ByteArray), v8 = .int .i64 k ∧ v6 = .int .i64 c ∧ v7 = .string v ∧ Aside0 (kq + k = xs.length) ∧ Aside0 (c ≤ k) ∧ Aside0 (c + cntN ((xs.map Fl.f).drop k) s = C) ∧ Aside0 (CntV c (valN ((xs.map Fl.f).drop k) s) V v) ∧ Aside0 (Below w.heap.size w w'))
  case atStart => exact ⟨0, 0, ⟨#[]⟩, rfl, rfl, rfl, ⟨rfl⟩, ⟨Nat.le_refl _⟩, HC, HV, HB⟩
  case round =>
    clear HB HC HV
    obtain ⟨k, c, v, rfl, rfl, rfl, HK, HN, HC, HV, HB⟩ := hrel
    cases gk with
    | zero =>
      obtain rfl : k = xs.length := by have := HK.out; omega
      have hc := HC.out
      have hv := HV.out
      unfold CntV at hv
      rw [drop_all] at hc hv
      obtain rfl : c = C := hc
      have HVv := Lib.hid (show v = V by
        by_cases h0 : c = 0
        · rw [if_pos h0] at hv
          rw [hv.2, ← hv.1]
          rfl
        · rw [if_neg h0] at hv
          exact hv)
      clear hv HC HV
      go_wp2_with fail
      go_ret2
      exact ⟨by rw [← HVv.out]; rfl, HB.out⟩
    | succ j =>
      have hk : k < xs.length := by have := HK.out; omega
      obtain ⟨ad, x, rfl, hx, e0, e1, e2⟩ := at_fl (Kd.C_below HRd.out HB.out) k hk
      have hc := HC.out
      have hv := HV.out
      unfold CntV at hv
      rw [drop_fl hk hx] at hc hv
      rw [cntN_cons] at hc
      rw [valN_cons] at hv
      have q1 : (0 : Int) ≤ (k : Int) := by omega
      have q2 : (k : Int) < (xs.length : Int) := by omega
      have hw : IntKind.i64.wrap ((c : Int) + 1) = ((c + 1 : Nat) : Int) := by rw [IntKind.wrap_i64]; have := HN.out; omega
      have ht := text_dec x.n s
      by_cases hn : x.n = s
      · rw [decide_eq_true hn] at ht
        have hn' : x.f.1 = s := hn
        rw [if_pos hn'] at hc hv
        by_cases h0 : c = 0
        · subst h0
          rw [if_pos rfl] at hv
          have HC2 := Aside0.mk (show 0 + 1 + cntN ((xs.map Fl.f).drop (k + 1)) s = C by omega)
          have HV2 := Aside0.mk (show CntV (0 + 1) (valN ((xs.map Fl.f).drop (k + 1)) s) V x.v by unfold CntV; rw [if_neg (by omega)]; exact hv.1)
          clear hc hv hn hn' hx HC HV
          go_wp2_with fail
          go_roundg j
          case measure => omega
          case rel => exact ⟨k + 1, 0 + 1, x.v, by go_num, by go_num, rfl, ⟨by have := HK.out; omega⟩, ⟨by omega⟩, HC2, HV2, HB⟩
        · rw [if_neg h0] at hv
          have d1 : ((c : Int) == 0) = false := by rw [beq_eq_false_iff_ne]; omega
          have d2 : (c == 0) = false := beq_eq_false_iff_ne.mpr h0
          have HC2 := Aside0.mk (show c + 1 + cntN ((xs.map Fl.f).drop (k + 1)) s = C by omega)
          have HV2 := Aside0.mk (show CntV (c + 1) (valN ((xs.map Fl.f).drop (k + 1)) s) V v by unfold CntV; rw [if_neg (by omega)]; exact hv)
          clear hc hv hn hn' hx HC HV
          go_wp2_with fail
          go_roundg j
          case measure => omega
          case rel => exact ⟨k + 1, c + 1, v, by go_num, by go_num, rfl, ⟨by have := HK.out; omega⟩, ⟨by have := HN.out; omega⟩, HC2, HV2, HB⟩
      · rw [decide_eq_false hn] at ht
        have hn' : ¬ x.f.1 = s := hn
        rw [if_neg hn'] at hc hv
        have HC2 := Aside0.mk (show c + cntN ((xs.map Fl.f).drop (k + 1)) s = C by omega)
        have HV2 := Aside0.mk (show CntV c (valN ((xs.map Fl.f).drop (k + 1)) s) V v from hv)
        clear hc hv hn hn' hx HC HV
        go_wp2_with fail
        go_roundg j
        case measure => omega
        case rel => exact ⟨k + 1, c, v, by go_num, by go_num, rfl, ⟨by have := HK.out; omega⟩, ⟨by have := HN.out; omega⟩, HC2, HV2, HB⟩
set_option maxHeartbeats 8000000 in
set_option maxRecDepth 100000 in
theorem pseudos_calls (A : Option Addr) (cp : Nat) (xs : List Fl) (w : World) (hr : kF.C w A xs.length xs) (hcp : xs.length ≤ cp) (hF : FewF xs) :
    Calls Tryd.prog 19 #[.slice A xs.length cp] w fun e w' => e = .returned (.int .i64 (nps (xs.map Fl.f) : Nat)) ∧ Below w.heap.size w w' := by
  have HRd := Aside0.mk hr
  have HF := Aside0.mk hF
  have HB := Aside0.mk (Below.refl w.heap.size w)
  have hl := hF.len
  obtain ⟨C, hC⟩ : ∃ C, nps (xs.map Fl.f) = C := ⟨_, rfl⟩
  have HC := Aside0.mk (show 0 + nps ((xs.map Fl.f).drop 0) = C by rw [Nat.zero_add]; exact hC)
  rw [hC]
  clear hC hr hF
  go_enter Tryd.func19, Tryd.ntmps19
  go_wp2_with fail
  go_loopg [3, 4] xs.length (fun kq v3 v4 w' => ∃ (k c : Nat), v4 = .int .i64 k ∧ v3 = .int .i64 c ∧ Aside0 (kq + k = xs.length) ∧ Aside0 (c ≤ k) ∧ Aside0 (c + nps ((xs.map Fl.f).drop k) = C) ∧ Aside0 (Below w.heap.size w w'))
  case atStart => exact ⟨0, 0, rfl, rfl, ⟨rfl⟩, ⟨Nat.le_refl _⟩, HC, HB⟩
  case round =>
    clear HB HC
    obtain ⟨k, c, rfl, rfl, HK, HN, HC, HB⟩ := hrel
    cases gk with
    | zero =>
      obtain rfl : k = xs.length := by have := HK.out; omega
      have hc := HC.out
      rw [drop_all] at hc
      obtain rfl : c = C := hc
      clear HC
      go_wp2_with fail
      go_ret
      exact ⟨rfl, HB.out⟩
    | succ j =>
      have hk : k < xs.length := by have := HK.out; omega
      obtain ⟨ad, x, rfl, hx, e0, e1, e2⟩ := at_fl (Kd.C_below HRd.out HB.out) k hk
      have hc := HC.out
      rw [drop_fl hk hx, nps_cons] at hc
      have HSn := Lib.hid (HF.out.n x (mem_fl hk hx))
      have q1 : (0 : Int) ≤ (k : Int) := by omega
      have q2 : (k : Int) < (xs.length : Int) := by omega
      have hw : IntKind.i64.wrap ((c : Int) + 1) = ((c + 1 : Nat) : Int) := by rw [IntKind.wrap_i64]; have := HN.out; omega
      have hc : c + (nps ((xs.map Fl.f).drop (k + 1)) + if pseudoS x.n = true then 1 else 0) = C := hc
      have HCc := Lib.hid hc
      clear hc hx HC
      go_wp2_with fail
      refine (pseudoR_calls x _ (by have := HSn.out; omega)).mono ?_
      rintro e w2 ⟨rfl, hb⟩
      have HB2 := Aside0.mk (below_step HB.out hb)
      clear hb HB
      cases hp : pseudoS x.n with
      | true =>
        have hc := HCc.out
        rw [hp, if_pos rfl] at hc
        have HC2 := Aside0.mk (show c + 1 + nps ((xs.map Fl.f).drop (k + 1)) = C by omega)
        clear hp hc HCc e0 e1 e2
        go_wp2_with fail
        go_roundg j
        case measure => omega
        case rel => exact ⟨k + 1, c + 1, by go_num, by go_num, ⟨by have := HK.out; omega⟩, ⟨by have := HN.out; omega⟩, HC2, HB2⟩
      | false =>
        have hc := HCc.out
        rw [hp, if_neg (by decide)] at hc
        have HC2 := Aside0.mk (show c + nps ((xs.map Fl.f).drop (k + 1)) = C by omega)
        clear hp hc HCc e0 e1 e2
        go_wp2_with fail
        go_roundg j
        case measure => omega
        case rel => exact ⟨k + 1, c, by go_num, by go_num, ⟨by have := HK.out; omega⟩, ⟨by have := HN.out; omega⟩, HC2, HB2⟩
end Go.Proofs.YtdpoookgmckclaaDoor.M
