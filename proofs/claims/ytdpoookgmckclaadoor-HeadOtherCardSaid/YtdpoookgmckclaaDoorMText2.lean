/- Walks of package text and of its reference: bytes; all; Token. -/
import Derived.Test.YtdpoookgmckclaaDoorMTFold
import Derived.Test.YtdpoookgmckclaaDoorMRFold
import Derived.Test.YtdpoookgmckclaaDoorMShelf
set_option linter.unusedVariables false
set_option linter.unusedSimpArgs false
namespace Go.Proofs.YtdpoookgmckclaaDoor.M
open Go.RowKit Go.Maps Go.Proofs.YtdpoookgmckclaaDoorW.PrintWords Go.Proofs.YtdpoookgmckclaaDoorW.PrintLast Go.Proofs.YtdpoookgmckclaaDoorW.PrintMore
attribute [local go_sem] max2_int min2_int max_two min_two max_three min_three max_four min_four
attribute [local go_sem ↓] Go.wp_at_zero Go.wp_at_succ
def shownI (c : Int) : Bool := decide (c = 9 ∨ (32 ≤ c ∧ c ≤ 126) ∨ 128 ≤ c)
def signL : List Int := [33, 35, 36, 37, 38, 39, 42, 43, 45, 46, 94, 95, 96, 124, 126]
def signI (c : Int) : Bool := decide ((97 ≤ c ∧ c ≤ 122) ∨ (65 ≤ c ∧ c ≤ 90) ∨ (48 ≤ c ∧ c ≤ 57)) || signL.contains c
def blankI (c : Int) : Bool := decide (c = 9 ∨ c = 32)
def signB : ByteArray := ⟨#[33, 35, 36, 37, 38, 39, 42, 43, 45, 46, 94, 95, 96, 124, 126]⟩
theorem sign_tab : ∀ n : Fin 256, decide (0 ≤ Lib.indexByte signB.data.toList n.val.toUInt8) = signL.contains (n.val : Int) := by decide +kernel
theorem sign_at (c : Int) (h0 : 0 ≤ c) (h1 : c < 256) : decide (0 ≤ Lib.indexByte signB.data.toList c.toNat.toUInt8) = signL.contains c := by
  have := sign_tab ⟨c.toNat, by omega⟩
  simp only at this
  rw [this, Int.toNat_of_nonneg h0]
set_option maxHeartbeats 2000000 in
theorem blank_calls (c : Int) (w : World) : Calls Tryd.prog 41 #[.int .u8 c] w fun e w' => e = .returned (.bool (blankI c)) ∧ w = w' := by
  go_enter Tryd.func41, Tryd.ntmps41
  go_wp2_with fail
  all_goals
    go_ret
    refine ⟨congrArg (fun x => Ending.returned (.bool x)) ?_, rfl⟩
    simp only [blankI]
    rw [Bool.eq_iff_iff]
    simp
    try omega
set_option maxHeartbeats 2000000 in
theorem shown_calls (c : Int) (h0 : 0 ≤ c) (h1 : c < 256) (w : World) : Calls Tryd.prog 62 #[.int .u8 c] w fun e w' => e = .returned (.bool (shownI c)) ∧ w = w' := by
  go_enter Tryd.func62, Tryd.ntmps62
  go_wp2_with fail
  all_goals
    go_ret
    refine ⟨congrArg (fun x => Ending.returned (.bool x)) ?_, rfl⟩
    simp only [shownI]
    rw [Bool.eq_iff_iff]
    simp
    try omega
set_option maxHeartbeats 2000000 in
theorem sign_calls (c : Int) (h0 : 0 ≤ c) (h1 : c < 256) (w : World) : Calls Tryd.prog 61 #[.int .u8 c] w fun e w' => e = .returned (.bool (signI c)) ∧ w = w' := by
  go_enter Tryd.func61, Tryd.ntmps61
  go_wp2_with (refine (Tryd.strings_IndexByte signB c _).mono ?_; rintro e w1 ⟨rfl, rfl⟩)
  all_goals
    go_ret
    refine ⟨congrArg (fun x => Ending.returned (.bool x)) ?_, rfl⟩
    have hs := sign_at c h0 h1
    simp only [signI, ← hs]
    rw [Bool.eq_iff_iff]
    simp
    try omega
set_option maxHeartbeats 4000000 in
set_option maxRecDepth 100000 in
theorem all_sign (s : ByteArray) (w : World) (hs : s.size ≤ 1000000000000) :
    Calls Tryd.prog 60 #[.string s, .func (.func 61) #[] #[]] w fun e w' => e = .returned (.bool ((bytesOf s).all signI)) ∧ Below w.heap.size w w' := by
  have kb := fun W => print_bytes (P := Tryd.prog) 9 63 5 Tryd.underlying9 Tryd.underlying63 Tryd.underlying5 s W
  obtain ⟨R, hR⟩ : ∃ R, (bytesOf s).all signI = R := ⟨_, rfl⟩
  rw [hR]
  have HR := Aside0.mk (show ((bytesOf s).drop 0).all signI = R from hR)
  clear hR
  go_enter Tryd.func60, Tryd.ntmps60
  go_wp2_with fail
  have hB := bytes_below (Below.refl w.heap.size w) (Nat.le_refl _) 5 s
  have hY := mine_bytes_cells w 5 s
  clear kb
  generalize hC : grownCap w s.size 0 5 = C
  generalize hW : Lib.bytesWorld w 5 s = wB at *
  obtain ⟨G, hG⟩ : ∃ G, w.heap.size = G := ⟨_, rfl⟩
  rw [hG] at hY
  simp only [hG]
  have HB := Aside0.mk hB
  have HY := Aside0.mk hY
  have HS := Lib.hid hs
  have q3 : (s.size : Int) ≤ 1000000000000 := by omega
  clear hC hW hG hB hY hs
  go_loopg [10] s.size (fun kq v10 w' => ∃ j : Nat, v10 = .int .i64 j ∧ Aside0 (kq + j = s.size) ∧ Aside0 (((bytesOf s).drop j).all signI = R) ∧ Aside0 (w' = wB))
  case atStart => exact ⟨0, rfl, ⟨rfl⟩, HR, ⟨rfl⟩⟩
  case round =>
    clear HR
    obtain ⟨j, rfl, HK, HR, HW⟩ := hrel
    obtain rfl := HW.out
    cases gk with
    | zero =>
      obtain rfl : j = s.size := by have := HK.out; omega
      obtain rfl : R = true := by rw [← HR.out, List.drop_of_length_le (by rw [bytesOf_length]; omega)]; rfl
      go_wp2_with fail
      go_ret
      exact ⟨rfl, HB.out⟩
    | succ k =>
      have hj : j < s.size := by have := HK.out; omega
      have hx := HY.out j hj
      obtain ⟨c0, c1⟩ := bt_range s j
      have hr := HR.out
      rw [drop_bytes s j hj, List.all_cons] at hr
      obtain ⟨c, hc⟩ : ∃ c, bt s (j : Int) = c := ⟨_, rfl⟩
      rw [hc] at hx c0 c1 hr
      have q1 : (0 : Int) ≤ (j : Int) := by omega
      have q2 : (j : Int) < (s.size : Int) := by omega
      clear hc
      have HRr := Lib.hid hr
      clear hr
      go_wp2_with fail
      refine (sign_calls c c0 c1 _).mono ?_
      rintro e w1 ⟨rfl, hw1⟩
      subst hw1
      cases hg : signI c with
      | false =>
        obtain rfl : R = false := by rw [← HRr.out, hg]; rfl
        clear hg
        go_wp2_with fail
        go_ret
        exact ⟨rfl, HB.out⟩
      | true =>
        have HR2 := Aside0.mk (show ((bytesOf s).drop (j + 1)).all signI = R by rw [← HRr.out, hg]; rfl)
        clear hg
        go_wp2_with fail
        go_roundg k
        case measure => omega
        case rel => exact ⟨j + 1, by go_num, ⟨by have := HK.out; omega⟩, HR2, ⟨rfl⟩⟩
set_option maxHeartbeats 4000000 in
set_option maxRecDepth 100000 in
theorem all_shown (s : ByteArray) (w : World) (hs : s.size ≤ 1000000000000) :
    Calls Tryd.prog 60 #[.string s, .func (.func 62) #[] #[]] w fun e w' => e = .returned (.bool ((bytesOf s).all shownI)) ∧ Below w.heap.size w w' := by
  have kb := fun W => print_bytes (P := Tryd.prog) 9 63 5 Tryd.underlying9 Tryd.underlying63 Tryd.underlying5 s W
  obtain ⟨R, hR⟩ : ∃ R, (bytesOf s).all shownI = R := ⟨_, rfl⟩
  rw [hR]
  have HR := Aside0.mk (show ((bytesOf s).drop 0).all shownI = R from hR)
  clear hR
  go_enter Tryd.func60, Tryd.ntmps60
  go_wp2_with fail
  have hB := bytes_below (Below.refl w.heap.size w) (Nat.le_refl _) 5 s
  have hY := mine_bytes_cells w 5 s
  clear kb
  generalize hC : grownCap w s.size 0 5 = C
  generalize hW : Lib.bytesWorld w 5 s = wB at *
  obtain ⟨G, hG⟩ : ∃ G, w.heap.size = G := ⟨_, rfl⟩
  rw [hG] at hY
  simp only [hG]
  have HB := Aside0.mk hB
  have HY := Aside0.mk hY
  have HS := Lib.hid hs
  have q3 : (s.size : Int) ≤ 1000000000000 := by omega
  clear hC hW hG hB hY hs
  go_loopg [10] s.size (fun kq v10 w' => ∃ j : Nat, v10 = .int .i64 j ∧ Aside0 (kq + j = s.size) ∧ Aside0 (((bytesOf s).drop j).all shownI = R) ∧ Aside0 (w' = wB))
  case atStart => exact ⟨0, rfl, ⟨rfl⟩, HR, ⟨rfl⟩⟩
  case round =>
    clear HR
    obtain ⟨j, rfl, HK, HR, HW⟩ := hrel
    obtain rfl := HW.out
    cases gk with
    | zero =>
      obtain rfl : j = s.size := by have := HK.out; omega
      obtain rfl : R = true := by rw [← HR.out, List.drop_of_length_le (by rw [bytesOf_length]; omega)]; rfl
      go_wp2_with fail
      go_ret
      exact ⟨rfl, HB.out⟩
    | succ k =>
      have hj : j < s.size := by have := HK.out; omega
      have hx := HY.out j hj
      obtain ⟨c0, c1⟩ := bt_range s j
      have hr := HR.out
      rw [drop_bytes s j hj, List.all_cons] at hr
      obtain ⟨c, hc⟩ : ∃ c, bt s (j : Int) = c := ⟨_, rfl⟩
      rw [hc] at hx c0 c1 hr
      have q1 : (0 : Int) ≤ (j : Int) := by omega
      have q2 : (j : Int) < (s.size : Int) := by omega
      clear hc
      have HRr := Lib.hid hr
      clear hr
      go_wp2_with fail
      refine (shown_calls c c0 c1 _).mono ?_
      rintro e w1 ⟨rfl, hw1⟩
      subst hw1
      cases hg : shownI c with
      | false =>
        obtain rfl : R = false := by rw [← HRr.out, hg]; rfl
        clear hg
        go_wp2_with fail
        go_ret
        exact ⟨rfl, HB.out⟩
      | true =>
        have HR2 := Aside0.mk (show ((bytesOf s).drop (j + 1)).all shownI = R by rw [← HRr.out, hg]; rfl)
        clear hg
        go_wp2_with fail
        go_roundg k
        case measure => omega
        case rel => exact ⟨j + 1, by go_num, ⟨by have := HK.out; omega⟩, HR2, ⟨rfl⟩⟩
def tokenF (s : ByteArray) : Bool := !decide (s.size = 0) && (bytesOf s).all signI
set_option maxHeartbeats 2000000 in
theorem token_calls (s : ByteArray) (w : World) (hs : s.size ≤ 1000000000000) :
    Calls Tryd.prog 44 #[.string s] w fun e w' => e = .returned (.bool (tokenF s)) ∧ Below w.heap.size w w' := by
  have HB := Aside0.mk (Below.refl w.heap.size w)
  by_cases h : s.size = 0
  · have hz := size_zero h
    subst hz
    go_enter Tryd.func44, Tryd.ntmps44
    go_wp2_with fail
    go_ret
    exact ⟨rfl, HB.out⟩
  · have hT : tokenF s = (bytesOf s).all signI := by unfold tokenF; simp [h]
    have d1 : s.toList.isEmpty = false := text_some h
    have HT := Lib.hid hT
    clear hT
    go_enter Tryd.func44, Tryd.ntmps44
    go_wp2_with fail
    refine (all_sign s _ hs).mono ?_
    rintro e w1 ⟨rfl, hb⟩
    have HB1 := Aside0.mk hb
    clear hb
    have HE := Lib.hid HT.out.symm
    go_wp2_with fail
    go_ret
    exact ⟨congrArg (fun x => Ending.returned (.bool x)) HE.out, HB1.out⟩
end Go.Proofs.YtdpoookgmckclaaDoor.M
