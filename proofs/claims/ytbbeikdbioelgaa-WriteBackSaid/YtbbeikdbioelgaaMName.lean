/- Walks of package name: split, Is. -/
import Derived.Test.YtbbeikdbioelgaaMBase
set_option linter.unusedVariables false
set_option linter.unusedSimpArgs false
namespace Go.Proofs.Ytbbeikdbioelgaa.M
open Go.RowKit Go.Proofs.YtbbeikdbioelgaaW.PrintWords Go.Proofs.YtbbeikdbioelgaaW.PrintLast Go.Proofs.YtbbeikdbioelgaaW.PrintMore
attribute [local go_sem] max2_int min2_int max_two min_two max_three min_three max_four min_four

/-- A text's byte, as a natural number. -/
def nb (s : ByteArray) (i : Nat) : Nat := if h : i < s.size then (s[i]'h).toNat else 0
theorem nb_lt (s : ByteArray) (i : Nat) : nb s i < 256 := by
  unfold nb
  split
  · exact UInt8.toNat_lt _
  · omega
theorem nb_at (s : ByteArray) (i : Nat) : ∀ h : i < s.size, ((s[i]'h).toNat : Int) = (nb s i : Int) := by
  intro h
  unfold nb
  rw [dif_pos h]
/-- The labels of a name, and whether it is one. -/
def splitF : Nat → ByteArray → List ByteArray → List ByteArray × Bool
  | 0, _, _ => ([], false)
  | k + 1, s, out => if s.size = 0 then ([], false) else if nb s 0 = 0 then (out, s.size == 1) else if 63 < nb s 0 ∨ s.size ≤ nb s 0 then ([], false)
    else splitF k (s.extract (nb s 0 + 1) s.size) (out ++ [s.extract 1 (nb s 0 + 1)])
def split (s : ByteArray) : List ByteArray × Bool := if 255 < s.size then ([], false) else splitF (s.size + 1) s []
def isName (s : ByteArray) : Bool := (split s).2

theorem one_beq (a : Nat) : ((a : Int) == 1) = (a == 1) := by
  rw [Bool.eq_iff_iff]
  simp only [beq_iff_eq]
  omega
set_option maxHeartbeats 2000000 in
set_option maxRecDepth 100000 in
theorem split_calls (s : ByteArray) (w : World) :
    Calls Try.prog 59 #[.string s] w fun e w' => ∃ v, e = .returned (.tuple #[v, .bool (split s).2]) ∧ Kd.R Kd.string 9 w' w.heap.size (fun _ => True) v (split s).1 ∧ Below w.heap.size w w' := by
  have HB := Aside0.mk (Below.refl w.heap.size w)
  obtain ⟨r, hr⟩ : ∃ r, split s = r := ⟨_, rfl⟩
  rw [hr]
  by_cases hl : 255 < s.size
  · obtain rfl : r = ([], false) := by rw [← hr]; unfold split; rw [if_pos hl]
    have h1 : decide ((255 : Int) < (s.size : Int)) = true := decide_eq_true (by omega)
    have h2 : decide (255 < s.size) = true := decide_eq_true hl
    clear hl hr
    go_enter Try.func59, Try.ntmps59
    go_wp2
    go_ret2
    exact ⟨_, rfl, Kd.R_nil _ _ _ _ _, HB.out⟩
  · have h1 : decide ((255 : Int) < (s.size : Int)) = false := decide_eq_false (by omega)
    have h2 : decide (255 < s.size) = false := decide_eq_false hl
    have HR := Aside0.mk (show splitF (s.size + 1) s [] = r by rw [← hr]; unfold split; rw [if_neg hl])
    have HS := Aside0.mk (show s.size ≤ 255 by omega)
    clear hl hr
    go_enter Try.func59, Try.ntmps59
    go_wp2
    go_loopg [0, 4] (s.size + 1) (fun kq v0 v4 w' => ∃ (x : ByteArray) (out : List ByteArray), v0 = .string x ∧ Aside0 (splitF kq x out = r) ∧ Aside0 (x.size < kq) ∧ Aside0 (x.size ≤ 255) ∧ Aside0 (out.length + x.size ≤ 255) ∧ Aside0 (Kd.R Kd.string 9 w' w.heap.size (fun _ => True) v4 out) ∧ Aside0 (Below w.heap.size w w'))
    case atStart => exact ⟨s, [], rfl, HR, ⟨Nat.lt_succ_self _⟩, HS, ⟨by simpa using HS.out⟩, ⟨Kd.R_nil _ _ _ _ _⟩, HB⟩
    case round =>
      clear HR HB h1 h2
      obtain ⟨x, out, rfl, HR, HK, HX, HL, HO, HB⟩ := hrel
      obtain ⟨k, rfl⟩ : ∃ k, gk = k + 1 := ⟨gk - 1, by have := HK.out; omega⟩
      have hr := HR.out
      simp only [splitF] at hr
      clear HR
      by_cases c1 : x.size = 0
      · rw [if_pos c1] at hr
        subst hr
        have d1 : decide ((0 : Int) < (x.size : Int)) = false := decide_eq_false (by omega)
        have d2 : decide (0 < x.size) = false := decide_eq_false (by omega)
        clear c1
        go_wp2
        go_ret2
        exact ⟨_, rfl, Kd.R_nil _ _ _ _ _, HB.out⟩
      · rw [if_neg c1] at hr
        have q1 : 0 < x.size := by omega
        have d1 : decide ((0 : Int) < (x.size : Int)) = true := decide_eq_true (by omega)
        have d2 : decide (0 < x.size) = true := decide_eq_true (by omega)
        have hx := nb_at x 0
        have hn := nb_lt x 0
        obtain ⟨n, hnb⟩ : ∃ n, nb x 0 = n := ⟨_, rfl⟩
        rw [hnb] at hx hn hr
        clear hnb c1
        by_cases c2 : n = 0
        · subst c2
          rw [if_pos rfl] at hr
          subst hr
          go_wp2
          go_ret2
          exact ⟨_, by rw [← one_beq]; rfl, HO.out, HB.out⟩
        · rw [if_neg c2] at hr
          have q2 : (0 : Int) < (n : Int) := by omega
          have q3 : (n : Int) ≤ 255 := by omega
          have e2 : ((n : Int) == 0) = false := beq_eq_false_iff_ne.mpr (by omega)
          clear c2
          by_cases c3 : 63 < n ∨ x.size ≤ n
          · rw [if_pos c3] at hr
            subst hr
            by_cases c4 : 63 < n
            · have e3 : decide ((63 : Int) < (n : Int)) = true := decide_eq_true (by omega)
              clear c3 c4
              go_wp2
              go_ret2
              exact ⟨_, rfl, Kd.R_nil _ _ _ _ _, HB.out⟩
            · have e3 : decide ((63 : Int) < (n : Int)) = false := decide_eq_false (by omega)
              have e4 : x.size ≤ n := by omega
              clear c3 c4
              go_wp2
              go_ret2
              exact ⟨_, rfl, Kd.R_nil _ _ _ _ _, HB.out⟩
          · rw [if_neg c3] at hr
            have HR := Aside0.mk hr
            clear hr
            have e3 : decide ((63 : Int) < (n : Int)) = false := decide_eq_false (by omega)
            have e4 : decide (x.size ≤ n) = false := decide_eq_false (by omega)
            have q4 : (n : Int) + 1 ≤ (x.size : Int) := by omega
            have q5 : (1 : Int) ≤ (n : Int) + 1 := by omega
            have q6 : (0 : Int) ≤ (n : Int) + 1 := by omega
            clear c3
            have HS2 := Aside0.mk (show (out.length + 1) * 16 ≤ 140737488355328 by have := HL.out; omega)
            go_wp2_with ((with_reducible refine gate_builtin (b := .append) (xs := #[.tmp 29, .tmp 34]) rfl ?_); at_builtin; refine appS rfl (.tmp 29) (.tmp 34) rfl rfl rfl HO.out HB.out (fun _ _ _ => trivial) (below_size HB.out) HS2.out ?_; intro v1 w1 ho1 hb1 hg1 hat1; have HO1 := Aside0.mk ho1; have HB1 := Aside0.mk hb1; clear ho1 hb1 hg1 hat1)
            go_roundg k
            case measure => omega
            case rel => exact ⟨_, _, rfl, HR, ⟨by have := HK.out; simp [ByteArray.size_extract]; omega⟩, ⟨by have := HX.out; simp [ByteArray.size_extract]; omega⟩, ⟨by have := HL.out; simp [ByteArray.size_extract]; omega⟩, HO1, HB1⟩

theorem isName_yes (s : ByteArray) (w : World) (h : isName s = true) : Calls Try.prog 40 #[.string s] w fun e w' => e = .returned (.bool true) ∧ Below w.heap.size w w' := by
  have h0 : (split s).2 = true := h
  have H := Lib.hid h0
  clear h h0
  go_enter Try.func40, Try.ntmps40
  go_wp2_with (go_at_call 59; refine (split_calls s _).mono ?_; rintro e w' ⟨v, rfl, _, hb⟩; rw [H.out]; have HB := Aside0.mk hb; clear hb)
  go_ret
  exact ⟨rfl, HB.out⟩
theorem isName_no (s : ByteArray) (w : World) (h : isName s = false) : Calls Try.prog 40 #[.string s] w fun e w' => e = .returned (.bool false) ∧ Below w.heap.size w w' := by
  have h0 : (split s).2 = false := h
  have H := Lib.hid h0
  clear h h0
  go_enter Try.func40, Try.ntmps40
  go_wp2_with (go_at_call 59; refine (split_calls s _).mono ?_; rintro e w' ⟨v, rfl, _, hb⟩; rw [H.out]; have HB := Aside0.mk hb; clear hb)
  go_ret
  exact ⟨rfl, HB.out⟩
end Go.Proofs.Ytbbeikdbioelgaa.M
