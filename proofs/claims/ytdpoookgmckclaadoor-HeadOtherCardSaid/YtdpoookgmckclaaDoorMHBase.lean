/- Walks of package head: a field in memory; strings.TrimPrefix; right, barred. -/
import Derived.Test.YtdpoookgmckclaaDoorMHPure
import Derived.Test.YtdpoookgmckclaaDoorMJDraw
import Derived.Test.YtdpoookgmckclaaDoorMSBox
import Derived.Laws.Concat
set_option linter.unusedVariables false
set_option linter.unusedSimpArgs false
namespace Go.Proofs.YtdpoookgmckclaaDoor.M
open Go.RowKit Go.Maps Go.Proofs.YtdpoookgmckclaaDoorW.PrintWords Go.Proofs.YtdpoookgmckclaaDoorW.PrintLast Go.Proofs.YtdpoookgmckclaaDoorW.PrintMore
attribute [local go_sem] max2_int min2_int max_two min_two max_three min_three max_four min_four
attribute [local go_sem ↓] Go.wp_at_zero Go.wp_at_succ
/-- A field in memory. -/
structure Fl where
  n : ByteArray
  v : ByteArray
  nv : Bool
def Fl.f (x : Fl) : Fld := (x.n, x.v)
def Fl.cs (x : Fl) : Array Value := #[.string x.n, .string x.v, .bool x.nv]
def zFl : Fl := ⟨⟨#[]⟩, ⟨#[]⟩, false⟩
def kF : Kd Fl := Kd.iso (Kd.pair Kd.string (Kd.pair Kd.string Kd.bool)) (fun x : Fl => (x.n, x.v, x.nv))
theorem kF_open {w : World} {x : Fl} {cs : List Value} (h : kF.K w x cs) : cs = [.string x.n, .string x.v, .bool x.nv] := by
  obtain ⟨_, _, rfl, rfl, ⟨_, _, rfl, rfl, rfl⟩⟩ := h
  rfl
theorem kF_mk (w : World) (x : Fl) : kF.K w x [.string x.n, .string x.v, .bool x.nv] := ⟨[.string x.n], [.string x.v, .bool x.nv], rfl, rfl, ⟨[.string x.v], [.bool x.nv], rfl, rfl, rfl⟩⟩
theorem kF_mkM (w : World) (base : Nat) (ok : Nat → Prop) (x : Fl) : kF.M w base ok x [.string x.n, .string x.v, .bool x.nv] := ⟨[.string x.n], [.string x.v, .bool x.nv], rfl, rfl, ⟨[.string x.v], [.bool x.nv], rfl, rfl, rfl⟩⟩
theorem at_fl {w : World} {A : Option Addr} {n : Nat} {xs : List Fl} (h : kF.C w A n xs) (k : Nat) (h1 : k < n) : ∃ ad x, A = some ad ∧ xs.getD k zFl = x ∧ w.cell? (ad.add (k * 3)) = some (.string x.n) ∧ w.cell? ⟨(ad.add (k * 3)).block, (ad.add (k * 3)).off + 1, none⟩ = some (.string x.v) ∧ w.cell? ⟨(ad.add (k * 3)).block, (ad.add (k * 3)).off + 2, none⟩ = some (.bool x.nv) := by
  obtain ⟨ad, c, e, _, hK, hc0⟩ := Kd.C_get h zFl (k : Int) (by omega) (by omega)
  have hc : ∀ j u, c[j]? = some u → w.cell? (ad.add (((k : Int)).toNat * 3 + j)) = some u := hc0
  rw [Int.toNat_natCast] at hc
  obtain rfl := kF_open hK
  exact ⟨ad, _, e, rfl, hc 0 _ rfl, by rw [← add_field _ _ 1 (by omega)]; exact hc 1 _ rfl, by rw [← add_field _ _ 2 (by omega)]; exact hc 2 _ rfl⟩
def colT : ByteArray := ⟨#[58]⟩
theorem text_inj {s t : ByteArray} (h : bytesOf s = bytesOf t) : s = t := tb_inj h
theorem pre_one (s : ByteArray) (h : s.size ≠ 0) : (s.extract 0 1 = colT) ↔ bt s 0 = 58 := by
  have hb : bytesOf (s.extract 0 1) = [bt s 0] := by
    rw [tb_take]
    have := take_bytes s 0 (by omega)
    rw [List.take_zero, List.nil_append] at this
    exact this
  constructor
  · intro e
    rw [e] at hb
    exact (List.cons.inj hb).1.symm
  · intro e
    apply tb_inj
    rw [hb, e]
    rfl
set_option maxHeartbeats 2000000 in
theorem hasPrefix_calls (s : ByteArray) (w : World) (hs : s.size ≤ 1000000000000) :
    Calls Tryd.prog 73 #[.string s, .string colT] w fun e w' => e = .returned (.bool (pseudoS s)) ∧ w = w' := by
  obtain ⟨R, hR⟩ : ∃ R, pseudoS s = R := ⟨_, rfl⟩
  rw [hR]
  unfold pseudoS at hR
  unfold colT
  by_cases hz : s.size = 0
  · have d1 : decide ((1 : Int) ≤ (s.size : Int)) = false := decide_eq_false (by omega)
    have d2 : decide (1 ≤ s.size) = false := decide_eq_false (by omega)
    have HR := Lib.hid (show R = false by rw [← hR, decide_eq_false (by omega : ¬ s.size ≠ 0)]; rfl)
    clear hR hz
    go_enter Tryd.func73, Tryd.ntmps73
    go_wp2_with fail
    go_ret
    exact ⟨by rw [HR.out]; rfl, rfl⟩
  · have d1 : decide ((1 : Int) ≤ (s.size : Int)) = true := decide_eq_true (by omega)
    have d2 : decide (1 ≤ s.size) = true := decide_eq_true (by omega)
    have q1 : 1 ≤ s.size := by omega
    have q2 : (1 : Int) ≤ (s.size : Int) := by omega
    have hp := pre_one s hz
    have HR := Lib.hid (show R = decide (s.extract 0 1 = colT) by rw [← hR, decide_eq_true hz, Bool.true_and, Bool.eq_iff_iff, decide_eq_true_iff, decide_eq_true_iff, hp])
    have ht := text_dec (s.extract 0 1) colT
    obtain ⟨b, hb⟩ : ∃ b, decide (s.extract 0 1 = colT) = b := ⟨_, rfl⟩
    rw [hb] at ht HR
    have hc : colT.toList = [58] := by rw [Lib.toList_data]; rfl
    have ht2 : ((s.extract 0 1).toList == [58]) = b := by rw [← hc]; exact ht
    clear hR hz hp hb ht hc
    go_enter Tryd.func73, Tryd.ntmps73
    go_wp2_with fail
    go_ret
    exact ⟨by rw [HR.out]; rfl, rfl⟩
set_option maxHeartbeats 2000000 in
theorem trimPrefixL_calls (s : ByteArray) (w : World) (hs : s.size ≤ 1000000000000) :
    Calls Tryd.prog 59 #[.string s, .string colT] w fun e w' => e = .returned (.string (trimP s)) ∧ w = w' := by
  obtain ⟨R, hR⟩ : ∃ R, trimP s = R := ⟨_, rfl⟩
  rw [hR]
  unfold trimP at hR
  have HP := Lib.hid (hasPrefix_calls s w hs)
  obtain ⟨b, hb⟩ : ∃ b, pseudoS s = b := ⟨_, rfl⟩
  have HB := Lib.hid hb
  rw [hb] at hR
  have hcol : (⟨#[58]⟩ : ByteArray) = colT := rfl
  cases b with
  | true =>
    rw [if_pos rfl] at hR
    have HR := Lib.hid hR
    have q1 : 1 ≤ s.size := by
      unfold pseudoS at hb
      rw [Bool.and_eq_true, decide_eq_true_iff] at hb
      omega
    have q2 : (1 : Int) ≤ (s.size : Int) := by omega
    clear hR hb
    unfold colT
    go_enter Tryd.func59, Tryd.ntmps59
    go_wp2_with fail
    refine (HP.out).mono ?_
    rw [HB.out]
    rintro e w1 ⟨rfl, rfl⟩
    go_wp2_with fail
    go_ret
    exact ⟨by rw [← HR.out]; rfl, rfl⟩
  | false =>
    rw [if_neg (by decide)] at hR
    subst hR
    clear hb
    unfold colT
    go_enter Tryd.func59, Tryd.ntmps59
    go_wp2_with fail
    refine (HP.out).mono ?_
    rw [HB.out]
    rintro e w1 ⟨rfl, rfl⟩
    go_wp2_with fail
    go_ret
    exact ⟨rfl, rfl⟩
theorem trimPrefix_calls (s : ByteArray) (w : World) (hs : s.size ≤ 1000000000000) :
    Calls Tryd.prog 43 #[.string s, .string ⟨#[58]⟩] w fun e w' => e = .returned (.string (trimP s)) ∧ w = w' := by
  have HP := Lib.hid (trimPrefixL_calls s w hs)
  go_enter Tryd.func43, Tryd.ntmps43
  go_wp2_with fail
  refine (HP.out).mono ?_
  rintro e w1 ⟨rfl, rfl⟩
  go_wp2_with fail
  go_ret
  exact ⟨rfl, rfl⟩
end Go.Proofs.YtdpoookgmckclaaDoor.M
