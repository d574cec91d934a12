/- The contracts of b64 and nuncioref03: Encode, Decode; of route.Target and nuncioref21.Target. -/
import Derived.Test.YtfoflodgegehfaaMB64p
import Derived.Test.YtfoflodgegehfaaMTStr
import Derived.Laws.Concat
set_option linter.unusedVariables false
set_option linter.unusedSimpArgs false
namespace Go.Proofs.Ytfoflodgegehfaa.M
open Go.RowKit Go.Maps Go.Proofs.YtfoflodgegehfaaW.PrintWords Go.Proofs.YtfoflodgegehfaaW.PrintLast Go.Proofs.YtfoflodgegehfaaW.PrintMore
attribute [local go_sem] max2_int min2_int max_two min_two max_three min_three max_four min_four
attribute [local go_sem ↓] Go.wp_at_zero Go.wp_at_succ
/-- The signs of bytes. -/
def encB (s : ByteArray) : ByteArray := strOfNums (B64.b64h_encGo (bytesOf s) 0 0)
/-- The bytes of signs, and whether they are some's. -/
def decB (s : ByteArray) : ByteArray × Bool := match B64.b64h_decGo (bytesOf s) 0 0 with
  | none => (⟨#[]⟩, false)
  | some l => (strOfNums l, true)
theorem encB_size (s : ByteArray) : ((encB s).size : Int) = (s.size * 8 + 5) / 6 := by
  have h := (B64.dec_enc _ (bytesOf s) (Nat.le_refl _) (B64.bytes_range s)).2.2
  rw [bytesOf_length] at h
  unfold encB
  rw [strOfNums_size]
  exact h
theorem decB_encB (s : ByteArray) : decB (encB s) = (s, true) := by
  have h := B64.dec_enc _ (bytesOf s) (Nat.le_refl _) (B64.bytes_range s)
  unfold decB encB
  rw [B64.bytes_str _ h.2.1, h.1]
  show (strOfNums (bytesOf s), true) = _
  rw [B64.str_bytes]
theorem encB_bytes (s : ByteArray) : bytesOf (encB s) = B64.b64h_encGo (bytesOf s) 0 0 := by
  have h := B64.dec_enc _ (bytesOf s) (Nat.le_refl _) (B64.bytes_range s)
  unfold encB
  rw [B64.bytes_str _ h.2.1]
theorem decB_size (s : ByteArray) : (decB s).1.size ≤ s.size := by
  unfold decB
  cases hd : B64.b64h_decGo (bytesOf s) 0 0 with
  | none => exact Nat.zero_le _
  | some x =>
    have h := (B64.enc_dec _ (bytesOf s) x (Nat.le_refl _) (B64.bytes_range s) hd).2.2
    rw [bytesOf_length] at h
    show (strOfNums x).size ≤ _
    rw [strOfNums_size]
    exact h
theorem encode_calls (s : ByteArray) (w : World) (hs : s.size ≤ 100000) :
    Calls Try.prog 22 #[.string s] w fun e w' => e = .returned (.string (encB s)) ∧ Below w.heap.size w w' := B64.b64h_encode_calls s w hs
theorem refEncode_calls (s : ByteArray) (w : World) (hs : s.size ≤ 100000) :
    Calls Try.prog 23 #[.string s] w fun e w' => e = .returned (.string (encB s)) ∧ Below w.heap.size w w' :=
  B64.nuncioref03_Encode.calls (5 * s.size + 11) s (encB s) w (B64.ref_encode s hs (5 * s.size + 11) (by omega))
theorem decode_calls (s : ByteArray) (w : World) (hs : s.size ≤ 100000) :
    Calls Try.prog 36 #[.string s] w fun e w' => e = .returned (.tuple #[.string (decB s).1, .bool (decB s).2]) ∧ Below w.heap.size w w' := by
  refine B64.b64_Decode.calls s (decB s).1 (decB s).2 w ?_
  unfold B64.b64_Decode.f decB
  rw [if_pos hs]
  cases B64.b64h_decGo (bytesOf s) 0 0 <;> rfl
theorem ref_decode (s : ByteArray) (hz : s.size ≤ 30000) : B64.nuncioref03_Decode.f 500000 s = some (decB s) := by
  unfold B64.nuncioref03_Decode.f
  rw [B64.ref_dec s hz (s.size + 1) 500000 [] 0 (by omega) (by omega) (by omega) (by simp) (by simp) (by simp) (by omega)]
  simp only [Int.toNat_zero, List.drop_zero, List.nil_append]
  unfold decB
  cases hd : B64.b64h_decGo (bytesOf s) 0 0 with
  | some x =>
    have hr := B64.ref_of_dec _ _ x (Nat.le_refl _) hd
    rw [hr]
    have he := (B64.enc_dec _ (bytesOf s) x (Nat.le_refl _) (B64.bytes_range s) hd).1
    simp [B64.close, he]
  | none =>
    cases hr : B64.refGo (bytesOf s) with
    | none => simp
    | some x =>
      have hx := B64.ref_range _ _ x (Nat.le_refl _) hr
      have hne : ¬ B64.b64h_encGo x 0 0 = bytesOf s := by
        intro e
        have := (B64.dec_enc _ x (Nat.le_refl _) hx.1).1
        rw [e, hd] at this
        exact absurd this (by simp)
      simp [B64.close, hne]
theorem refDecode_calls (s : ByteArray) (w : World) (hs : s.size ≤ 30000) :
    Calls Try.prog 25 #[.string s] w fun e w' => e = .returned (.tuple #[.string (decB s).1, .bool (decB s).2]) ∧ Below w.heap.size w w' :=
  B64.nuncioref03_Decode.calls 500000 s (decB s).1 (decB s).2 w (ref_decode s hs)
def headT : ByteArray := ⟨#[47, 100, 110, 115, 45, 113, 117, 101, 114, 121, 63, 100, 110, 115, 61]⟩
/-- The raw path of a message. -/
def targetF (s : ByteArray) : ByteArray := headT ++ encB s
set_option maxHeartbeats 2000000 in
theorem target_calls (s : ByteArray) (w : World) (hs : s.size ≤ 100000) :
    Calls Try.prog 13 #[.string s] w fun e w' => e = .returned (.string (targetF s)) ∧ Below w.heap.size w w' := by
    have hz := encB_size s
    have hc := fun w => encode_calls s w hs
    obtain ⟨p, hp⟩ : ∃ p, targetF s = p := ⟨_, rfl⟩
    rw [hp]
    unfold targetF headT at hp
    generalize encB s = q at *
    have A1 := fun W => show (Op.stringOp .add ⟨#[47, 100, 110, 115, 45, 113, 117, 101, 114, 121, 63, 100, 110, 115, 61]⟩ q).run Try.prog W = .ok (.string p) W by rw [← hp]; exact run_string_add_sum (P := Try.prog) W _ q (by show 15 + _ ≤ _; omega)
    clear hp hz
    have HB := Aside0.mk (Below.refl w.heap.size w)
    go_enter Try.func13, Try.ntmps13
    go_wp2_with fail
    refine (hc _).mono ?_
    rintro e w2 ⟨rfl, hb⟩
    have HB2 := Aside0.mk (HB.out.trans (hb.mono HB.out.size))
    clear hb HB
    go_wp2_with fail
    go_ret
    exact ⟨rfl, HB2.out⟩
set_option maxHeartbeats 2000000 in
theorem refTarget_calls (s : ByteArray) (w : World) (hs : s.size ≤ 100000) :
    Calls Try.prog 14 #[.string s] w fun e w' => e = .returned (.string (targetF s)) ∧ Below w.heap.size w w' := by
    have hz := encB_size s
    have hc := fun w => refEncode_calls s w hs
    obtain ⟨p, hp⟩ : ∃ p, targetF s = p := ⟨_, rfl⟩
    rw [hp]
    unfold targetF headT at hp
    generalize encB s = q at *
    have A1 := fun W => show (Op.stringOp .add ⟨#[47, 100, 110, 115, 45, 113, 117, 101, 114, 121, 63, 100, 110, 115, 61]⟩ q).run Try.prog W = .ok (.string p) W by rw [← hp]; exact run_string_add_sum (P := Try.prog) W _ q (by show 15 + _ ≤ _; omega)
    clear hp hz
    have HB := Aside0.mk (Below.refl w.heap.size w)
    go_enter Try.func14, Try.ntmps14
    go_wp2_with fail
    refine (hc _).mono ?_
    rintro e w2 ⟨rfl, hb⟩
    have HB2 := Aside0.mk (HB.out.trans (hb.mono HB.out.size))
    clear hb HB
    go_wp2_with fail
    go_ret
    exact ⟨rfl, HB2.out⟩
end Go.Proofs.Ytfoflodgegehfaa.M
