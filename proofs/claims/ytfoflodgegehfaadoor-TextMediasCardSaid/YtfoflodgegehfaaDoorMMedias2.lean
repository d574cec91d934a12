/- The law TextMedias: the walk. -/
import Derived.Test.YtfoflodgegehfaaDoorMMedias
set_option linter.unusedVariables false
set_option linter.unusedSimpArgs false
namespace Go.Proofs.YtfoflodgegehfaaDoor.M
open Go.RowKit Go.Maps Go.Proofs.YtfoflodgegehfaaDoorW.PrintWords Go.Proofs.YtfoflodgegehfaaDoorW.PrintLast Go.Proofs.YtfoflodgegehfaaDoorW.PrintMore
attribute [local go_sem] max2_int min2_int max_two min_two max_three min_three max_four min_four
attribute [local go_sem ↓] Go.wp_at_zero Go.wp_at_succ
set_option maxHeartbeats 8000000 in
set_option maxRecDepth 100000 in
theorem medias_calls (s m : ByteArray) (b : Nat) (w : World) (hb1 : b < 256) :
    Calls Tryd.prog 7 #[.string s, .string m, .int .u8 b] w fun e w' => e = .returned (.bool true) ∧ Below w.heap.size w w' := by
  have HB := Aside0.mk (Below.refl w.heap.size w)
  go_enter Tryd.func7, Tryd.ntmps7
  go_wp2_with fail
  refine (awake2_calls _).mono ?_
  rintro e w1 ⟨rfl, hb⟩
  have HB1 := Aside0.mk (HB.out.trans (hb.mono HB.out.size))
  clear hb HB
  by_cases h1 : 20000 < s.size
  · have d1 : decide ((20000 : Int) < (s.size : Int)) = true := decide_eq_true (by omega)
    have d3 : decide (20000 < s.size) = true := decide_eq_true h1
    go_wp2_with fail
    go_ret
    exact ⟨rfl, HB1.out⟩
  have d1 : decide ((20000 : Int) < (s.size : Int)) = false := decide_eq_false (by omega)
  have d3 : decide (20000 < s.size) = false := decide_eq_false h1
  by_cases h2 : 20000 < m.size
  · have d2 : decide ((20000 : Int) < (m.size : Int)) = true := decide_eq_true (by omega)
    have d4 : decide (20000 < m.size) = true := decide_eq_true h2
    clear h1
    go_wp2_with fail
    go_ret
    exact ⟨rfl, HB1.out⟩
  have d2 : decide ((20000 : Int) < (m.size : Int)) = false := decide_eq_false (by omega)
  have d4 : decide (20000 < m.size) = false := decide_eq_false h2
  have HS := Lib.hid (show s.size ≤ 1000000000000 by omega)
  obtain ⟨n, hn⟩ : ∃ n : Nat, (b : Int) % 5 = n := ⟨b % 5, by omega⟩
  have hn4 : n ≤ 4 := by omega
  obtain ⟨K, hK⟩ : ∃ v, tokenF s = v := ⟨_, rfl⟩
  have HK := Lib.hid hK
  cases K with
  | false =>
    clear hK h1 h2
    go_wp2_with fail
    refine (token_calls s _ HS.out).mono ?_
    rw [HK.out]
    rintro e w2 ⟨rfl, hx⟩
    have HB2 := Aside0.mk (HB1.out.trans (hx.mono HB1.out.size))
    clear hx HB1
    go_wp2_with fail
    go_ret
    exact ⟨rfl, HB2.out⟩
  | true =>
    obtain ⟨F, hF⟩ : ∃ v, foldS s = v := ⟨_, rfl⟩
    obtain ⟨a, ha⟩ : ∃ v, spcF n = v := ⟨_, rfl⟩
    obtain ⟨r1, hr1⟩ : ∃ p, a ++ s = p := ⟨_, rfl⟩
    obtain ⟨r2, hr2⟩ : ∃ p, r1 ++ a = p := ⟨_, rfl⟩
    obtain ⟨r3, hr3⟩ : ∃ p, s ++ (⟨#[59]⟩ : ByteArray) = p := ⟨_, rfl⟩
    obtain ⟨r4, hr4⟩ : ∃ p, r3 ++ m = p := ⟨_, rfl⟩
    obtain ⟨r5, hr5⟩ : ∃ p, r2 ++ (⟨#[59]⟩ : ByteArray) = p := ⟨_, rfl⟩
    obtain ⟨r6, hr6⟩ : ∃ p, r5 ++ m = p := ⟨_, rfl⟩
    have M1 := Lib.hid (show mediaF s = F by rw [← hF]; exact media1 s hK)
    have M2 := Lib.hid (show mediaF r2 = F by rw [← hF, ← hr2, ← hr1, ← ha]; exact media2 s n hK)
    have M3 := Lib.hid (show mediaF r4 = F by rw [← hF, ← hr4, ← hr3]; exact media3 s m hK)
    have M4 := Lib.hid (show mediaF r6 = F by rw [← hF, ← hr6, ← hr5, ← hr2, ← hr1, ← ha]; exact media4 s m n hK)
    have M5 := Lib.hid (show mediaF F = F by rw [← hF]; exact media5 s hK)
    have z0 : a.size ≤ 8 := by rw [← ha, spc_size]; omega
    have z5 : (ByteArray.size ⟨#[59]⟩) = 1 := rfl
    have z1 : r1.size = a.size + s.size := by rw [← hr1, ByteArray.size_append]
    have z2 : r2.size = r1.size + a.size := by rw [← hr2, ByteArray.size_append]
    have z3 : r3.size = s.size + 1 := by rw [← hr3, ByteArray.size_append, z5]
    have z4 : r4.size = r3.size + m.size := by rw [← hr4, ByteArray.size_append]
    have z6 : r5.size = r2.size + 1 := by rw [← hr5, ByteArray.size_append, z5]
    have z7 : r6.size = r5.size + m.size := by rw [← hr6, ByteArray.size_append]
    have z8 : F.size = s.size := by rw [← hF, fold_size]
    have S2 := Lib.hid (show r2.size ≤ 1000000000000 by omega)
    have S3 := Lib.hid (show r4.size ≤ 1000000000000 by omega)
    have S4 := Lib.hid (show r6.size ≤ 1000000000000 by omega)
    have S5 := Lib.hid (show F.size ≤ 1000000000000 by omega)
    have A1 := Lib.hid (fun W => show (Op.stringOp .add a s).run Tryd.prog W = .ok (.string r1) W by rw [← hr1]; exact run_string_add_sum (P := Tryd.prog) W a s (by omega))
    have A2 := Lib.hid (fun W => show (Op.stringOp .add r1 a).run Tryd.prog W = .ok (.string r2) W by rw [← hr2]; exact run_string_add_sum (P := Tryd.prog) W r1 a (by omega))
    have A3 := Lib.hid (fun W => show (Op.stringOp .add s ⟨#[59]⟩).run Tryd.prog W = .ok (.string r3) W by rw [← hr3]; exact run_string_add_sum (P := Tryd.prog) W s ⟨#[59]⟩ (by omega))
    have A4 := Lib.hid (fun W => show (Op.stringOp .add r3 m).run Tryd.prog W = .ok (.string r4) W by rw [← hr4]; exact run_string_add_sum (P := Tryd.prog) W r3 m (by omega))
    have A5 := Lib.hid (fun W => show (Op.stringOp .add r2 ⟨#[59]⟩).run Tryd.prog W = .ok (.string r5) W by rw [← hr5]; exact run_string_add_sum (P := Tryd.prog) W r2 ⟨#[59]⟩ (by omega))
    have A6 := Lib.hid (fun W => show (Op.stringOp .add r5 m).run Tryd.prog W = .ok (.string r6) W by rw [← hr6]; exact run_string_add_sum (P := Tryd.prog) W r5 m (by omega))
    have HA := Lib.hid ha
    have HF := Lib.hid hF
    clear hr1 hr2 hr3 hr4 hr5 hr6 z0 z1 z2 z3 z4 z5 z6 z7 z8 ha hF hK h1 h2
    go_wp2_with fail
    refine (token_calls s _ HS.out).mono ?_
    rw [HK.out]
    rintro e w2 ⟨rfl, hx⟩
    have HB2 := Aside0.mk (HB1.out.trans (hx.mono HB1.out.size))
    clear hx HB1 HK
    go_wp2_with fail
    clear d1 d2 d3 d4
    go_loopg [7, 8] n (fun kq v7 v8 w' => ∃ (j : Nat), v7 = .string (spcF j) ∧ v8 = .int .i64 j ∧ Aside0 (kq + j = n) ∧ Aside0 (w' = w2))
    case atStart => exact ⟨0, rfl, rfl, ⟨rfl⟩, ⟨rfl⟩⟩
    case round =>
      obtain ⟨j, rfl, rfl, HJ, HW⟩ := hrel
      obtain rfl := HW.out
      clear HW
      have q1 : (0 : Int) ≤ (n : Int) := by omega
      have q2 : (n : Int) ≤ 4 := by omega
      have q3 : (b : Int) ≤ 255 := by omega
      cases gk with
      | zero =>
        obtain rfl : j = n := by have := HJ.out; omega
        have d5 : decide ((j : Int) < (j : Int)) = false := decide_eq_false (by omega)
        obtain ⟨sp, hsp⟩ : ∃ p, spcF j = p := ⟨_, rfl⟩
        rw [hsp]
        obtain rfl : sp = a := by rw [← hsp]; exact HA.out
        clear hsp HA HJ
        have a1 := A1.out
        have a2 := A2.out
        have a3 := A3.out
        have a4 := A4.out
        have a5 := A5.out
        have a6 := A6.out
        go_wp2_with fail
        refine (fold_calls s _ HS.out).mono ?_
        rw [HF.out]
        rintro e w3 ⟨rfl, hx⟩
        have HB3 := Aside0.mk (HB2.out.trans (hx.mono HB2.out.size))
        clear hx HB2
        go_wp2_with fail
        refine (media_calls s _ HS.out).mono ?_
        rw [M1.out]
        rintro e w4 ⟨rfl, hx⟩
        have HB4 := Aside0.mk (HB3.out.trans (hx.mono HB3.out.size))
        clear hx HB3
        go_wp2_with fail
        refine (media_calls r2 _ S2.out).mono ?_
        rw [M2.out]
        rintro e w5 ⟨rfl, hx⟩
        have HB5 := Aside0.mk (HB4.out.trans (hx.mono HB4.out.size))
        clear hx HB4
        go_wp2_with fail
        refine (media_calls r4 _ S3.out).mono ?_
        rw [M3.out]
        rintro e w6 ⟨rfl, hx⟩
        have HB6 := Aside0.mk (HB5.out.trans (hx.mono HB5.out.size))
        clear hx HB5
        go_wp2_with fail
        refine (media_calls r6 _ S4.out).mono ?_
        rw [M4.out]
        rintro e w7 ⟨rfl, hx⟩
        have HB7 := Aside0.mk (HB6.out.trans (hx.mono HB6.out.size))
        clear hx HB6
        go_wp2_with fail
        refine (media_calls F _ S5.out).mono ?_
        rw [M5.out]
        rintro e w8 ⟨rfl, hx⟩
        have HB8 := Aside0.mk (HB7.out.trans (hx.mono HB7.out.size))
        clear hx HB7
        go_wp2_with fail
        go_ret
        exact ⟨rfl, HB8.out⟩
      | succ k =>
        have q4 : j < n := by have := HJ.out; omega
        have d5 : decide ((j : Int) < (n : Int)) = true := decide_eq_true (by omega)
        have a0 := fun W => show (Op.stringOp .add (spcF j) ⟨#[32, 9]⟩).run Tryd.prog W = .ok (.string (spcF (j + 1))) W from run_string_add_sum (P := Tryd.prog) W (spcF j) ⟨#[32, 9]⟩ (by rw [spc_size]; show 2 * j + 2 ≤ _; omega)
        go_wp2_with fail
        go_roundg k
        case measure => omega
        case rel => exact ⟨j + 1, rfl, by go_num, ⟨by have := HJ.out; omega⟩, ⟨rfl⟩⟩
theorem medias_all (W : World) (s : ByteArray) (hs : s.size ≤ 140737488351232) (m : ByteArray) (hm : m.size ≤ 140737488351232) (x : Int) (hx : (Lit.int .u8 x).wf = true) :
    Calls Tryd.prog 7 #[.string s, .string m, .int .u8 x] W fun e w' => e = .returned (.bool true) ∧ Below W.heap.size W w' := by
  have h : 0 ≤ x ∧ x ≤ 255 := by simpa [Lit.wf, IntKind.min, IntKind.max, IntKind.signed, IntKind.bits] using hx
  obtain ⟨b, rfl⟩ : ∃ b : Nat, x = b := ⟨x.toNat, by omega⟩
  exact medias_calls s m b W (by omega)
end Go.Proofs.YtfoflodgegehfaaDoor.M
