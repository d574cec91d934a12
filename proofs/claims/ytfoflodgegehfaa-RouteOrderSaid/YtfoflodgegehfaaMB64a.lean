/- Walks of b64.value, Decode, Encode, nuncioref03.sign, number. -/
import Derived.Test.YtfoflodgegehfaaMJDraw
set_option linter.unusedVariables false
set_option linter.unusedSimpArgs false
namespace Go.Proofs.Ytfoflodgegehfaa.B64
open Go.RowKit Go.Proofs.YtfoflodgegehfaaW.PrintWords Go.Proofs.YtfoflodgegehfaaW.PrintLast Go.Proofs.YtfoflodgegehfaaW.PrintMore
attribute [local go_sem] max2_int min2_int max_two min_two max_three min_three max_four min_four

/-! ### b64_value: function 24 -/
def b64_value.f (a0 : Int) : Option (Int) := if ((a0 - 65) % 256) < 26 then (some ((a0 - 65) % 256)) else (if ((a0 - 97) % 256) < 26 then (some (((a0 - 97) % 256) + 26)) else (if ((a0 - 48) % 256) < 10 then (some (((a0 - 48) % 256) + 52)) else (if a0 = 45 then (some 62) else (if a0 = 95 then (some 63) else (some 64)))))
set_option maxHeartbeats 8000000 in
set_option maxRecDepth 100000 in
theorem b64_value.calls (a0 : Int) (r : Int) (w : World) (h : b64_value.f a0 = some r) :
    Calls Try.prog 52 #[.int .u8 a0] w fun e w' => e = .returned (.int .u64 r) ∧ Drawn0 w w' := by
  have H : (if ((a0 - 65) % 256) < 26 then (some ((a0 - 65) % 256)) else (if ((a0 - 97) % 256) < 26 then (some (((a0 - 97) % 256) + 26)) else (if ((a0 - 48) % 256) < 10 then (some (((a0 - 48) % 256) + 52)) else (if a0 = 45 then (some 62) else (if a0 = 95 then (some 63) else (some 64)))))) = some r := h
  clear h
  by_cases c2 : ((a0 - 65) % 256) < 26
  · rw [if_pos c2] at H
    have c2b0 : decide (((a0 - 65) % 256) < 26) = true := decide_eq_true c2
    clear c2
    obtain rfl := Option.some.inj H
    go_enter Try.func52, Try.ntmps52
    go_wp2
    go_ret
    exact ⟨by first | rfl | (simp; done) | (simp [*]; done), by repeat (first | exact Drawn0.refl _ | apply Drawn0.step)⟩
  · rw [if_neg c2] at H
    have c2b0 : decide (((a0 - 65) % 256) < 26) = false := decide_eq_false c2
    clear c2
    by_cases c3 : ((a0 - 97) % 256) < 26
    · rw [if_pos c3] at H
      have c3b0 : decide (((a0 - 97) % 256) < 26) = true := decide_eq_true c3
      clear c3
      obtain rfl := Option.some.inj H
      go_enter Try.func52, Try.ntmps52
      go_wp2
      go_ret
      exact ⟨by first | rfl | (simp; done) | (simp [*]; done), by repeat (first | exact Drawn0.refl _ | apply Drawn0.step)⟩
    · rw [if_neg c3] at H
      have c3b0 : decide (((a0 - 97) % 256) < 26) = false := decide_eq_false c3
      clear c3
      by_cases c4 : ((a0 - 48) % 256) < 10
      · rw [if_pos c4] at H
        have c4b0 : decide (((a0 - 48) % 256) < 10) = true := decide_eq_true c4
        clear c4
        obtain rfl := Option.some.inj H
        go_enter Try.func52, Try.ntmps52
        go_wp2
        go_ret
        exact ⟨by first | rfl | (simp; done) | (simp [*]; done), by repeat (first | exact Drawn0.refl _ | apply Drawn0.step)⟩
      · rw [if_neg c4] at H
        have c4b0 : decide (((a0 - 48) % 256) < 10) = false := decide_eq_false c4
        clear c4
        by_cases c5 : a0 = 45
        · rw [if_pos c5] at H
          have c5b0 : (a0 == 45) = true := beq_iff_eq.mpr c5
          have c5b1 : (a0 != 45) = false := bne_eq_false_iff_eq.mpr c5
          clear c5
          obtain rfl := Option.some.inj H
          go_enter Try.func52, Try.ntmps52
          go_wp2
          go_ret
          exact ⟨by first | rfl | (simp; done) | (simp [*]; done), by repeat (first | exact Drawn0.refl _ | apply Drawn0.step)⟩
        · rw [if_neg c5] at H
          have c5b0 : (a0 == 45) = false := beq_eq_false_iff_ne.mpr c5
          have c5b1 : (a0 != 45) = true := bne_iff_ne.mpr c5
          by_cases c6 : a0 = 95
          · rw [if_pos c6] at H
            have c6b0 : (a0 == 95) = true := beq_iff_eq.mpr c6
            have c6b1 : (a0 != 95) = false := bne_eq_false_iff_eq.mpr c6
            clear c6
            obtain rfl := Option.some.inj H
            go_enter Try.func52, Try.ntmps52
            go_wp2
            go_ret
            exact ⟨by first | rfl | (simp; done) | (simp [*]; done), by repeat (first | exact Drawn0.refl _ | apply Drawn0.step)⟩
          · rw [if_neg c6] at H
            have c6b0 : (a0 == 95) = false := beq_eq_false_iff_ne.mpr c6
            have c6b1 : (a0 != 95) = true := bne_iff_ne.mpr c6
            obtain rfl := Option.some.inj H
            go_enter Try.func52, Try.ntmps52
            go_wp2
            go_ret
            exact ⟨by first | rfl | (simp; done) | (simp [*]; done), by repeat (first | exact Drawn0.refl _ | apply Drawn0.step)⟩

/-! ### b64_Decode: walked by hand -/
theorem b64h_infoD : (Try.prog.info? 5).map (fun i => (i.zero, i.size, i.bytes)) = some (some (.int .u8 0), 1, 1) := by kernel_rfl
/-- What a sign stands for; 64: nothing. -/
def b64h_val (c : Int) : Int := if (c - 65) % 256 < 26 then (c - 65) % 256 else if (c - 97) % 256 < 26 then (c - 97) % 256 + 26 else if (c - 48) % 256 < 10 then (c - 48) % 256 + 52 else if c = 45 then 62 else if c = 95 then 63 else 64
theorem b64h_val_eq (c : Int) : b64_value.f c = some (b64h_val c) := by
  unfold b64_value.f b64h_val
  split
  · rfl
  · split
    · rfl
    · split
      · rfl
      · split
        · rfl
        · split <;> rfl
theorem b64h_val_range (c : Int) : 0 ≤ b64h_val c ∧ b64h_val c ≤ 64 := by
  unfold b64h_val
  split
  · omega
  · split
    · omega
    · split
      · omega
      · split
        · omega
        · split <;> omega
/-- What is read of b64h_signs, where so many bits wait. -/
def b64h_decGo : List Int → Int → Int → Option (List Int)
  | [], b, h => if 6 ≤ h ∨ b ≠ 0 then none else some []
  | c :: t, b, h =>
    if b64h_val c = 64 then none
    else if h = 0 then b64h_decGo t (b * 64 + b64h_val c) 6
    else if h = 6 then (b64h_decGo t ((b * 64 + b64h_val c) % 16) 4).map ((b * 64 + b64h_val c) / 16 :: ·)
    else if h = 4 then (b64h_decGo t ((b * 64 + b64h_val c) % 4) 2).map ((b * 64 + b64h_val c) / 4 :: ·)
    else (b64h_decGo t 0 0).map ((b * 64 + b64h_val c) :: ·)
def b64h_decOk (b h : Int) : Prop := (h = 0 ∧ 0 ≤ b ∧ b < 1) ∨ (h = 2 ∧ 0 ≤ b ∧ b < 4) ∨ (h = 4 ∧ 0 ≤ b ∧ b < 16) ∨ (h = 6 ∧ 0 ≤ b ∧ b < 64)
/-- Text and answer of what is read. -/
def b64h_decE (l : Option (List Int)) : Ending := match l with
  | none => .returned (.tuple #[.string ⟨#[]⟩, .bool false])
  | some l => .returned (.tuple #[.string (strOfNums l), .bool true])

theorem b64h_dec_round (s : ByteArray) (j : Nat) (c b h : Int) {A : Option (List Int)} {out new : List Int} {R : Option (List Int)} (hc : bt s (j : Int) = c) (hj : j < s.size) (he : A = (b64h_decGo ((bytesOf s).drop j) b h).map (out ++ ·)) (hs : b64h_decGo (c :: (bytesOf s).drop (j + 1)) b h = R.map (new ++ ·)) : A = R.map ((out ++ new) ++ ·) := by
  have hl : j < (bytesOf s).length := by rw [bytesOf_length]; exact hj
  have hr := rd_bytesOf s (j : Int)
  rw [hc] at hr
  unfold rd at hr
  rw [List.getD_eq_getElem?_getD, Int.toNat_natCast, List.getElem?_eq_getElem hl, Option.getD_some] at hr
  rw [he, List.drop_eq_getElem_cons hl, hr, hs]
  cases R with
  | none => rfl
  | some l => simp
theorem b64h_dec_fails (s : ByteArray) (j : Nat) (c b h : Int) {A : Option (List Int)} {out : List Int} (hc : bt s (j : Int) = c) (hj : j < s.size) (he : A = (b64h_decGo ((bytesOf s).drop j) b h).map (out ++ ·)) (hv : b64h_val c = 64) : A = none := by
  have hl : j < (bytesOf s).length := by rw [bytesOf_length]; exact hj
  have hr := rd_bytesOf s (j : Int)
  rw [hc] at hr
  unfold rd at hr
  rw [List.getD_eq_getElem?_getD, Int.toNat_natCast, List.getElem?_eq_getElem hl, Option.getD_some] at hr
  rw [he, List.drop_eq_getElem_cons hl, hr]
  simp [b64h_decGo, hv]
theorem b64h_value_at {c v : Int} (H : Hid (b64h_val c = v)) (w : World) : Calls Try.prog 52 #[.int .u8 c] w fun e w' => e = .returned (.int .u64 v) ∧ Drawn0 w w' :=
  b64_value.calls c v w (by rw [b64h_val_eq, H.out])

set_option maxHeartbeats 2000000 in
theorem b64h_decode_calls (s : ByteArray) (w : World) (hs : s.size ≤ 100000) :
    Calls Try.prog 36 #[.string s] w fun e w' => e = b64h_decE (b64h_decGo (bytesOf s) 0 0) ∧ Below w.heap.size w w' := by
  have HB := Aside0.mk (Below.refl w.heap.size w)
  have kb := fun W => print_bytes (P := Try.prog) 9 48 5 Try.underlying9 Try.underlying48 Try.underlying5 s W
  have hq : (s.size : Int) / 4 * 3 + 3 ≤ 133338 := by omega
  have hq0 : 0 ≤ (s.size : Int) / 4 * 3 + 3 := by omega
  have hq1 : ((s.size : Int) / 4 * 3 + 3).toNat * 1 ≤ 281474976710656 := by omega
  go_enter Try.func36, Try.ntmps36
  go_wp2_with (first | ((with_reducible refine gate_dst (N := 15) rfl ?_); refine Kd.R_make0 (Kd.int .u8) _ 5 rfl (N := 15) rfl 48 _ _ rfl _ rfl rfl Try.underlying48 (.int .u8 0) 1 b64h_infoD (by omega) (ok := fun k => True) trivial ?c2 ?c3 (Below.refl _ _) (Nat.le_refl _) ?_; (case c2 => exact hq0); (case c3 => exact hq1); intro v1 w1 ho hb hg hat; clear HB; have HB := Aside0.mk hb; have HO := Aside0.mk ho; clear ho hb hg hat))
  have hbb := bytes_below HB.out HB.out.size 5 s
  have hoo : Kd.R (Kd.int .u8) 5 (Lib.bytesWorld w1 5 s) w.heap.size (fun k => k ≠ w1.heap.size) v1 [] :=
    Kd.R_below (Kd.R_mono (Kd.R_bound HO.out) (fun k hk => Nat.ne_of_lt hk.2.2.1)) (bytes_below (Below.refl _ _) (Nat.le_refl _) 5 s)
  have hcells := mine_bytes_cells w1 5 s
  have hsz : w1.heap.size < (Lib.bytesWorld w1 5 s).heap.size := by rw [Lib.bytesWorld_size]; omega
  clear HB HO kb
  generalize hC : grownCap w1 s.size 0 5 = C
  generalize hW : Lib.bytesWorld w1 5 s = wB at *
  generalize hG : w1.heap.size = G at *
  have HB := Aside0.mk hbb
  have HO := Aside0.mk hoo
  have HE := Aside0.mk hcells
  have HS := Aside0.mk hsz
  clear hC hW hG hbb hoo hcells hsz hq hq0 hq1
  go_loopg [4, 5, 6, 19] (s.size) (fun kq v4 v5 v6 v19 w' => ∃ (j : Nat) (b h : Int) (out : List Int), v5 = .int .u64 b ∧ v6 = .int .u64 h ∧ v19 = .int .i64 j ∧ Aside0 (kq + j = s.size) ∧
    Aside0 (b64h_decOk b h) ∧ Aside0 (b64h_decGo (bytesOf s) 0 0 = (b64h_decGo ((bytesOf s).drop j) b h).map (out ++ ·)) ∧ Aside0 (out.length ≤ j) ∧ Aside0 (Kd.R (Kd.int .u8) 5 w' w.heap.size (fun k => k ≠ G) v4 out) ∧
    Aside0 (w'.heap[G]? = wB.heap[G]?) ∧ Aside0 (G < w'.heap.size) ∧ Aside0 (Below w.heap.size w w'))
  case atStart => exact ⟨0, 0, 0, [], rfl, rfl, rfl, ⟨by omega⟩, ⟨by unfold b64h_decOk; omega⟩, ⟨by simp⟩, ⟨by simp⟩, HO, ⟨rfl⟩, HS, HB⟩
  case round =>
    clear HO HS HB
    obtain ⟨j, b, h, out, rfl, rfl, rfl, HK, HOk, HEq, HLen, HO, HBk, HS, HB⟩ := hrel
    by_cases hj : j < s.size
    · have hx := (World.cell?_of_block (w := wB) (a := ⟨G, j, none⟩) HBk.out).trans (HE.out j hj)
      obtain ⟨c, hc⟩ : ∃ c, bt s (j : Int) = c := ⟨_, rfl⟩
      rw [hc] at hx
      have HC := Lib.hid hc
      clear hc
      obtain ⟨v, hv⟩ : ∃ v, b64h_val c = v := ⟨_, rfl⟩
      obtain ⟨x0, x1⟩ := b64h_val_range c
      rw [hv] at x0 x1
      have HV := Lib.hid hv
      clear hv
      by_cases h64 : v = 64
      · subst h64
        have HF := Lib.hid (b64h_dec_fails s j c b h HC.out hj HEq.out HV.out)
        go_wp2_with (go_at_call 52; refine (b64h_value_at HV _).mono ?_; rintro e w' ⟨rfl, ⟨n, rfl⟩⟩)
        go_ret2
        exact ⟨by rw [HF.out]; first | rfl | (simp [b64h_decE]; done), mine_below_more HB.out⟩
      · have h64b : (v == 64) = false := by simp [h64]
        have x2 : v < 64 := by omega
        rcases HOk.out with ⟨hh, hb0, hb1⟩ | ⟨hh, hb0, hb1⟩ | ⟨hh, hb0, hb1⟩ | ⟨hh, hb0, hb1⟩
        · subst hh
          have HB0 := HB
          have hor := mine_or_six b v hb0 (by omega) x0 x2
          obtain ⟨q, hq⟩ : ∃ q, b * 64 + v = q := ⟨_, rfl⟩
          rw [hq] at hor
          have q0 : 0 ≤ q := by omega
          have q1 : q < 64 := by omega
          have HQ := Lib.hid hq
          clear hq
          have HN := Lib.hid h64
          clear h64
          have HStep := Lib.hid (show b64h_decGo (c :: (bytesOf s).drop (j + 1)) b 0 = (b64h_decGo ((bytesOf s).drop (j + 1)) (q) 6).map ([] ++ ·) by rw [← HQ.out, ← HV.out]; simp [b64h_decGo, HV.out, HN.out])
          have hrm := mine_and_mask 6 63 rfl q (by omega) (by omega)
          have hrm' : q % 2 ^ 6 = q := by omega
          rw [hrm'] at hrm
          clear hrm'
          go_wp2_with (go_at_call 52; refine (b64h_value_at HV _).mono ?_; rintro e w' ⟨rfl, ⟨n, rfl⟩⟩)
          obtain ⟨g, rfl⟩ : ∃ m, gk = m + 1 := ⟨gk - 1, by have := HK.out; omega⟩
          go_roundg g
          case measure => omega
          case rel => exact ⟨j + 1, q, 6, out, by first | rfl | (simp; done), by first | rfl | (simp; done), by first | rfl | (simp; done), ⟨by have := HK.out; omega⟩, ⟨by unfold b64h_decOk; omega⟩, ⟨by have e := b64h_dec_round s j c b 0 (new := []) HC.out hj HEq.out HStep.out; simpa using e⟩, ⟨by have := HLen.out; (try simp only [List.length_append, List.length_cons, List.length_nil]); omega⟩, ⟨Kd.R_drewN HO.out _⟩, ⟨HBk.out⟩, ⟨HS.out⟩, ⟨mine_below_more HB.out⟩⟩
        · subst hh
          have HB0 := HB
          have hor := mine_or_six b v hb0 (by omega) x0 x2
          obtain ⟨q, hq⟩ : ∃ q, b * 64 + v = q := ⟨_, rfl⟩
          rw [hq] at hor
          have q0 : 0 ≤ q := by omega
          have q1 : q < 256 := by omega
          have HQ := Lib.hid hq
          clear hq
          have HN := Lib.hid h64
          clear h64
          have HStep := Lib.hid (show b64h_decGo (c :: (bytesOf s).drop (j + 1)) b 2 = (b64h_decGo ((bytesOf s).drop (j + 1)) (0) 0).map ([q] ++ ·) by rw [← HQ.out, ← HV.out]; simp [b64h_decGo, HV.out, HN.out])
          have d0 : 0 ≤ q := by omega
          have d1 : q < 256 := by omega
          have hrm := mine_and_mask 0 0 rfl q (by omega) (by omega)
          go_wp2_with (first | (go_at_call 52; refine (b64h_value_at HV _).mono ?_; rintro e w' ⟨rfl, ⟨n, rfl⟩⟩) | ((with_reducible refine gate_builtin (b := .append) (xs := #[.tmp 37, .tmp 42]) rfl ?_); at_builtin; refine Kd.R_append (Kd.int .u8) (w0 := w) w.heap.size rfl (.tmp 37) (.tmp 42) 48 5 (.int .u8 0) 1 rfl Try.underlying48 b64h_infoD rfl (by decide) (by omega) u4 out (q) [.int .u8 (q)] (fun k => k ≠ G) (fun _ => False) rfl rfl ?aP (fun _ hk => hk.elim) ?aF ?aO ?aB ?aS ?aL ?_; (case aP => exact rfl); (case aB => exact mine_below_more HB.out); (case aF => exact mine_fresh_ne HS.out); (case aO => exact Kd.R_drewN HO.out _); (case aS => exact below_size (mine_below_more HB.out)); (case aL => have := HLen.out; omega); intro va1 wa1 ho1 hb1 hg1 hat1; obtain ⟨hbk1, hs1⟩ := mine_grow_apart (w1 := wr.drewN n) (w2 := wa1) (wB := wB) (G := G) HO.out.1 HBk.out HS.out hg1; have HO1 := Aside0.mk ho1; have HB1 := Aside0.mk hb1; have HBk1 : Aside0 (wa1.heap[G]? = wB.heap[G]?) := Aside0.mk hbk1; have HS1 : Aside0 (G < wa1.heap.size) := Aside0.mk hs1; clear ho1 hb1 hg1 hat1 hbk1 hs1))
          obtain ⟨g, rfl⟩ : ∃ m, gk = m + 1 := ⟨gk - 1, by have := HK.out; omega⟩
          go_roundg g
          case measure => omega
          case rel => exact ⟨j + 1, 0, 0, out ++ [q], by first | rfl | (simp; done), by first | rfl | (simp; done), by first | rfl | (simp; done), ⟨by have := HK.out; omega⟩, ⟨by unfold b64h_decOk; omega⟩, ⟨by have e := b64h_dec_round s j c b 2 (new := [q]) HC.out hj HEq.out HStep.out; simpa using e⟩, ⟨by have := HLen.out; (try simp only [List.length_append, List.length_cons, List.length_nil]); omega⟩, HO1, HBk1, HS1, HB1⟩
        · subst hh
          have HB0 := HB
          have hor := mine_or_six b v hb0 (by omega) x0 x2
          obtain ⟨q, hq⟩ : ∃ q, b * 64 + v = q := ⟨_, rfl⟩
          rw [hq] at hor
          have q0 : 0 ≤ q := by omega
          have q1 : q < 1024 := by omega
          have HQ := Lib.hid hq
          clear hq
          have HN := Lib.hid h64
          clear h64
          have HStep := Lib.hid (show b64h_decGo (c :: (bytesOf s).drop (j + 1)) b 4 = (b64h_decGo ((bytesOf s).drop (j + 1)) (q % 4) 2).map ([q / 4] ++ ·) by rw [← HQ.out, ← HV.out]; simp [b64h_decGo, HV.out, HN.out])
          have d0 : 0 ≤ q / 4 := by omega
          have d1 : q / 4 < 256 := by omega
          have hrm := mine_and_mask 2 3 rfl q (by omega) (by omega)
          go_wp2_with (first | (go_at_call 52; refine (b64h_value_at HV _).mono ?_; rintro e w' ⟨rfl, ⟨n, rfl⟩⟩) | ((with_reducible refine gate_builtin (b := .append) (xs := #[.tmp 37, .tmp 42]) rfl ?_); at_builtin; refine Kd.R_append (Kd.int .u8) (w0 := w) w.heap.size rfl (.tmp 37) (.tmp 42) 48 5 (.int .u8 0) 1 rfl Try.underlying48 b64h_infoD rfl (by decide) (by omega) u4 out (q / 4) [.int .u8 (q / 4)] (fun k => k ≠ G) (fun _ => False) rfl rfl ?aP (fun _ hk => hk.elim) ?aF ?aO ?aB ?aS ?aL ?_; (case aP => exact rfl); (case aB => exact mine_below_more HB.out); (case aF => exact mine_fresh_ne HS.out); (case aO => exact Kd.R_drewN HO.out _); (case aS => exact below_size (mine_below_more HB.out)); (case aL => have := HLen.out; omega); intro va1 wa1 ho1 hb1 hg1 hat1; obtain ⟨hbk1, hs1⟩ := mine_grow_apart (w1 := wr.drewN n) (w2 := wa1) (wB := wB) (G := G) HO.out.1 HBk.out HS.out hg1; have HO1 := Aside0.mk ho1; have HB1 := Aside0.mk hb1; have HBk1 : Aside0 (wa1.heap[G]? = wB.heap[G]?) := Aside0.mk hbk1; have HS1 : Aside0 (G < wa1.heap.size) := Aside0.mk hs1; clear ho1 hb1 hg1 hat1 hbk1 hs1))
          obtain ⟨g, rfl⟩ : ∃ m, gk = m + 1 := ⟨gk - 1, by have := HK.out; omega⟩
          go_roundg g
          case measure => omega
          case rel => exact ⟨j + 1, q % 4, 2, out ++ [q / 4], by first | rfl | (simp; done), by first | rfl | (simp; done), by first | rfl | (simp; done), ⟨by have := HK.out; omega⟩, ⟨by unfold b64h_decOk; omega⟩, ⟨by have e := b64h_dec_round s j c b 4 (new := [q / 4]) HC.out hj HEq.out HStep.out; simpa using e⟩, ⟨by have := HLen.out; (try simp only [List.length_append, List.length_cons, List.length_nil]); omega⟩, HO1, HBk1, HS1, HB1⟩
        · subst hh
          have HB0 := HB
          have hor := mine_or_six b v hb0 (by omega) x0 x2
          obtain ⟨q, hq⟩ : ∃ q, b * 64 + v = q := ⟨_, rfl⟩
          rw [hq] at hor
          have q0 : 0 ≤ q := by omega
          have q1 : q < 4096 := by omega
          have HQ := Lib.hid hq
          clear hq
          have HN := Lib.hid h64
          clear h64
          have HStep := Lib.hid (show b64h_decGo (c :: (bytesOf s).drop (j + 1)) b 6 = (b64h_decGo ((bytesOf s).drop (j + 1)) (q % 16) 4).map ([q / 16] ++ ·) by rw [← HQ.out, ← HV.out]; simp [b64h_decGo, HV.out, HN.out])
          have d0 : 0 ≤ q / 16 := by omega
          have d1 : q / 16 < 256 := by omega
          have hrm := mine_and_mask 4 15 rfl q (by omega) (by omega)
          go_wp2_with (first | (go_at_call 52; refine (b64h_value_at HV _).mono ?_; rintro e w' ⟨rfl, ⟨n, rfl⟩⟩) | ((with_reducible refine gate_builtin (b := .append) (xs := #[.tmp 37, .tmp 42]) rfl ?_); at_builtin; refine Kd.R_append (Kd.int .u8) (w0 := w) w.heap.size rfl (.tmp 37) (.tmp 42) 48 5 (.int .u8 0) 1 rfl Try.underlying48 b64h_infoD rfl (by decide) (by omega) u4 out (q / 16) [.int .u8 (q / 16)] (fun k => k ≠ G) (fun _ => False) rfl rfl ?aP (fun _ hk => hk.elim) ?aF ?aO ?aB ?aS ?aL ?_; (case aP => exact rfl); (case aB => exact mine_below_more HB.out); (case aF => exact mine_fresh_ne HS.out); (case aO => exact Kd.R_drewN HO.out _); (case aS => exact below_size (mine_below_more HB.out)); (case aL => have := HLen.out; omega); intro va1 wa1 ho1 hb1 hg1 hat1; obtain ⟨hbk1, hs1⟩ := mine_grow_apart (w1 := wr.drewN n) (w2 := wa1) (wB := wB) (G := G) HO.out.1 HBk.out HS.out hg1; have HO1 := Aside0.mk ho1; have HB1 := Aside0.mk hb1; have HBk1 : Aside0 (wa1.heap[G]? = wB.heap[G]?) := Aside0.mk hbk1; have HS1 : Aside0 (G < wa1.heap.size) := Aside0.mk hs1; clear ho1 hb1 hg1 hat1 hbk1 hs1))
          obtain ⟨g, rfl⟩ : ∃ m, gk = m + 1 := ⟨gk - 1, by have := HK.out; omega⟩
          go_roundg g
          case measure => omega
          case rel => exact ⟨j + 1, q % 16, 4, out ++ [q / 16], by first | rfl | (simp; done), by first | rfl | (simp; done), by first | rfl | (simp; done), ⟨by have := HK.out; omega⟩, ⟨by unfold b64h_decOk; omega⟩, ⟨by have e := b64h_dec_round s j c b 6 (new := [q / 16]) HC.out hj HEq.out HStep.out; simpa using e⟩, ⟨by have := HLen.out; (try simp only [List.length_append, List.length_cons, List.length_nil]); omega⟩, HO1, HBk1, HS1, HB1⟩
    · have hjn : j = s.size := by have := HK.out; omega
      subst hjn
      have HE' := Lib.hid (show b64h_decGo (bytesOf s) 0 0 = (b64h_decGo [] b h).map (out ++ ·) by rw [HEq.out, List.drop_of_length_le (by rw [bytesOf_length]; exact Nat.le_refl _)])
      clear HEq
      have hcv := own_string (P := Try.prog) Try.underlying48 Try.underlying5 Try.underlying9 (Kd.own_of_R HO.out)
      rcases HOk.out with ⟨hh, hb0, hb1⟩ | ⟨hh, hb0, hb1⟩ | ⟨hh, hb0, hb1⟩ | ⟨hh, hb0, hb1⟩
      · subst hh
        by_cases hz : b = 0
        · subst hz
          have HF := Lib.hid (show b64h_decGo (bytesOf s) 0 0 = some out by rw [HE'.out]; simp [b64h_decGo])
          go_wp2_with fail
          go_ret2
          exact ⟨by rw [HF.out]; first | rfl | (simp [b64h_decE]; done), HB.out⟩
        · have HF := Lib.hid (show b64h_decGo (bytesOf s) 0 0 = none by rw [HE'.out]; simp [b64h_decGo, hz])
          have hzb : (b != 0) = true := by simp [hz]
          clear hz
          go_wp2_with fail
          go_ret2
          exact ⟨by rw [HF.out]; first | rfl | (simp [b64h_decE]; done), HB.out⟩
      · subst hh
        by_cases hz : b = 0
        · subst hz
          have HF := Lib.hid (show b64h_decGo (bytesOf s) 0 0 = some out by rw [HE'.out]; simp [b64h_decGo])
          go_wp2_with fail
          go_ret2
          exact ⟨by rw [HF.out]; first | rfl | (simp [b64h_decE]; done), HB.out⟩
        · have HF := Lib.hid (show b64h_decGo (bytesOf s) 0 0 = none by rw [HE'.out]; simp [b64h_decGo, hz])
          have hzb : (b != 0) = true := by simp [hz]
          clear hz
          go_wp2_with fail
          go_ret2
          exact ⟨by rw [HF.out]; first | rfl | (simp [b64h_decE]; done), HB.out⟩
      · subst hh
        by_cases hz : b = 0
        · subst hz
          have HF := Lib.hid (show b64h_decGo (bytesOf s) 0 0 = some out by rw [HE'.out]; simp [b64h_decGo])
          go_wp2_with fail
          go_ret2
          exact ⟨by rw [HF.out]; first | rfl | (simp [b64h_decE]; done), HB.out⟩
        · have HF := Lib.hid (show b64h_decGo (bytesOf s) 0 0 = none by rw [HE'.out]; simp [b64h_decGo, hz])
          have hzb : (b != 0) = true := by simp [hz]
          clear hz
          go_wp2_with fail
          go_ret2
          exact ⟨by rw [HF.out]; first | rfl | (simp [b64h_decE]; done), HB.out⟩
      · subst hh
        have HF := Lib.hid (show b64h_decGo (bytesOf s) 0 0 = none by rw [HE'.out]; simp [b64h_decGo])
        go_wp2_with fail
        go_ret2
        exact ⟨by rw [HF.out]; first | rfl | (simp [b64h_decE]; done), HB.out⟩


def b64_Decode.f (a0 : ByteArray) : Option (ByteArray × Bool) := if a0.size ≤ 100000 then some (match b64h_decGo (bytesOf a0) 0 0 with
  | none => ((⟨#[]⟩ : ByteArray), false)
  | some l => (strOfNums l, true)) else none
theorem b64_Decode.calls (a0 : ByteArray) (r1 : ByteArray) (r2 : Bool) (w : World) (h : b64_Decode.f a0 = some (r1, r2)) :
    Calls Try.prog 36 #[.string a0] w fun e w' => e = .returned (.tuple #[.string r1, .bool r2]) ∧ Below w.heap.size w w' := by
  unfold b64_Decode.f at h
  by_cases hs : a0.size ≤ 100000
  · rw [if_pos hs] at h
    have h := Option.some.inj h
    have hc := b64h_decode_calls a0 w hs
    unfold b64h_decE at hc
    cases hd : b64h_decGo (bytesOf a0) 0 0 with
    | none =>
      rw [hd] at h hc
      obtain ⟨rfl, rfl⟩ := Prod.mk.inj h
      exact hc
    | some l =>
      rw [hd] at h hc
      obtain ⟨rfl, rfl⟩ := Prod.mk.inj h
      exact hc
  · rw [if_neg hs] at h
    exact absurd h (by simp)

/-! ### b64_Encode: walked by hand -/
theorem b64h_info : (Try.prog.info? 5).map (fun i => (i.zero, i.size, i.bytes)) = some (some (.int .u8 0), 1, 1) := by kernel_rfl
def b64h_signs : ByteArray := ⟨#[65, 66, 67, 68, 69, 70, 71, 72, 73, 74, 75, 76, 77, 78, 79, 80, 81, 82, 83, 84, 85, 86, 87, 88, 89, 90, 97, 98, 99, 100, 101, 102, 103, 104, 105, 106, 107, 108, 109, 110, 111, 112, 113, 114, 115, 116, 117, 118, 119, 120, 121, 122, 48, 49, 50, 51, 52, 53, 54, 55, 56, 57, 45, 95]⟩
/-- A number's sign. -/
def b64h_sgn (n : Int) : Int := bt b64h_signs n

/-- What is written of bytes, where so many bits wait. -/
def b64h_encGo : List Int → Int → Int → List Int
  | [], b, h => if 0 < h then [b64h_sgn (b * 2 ^ (6 - h).toNat % 64)] else []
  | c :: t, b, h =>
    if h = 0 then b64h_sgn ((b * 256 + c) / 4 % 64) :: b64h_encGo t ((b * 256 + c) % 4) 2
    else if h = 2 then b64h_sgn ((b * 256 + c) / 16 % 64) :: b64h_encGo t ((b * 256 + c) % 16) 4
    else b64h_sgn ((b * 256 + c) / 64 % 64) :: b64h_sgn ((b * 256 + c) % 64) :: b64h_encGo t 0 0
/-- The bits that wait. -/
def b64h_encOk (b h : Int) : Prop := (h = 0 ∧ 0 ≤ b ∧ b < 1) ∨ (h = 2 ∧ 0 ≤ b ∧ b < 4) ∨ (h = 4 ∧ 0 ≤ b ∧ b < 16)

theorem b64h_enc_round (s : ByteArray) (j : Nat) (c b h : Int) {A out new R : List Int} (hc : bt s (j : Int) = c) (hj : j < s.size) (he : A = out ++ b64h_encGo ((bytesOf s).drop j) b h) (hs : b64h_encGo (c :: (bytesOf s).drop (j + 1)) b h = new ++ R) : A = (out ++ new) ++ R := by
  have hl : j < (bytesOf s).length := by rw [bytesOf_length]; exact hj
  have hr := rd_bytesOf s (j : Int)
  rw [hc] at hr
  unfold rd at hr
  rw [List.getD_eq_getElem?_getD, Int.toNat_natCast, List.getElem?_eq_getElem hl, Option.getD_some] at hr
  rw [he, List.drop_eq_getElem_cons hl, hr, hs, List.append_assoc]

set_option maxHeartbeats 2000000 in
theorem b64h_encode_calls (s : ByteArray) (w : World) (hs : s.size ≤ 100000) :
    Calls Try.prog 22 #[.string s] w fun e w' => e = .returned (.string (strOfNums (b64h_encGo (bytesOf s) 0 0))) ∧ Below w.heap.size w w' := by
  have HB := Aside0.mk (Below.refl w.heap.size w)
  have kb := fun W => print_bytes (P := Try.prog) 9 48 5 Try.underlying9 Try.underlying48 Try.underlying5 s W
  have hq : (s.size : Int) / 3 * 4 + 4 ≤ 133338 := by omega
  have hq0 : 0 ≤ (s.size : Int) / 3 * 4 + 4 := by omega
  have hq1 : ((s.size : Int) / 3 * 4 + 4).toNat * 1 ≤ 281474976710656 := by omega
  go_enter Try.func22, Try.ntmps22
  go_wp2_with (((with_reducible refine gate_dst (N := 13) rfl ?_)); (refine Kd.R_make0 (Kd.int .u8) _ 5 rfl (N := 13) rfl 48 _ _ rfl _ rfl rfl Try.underlying48 (.int .u8 0) 1 b64h_info (by omega) (ok := fun k => True) trivial ?c2 ?c3 (Below.refl _ _) (Nat.le_refl _) ?_; (case c2 => exact hq0); (case c3 => exact hq1); intro v1 w1 ho hb hg hat; clear HB; have HB := Aside0.mk hb; have HO := Aside0.mk ho; clear ho hb hg hat))
  have hbb := bytes_below HB.out HB.out.size 5 s
  have hoo : Kd.R (Kd.int .u8) 5 (Lib.bytesWorld w1 5 s) w.heap.size (fun k => k ≠ w1.heap.size) v1 [] :=
    Kd.R_below (Kd.R_mono (Kd.R_bound HO.out) (fun k hk => Nat.ne_of_lt hk.2.2.1)) (bytes_below (Below.refl _ _) (Nat.le_refl _) 5 s)
  have hcells : ∀ j : Nat, j < s.size → (Lib.bytesWorld w1 5 s).cell? ⟨w1.heap.size, j, none⟩ = some (.int .u8 (bt s j)) := by
    intro j hj
    rw [Lib.bytesWorld_cell w1 5 s j hj]
    congr 2
    unfold bt
    rw [dif_pos (show ((j : Int)).toNat < s.size by simpa using hj), List.getD_eq_getElem?_getD, List.getElem?_eq_getElem (by rw [data_length]; exact hj)]
    simp
    rfl
  have hsz : w1.heap.size < (Lib.bytesWorld w1 5 s).heap.size := by rw [Lib.bytesWorld_size]; omega
  clear HB HO kb
  generalize hC : grownCap w1 s.size 0 5 = C
  generalize hW : Lib.bytesWorld w1 5 s = wB at *
  generalize hG : w1.heap.size = G at *
  have HB := Aside0.mk hbb
  have HO := Aside0.mk hoo
  have HE := Aside0.mk hcells
  have HS := Aside0.mk hsz
  clear hC hW hG hbb hoo hcells hsz hq hq0 hq1
  go_loopg [3, 4, 5, 17] (s.size) (fun kq v3 v4 v5 v17 w' => ∃ (j : Nat) (b h : Int) (out : List Int), v4 = .int .u64 b ∧ v5 = .int .u64 h ∧ v17 = .int .i64 j ∧ Aside0 (kq + j = s.size) ∧
    Aside0 (b64h_encOk b h) ∧ Aside0 (b64h_encGo (bytesOf s) 0 0 = out ++ b64h_encGo ((bytesOf s).drop j) b h) ∧ Aside0 (out.length ≤ 2 * j) ∧ Aside0 (Kd.R (Kd.int .u8) 5 w' w.heap.size (fun k => k ≠ G) v3 out) ∧
    Aside0 (w'.heap[G]? = wB.heap[G]?) ∧ Aside0 (G < w'.heap.size) ∧ Aside0 (Below w.heap.size w w'))
  case atStart => exact ⟨0, 0, 0, [], rfl, rfl, rfl, ⟨by omega⟩, ⟨by unfold b64h_encOk; omega⟩, ⟨by simp⟩, ⟨by simp⟩, HO, ⟨rfl⟩, HS, HB⟩
  case round =>
    clear HO HS HB
    obtain ⟨j, b, h, out, rfl, rfl, rfl, HK, HOk, HEq, HLen, HO, HBk, HS, HB⟩ := hrel
    by_cases hj : j < s.size
    · have hx := (World.cell?_of_block (w := wB) (a := ⟨G, j, none⟩) HBk.out).trans (HE.out j hj)
      obtain ⟨c, hc⟩ : ∃ c, bt s (j : Int) = c := ⟨_, rfl⟩
      rw [hc] at hx
      obtain ⟨c0, c1⟩ := bt_range s (j : Int)
      rw [hc] at c0 c1
      have HC := Lib.hid hc
      clear hc
      rcases HOk.out with ⟨hh, hb0, hb1⟩ | ⟨hh, hb0, hb1⟩ | ⟨hh, hb0, hb1⟩
      · subst hh
        have HBk0 := HBk
        have HS0 := HS
        have HO0 := HO
        have HB0 := HB
        have hor := mine_or_byte b c hb0 (by omega) c0 c1
        obtain ⟨q, hq⟩ : ∃ q, b * 256 + c = q := ⟨_, rfl⟩
        rw [hq] at hor
        have q0 : 0 ≤ q := by omega
        have q1 : q < 256 := by omega
        have HQ := Lib.hid hq
        clear hq
        have hstep : b64h_encGo (c :: (bytesOf s).drop (j + 1)) b 0 = b64h_sgn (q / 4 % 64) :: b64h_encGo ((bytesOf s).drop (j + 1)) (q % 4) 2 := by rw [← HQ.out]; simp [b64h_encGo]
        have HStep := Lib.hid hstep
        clear hstep
        go_wp2_with fail
        refine wp_loop_rounds 4 ?_
        rw [rounds_succ]
        have d01 : 0 ≤ q / 4 % 64 := by omega
        have d11 : q / 4 % 64 < 64 := by omega
        have ham1 := mine_and_mask 6 63 rfl (q / 4) (by omega) (by omega)
        obtain ⟨y1, hy1⟩ : ∃ y, b64h_sgn (q / 4 % 64) = y := ⟨_, rfl⟩
        have hbt1 := bt_at (⟨#[65, 66, 67, 68, 69, 70, 71, 72, 73, 74, 75, 76, 77, 78, 79, 80, 81, 82, 83, 84, 85, 86, 87, 88, 89, 90, 97, 98, 99, 100, 101, 102, 103, 104, 105, 106, 107, 108, 109, 110, 111, 112, 113, 114, 115, 116, 117, 118, 119, 120, 121, 122, 48, 49, 50, 51, 52, 53, 54, 55, 56, 57, 45, 95]⟩ : ByteArray) (q / 4 % 64)
        rw [show bt (⟨#[65, 66, 67, 68, 69, 70, 71, 72, 73, 74, 75, 76, 77, 78, 79, 80, 81, 82, 83, 84, 85, 86, 87, 88, 89, 90, 97, 98, 99, 100, 101, 102, 103, 104, 105, 106, 107, 108, 109, 110, 111, 112, 113, 114, 115, 116, 117, 118, 119, 120, 121, 122, 48, 49, 50, 51, 52, 53, 54, 55, 56, 57, 45, 95]⟩ : ByteArray) (q / 4 % 64) = y1 from hy1] at hbt1
        have Hy1 := Lib.hid hy1
        clear hy1
        go_wp2_with (first | ((with_reducible refine gate_builtin (b := .append) (xs := #[.tmp 32, .tmp 38]) rfl ?_); at_builtin; refine Kd.R_append (Kd.int .u8) (w0 := w) w.heap.size rfl (.tmp 32) (.tmp 38) 48 5 (.int .u8 0) 1 rfl Try.underlying48 b64h_info rfl (by decide) (by omega) u3 out y1 [.int .u8 y1] (fun k => k ≠ G) (fun _ => False) rfl rfl ?aP (fun _ hk => hk.elim) ?aF ?aO ?aB ?aS ?aL ?_; (case aP => exact rfl); (case aB => exact HB0.out); (case aF => exact mine_fresh_ne HS0.out); (case aO => exact HO0.out); (case aS => exact below_size HB0.out); (case aL => have := HLen.out; (try simp only [List.length_append, List.length_cons, List.length_nil]); omega); intro va1 wa1 ho1 hb1 hg1 hat1; obtain ⟨hbk1, hs1⟩ := mine_grow_apart HO0.out.1 HBk0.out HS0.out hg1; have HO1 := Aside0.mk ho1; have HB1 := Aside0.mk hb1; have HBk1 := Aside0.mk hbk1; have HS1 := Aside0.mk hs1; clear ho1 hb1 hg1 hat1 hbk1 hs1))
        rw [rounds_succ]
        have hrm := mine_and_mask 2 3 rfl q (by omega) (by omega)
        go_wp2_with fail
        obtain ⟨g, rfl⟩ : ∃ m, gk = m + 1 := ⟨gk - 1, by have := HK.out; omega⟩
        go_roundg g
        case measure => omega
        case rel => exact ⟨j + 1, q % 4, 2, (out ++ [y1]), by first | rfl | (simp; done), by first | rfl | (simp; done), by first | rfl | (simp; done), ⟨by have := HK.out; omega⟩, ⟨by unfold b64h_encOk; omega⟩, ⟨by have e := b64h_enc_round s j c b 0 (new := [y1]) HC.out hj HEq.out (by rw [HStep.out, Hy1.out]; rfl); simpa using e⟩, ⟨by have := HLen.out; simp only [List.length_append, List.length_cons, List.length_nil]; omega⟩, HO1, HBk1, HS1, HB1⟩
      · subst hh
        have HBk0 := HBk
        have HS0 := HS
        have HO0 := HO
        have HB0 := HB
        have hor := mine_or_byte b c hb0 (by omega) c0 c1
        obtain ⟨q, hq⟩ : ∃ q, b * 256 + c = q := ⟨_, rfl⟩
        rw [hq] at hor
        have q0 : 0 ≤ q := by omega
        have q1 : q < 1024 := by omega
        have HQ := Lib.hid hq
        clear hq
        have hstep : b64h_encGo (c :: (bytesOf s).drop (j + 1)) b 2 = b64h_sgn (q / 16 % 64) :: b64h_encGo ((bytesOf s).drop (j + 1)) (q % 16) 4 := by rw [← HQ.out]; simp [b64h_encGo]
        have HStep := Lib.hid hstep
        clear hstep
        go_wp2_with fail
        refine wp_loop_rounds 4 ?_
        rw [rounds_succ]
        have d01 : 0 ≤ q / 16 % 64 := by omega
        have d11 : q / 16 % 64 < 64 := by omega
        have ham1 := mine_and_mask 6 63 rfl (q / 16) (by omega) (by omega)
        obtain ⟨y1, hy1⟩ : ∃ y, b64h_sgn (q / 16 % 64) = y := ⟨_, rfl⟩
        have hbt1 := bt_at (⟨#[65, 66, 67, 68, 69, 70, 71, 72, 73, 74, 75, 76, 77, 78, 79, 80, 81, 82, 83, 84, 85, 86, 87, 88, 89, 90, 97, 98, 99, 100, 101, 102, 103, 104, 105, 106, 107, 108, 109, 110, 111, 112, 113, 114, 115, 116, 117, 118, 119, 120, 121, 122, 48, 49, 50, 51, 52, 53, 54, 55, 56, 57, 45, 95]⟩ : ByteArray) (q / 16 % 64)
        rw [show bt (⟨#[65, 66, 67, 68, 69, 70, 71, 72, 73, 74, 75, 76, 77, 78, 79, 80, 81, 82, 83, 84, 85, 86, 87, 88, 89, 90, 97, 98, 99, 100, 101, 102, 103, 104, 105, 106, 107, 108, 109, 110, 111, 112, 113, 114, 115, 116, 117, 118, 119, 120, 121, 122, 48, 49, 50, 51, 52, 53, 54, 55, 56, 57, 45, 95]⟩ : ByteArray) (q / 16 % 64) = y1 from hy1] at hbt1
        have Hy1 := Lib.hid hy1
        clear hy1
        go_wp2_with (first | ((with_reducible refine gate_builtin (b := .append) (xs := #[.tmp 32, .tmp 38]) rfl ?_); at_builtin; refine Kd.R_append (Kd.int .u8) (w0 := w) w.heap.size rfl (.tmp 32) (.tmp 38) 48 5 (.int .u8 0) 1 rfl Try.underlying48 b64h_info rfl (by decide) (by omega) u3 out y1 [.int .u8 y1] (fun k => k ≠ G) (fun _ => False) rfl rfl ?aP (fun _ hk => hk.elim) ?aF ?aO ?aB ?aS ?aL ?_; (case aP => exact rfl); (case aB => exact HB0.out); (case aF => exact mine_fresh_ne HS0.out); (case aO => exact HO0.out); (case aS => exact below_size HB0.out); (case aL => have := HLen.out; (try simp only [List.length_append, List.length_cons, List.length_nil]); omega); intro va1 wa1 ho1 hb1 hg1 hat1; obtain ⟨hbk1, hs1⟩ := mine_grow_apart HO0.out.1 HBk0.out HS0.out hg1; have HO1 := Aside0.mk ho1; have HB1 := Aside0.mk hb1; have HBk1 := Aside0.mk hbk1; have HS1 := Aside0.mk hs1; clear ho1 hb1 hg1 hat1 hbk1 hs1))
        rw [rounds_succ]
        have hrm := mine_and_mask 4 15 rfl q (by omega) (by omega)
        go_wp2_with fail
        obtain ⟨g, rfl⟩ : ∃ m, gk = m + 1 := ⟨gk - 1, by have := HK.out; omega⟩
        go_roundg g
        case measure => omega
        case rel => exact ⟨j + 1, q % 16, 4, (out ++ [y1]), by first | rfl | (simp; done), by first | rfl | (simp; done), by first | rfl | (simp; done), ⟨by have := HK.out; omega⟩, ⟨by unfold b64h_encOk; omega⟩, ⟨by have e := b64h_enc_round s j c b 2 (new := [y1]) HC.out hj HEq.out (by rw [HStep.out, Hy1.out]; rfl); simpa using e⟩, ⟨by have := HLen.out; simp only [List.length_append, List.length_cons, List.length_nil]; omega⟩, HO1, HBk1, HS1, HB1⟩
      · subst hh
        have HBk0 := HBk
        have HS0 := HS
        have HO0 := HO
        have HB0 := HB
        have hor := mine_or_byte b c hb0 (by omega) c0 c1
        obtain ⟨q, hq⟩ : ∃ q, b * 256 + c = q := ⟨_, rfl⟩
        rw [hq] at hor
        have q0 : 0 ≤ q := by omega
        have q1 : q < 4096 := by omega
        have HQ := Lib.hid hq
        clear hq
        have hstep : b64h_encGo (c :: (bytesOf s).drop (j + 1)) b 4 = b64h_sgn (q / 64 % 64) :: b64h_sgn (q % 64) :: b64h_encGo ((bytesOf s).drop (j + 1)) (0) 0 := by rw [← HQ.out]; simp [b64h_encGo]
        have HStep := Lib.hid hstep
        clear hstep
        go_wp2_with fail
        refine wp_loop_rounds 4 ?_
        rw [rounds_succ]
        have d01 : 0 ≤ q / 64 % 64 := by omega
        have d11 : q / 64 % 64 < 64 := by omega
        have ham1 := mine_and_mask 6 63 rfl (q / 64) (by omega) (by omega)
        obtain ⟨y1, hy1⟩ : ∃ y, b64h_sgn (q / 64 % 64) = y := ⟨_, rfl⟩
        have hbt1 := bt_at (⟨#[65, 66, 67, 68, 69, 70, 71, 72, 73, 74, 75, 76, 77, 78, 79, 80, 81, 82, 83, 84, 85, 86, 87, 88, 89, 90, 97, 98, 99, 100, 101, 102, 103, 104, 105, 106, 107, 108, 109, 110, 111, 112, 113, 114, 115, 116, 117, 118, 119, 120, 121, 122, 48, 49, 50, 51, 52, 53, 54, 55, 56, 57, 45, 95]⟩ : ByteArray) (q / 64 % 64)
        rw [show bt (⟨#[65, 66, 67, 68, 69, 70, 71, 72, 73, 74, 75, 76, 77, 78, 79, 80, 81, 82, 83, 84, 85, 86, 87, 88, 89, 90, 97, 98, 99, 100, 101, 102, 103, 104, 105, 106, 107, 108, 109, 110, 111, 112, 113, 114, 115, 116, 117, 118, 119, 120, 121, 122, 48, 49, 50, 51, 52, 53, 54, 55, 56, 57, 45, 95]⟩ : ByteArray) (q / 64 % 64) = y1 from hy1] at hbt1
        have Hy1 := Lib.hid hy1
        clear hy1
        go_wp2_with (first | ((with_reducible refine gate_builtin (b := .append) (xs := #[.tmp 32, .tmp 38]) rfl ?_); at_builtin; refine Kd.R_append (Kd.int .u8) (w0 := w) w.heap.size rfl (.tmp 32) (.tmp 38) 48 5 (.int .u8 0) 1 rfl Try.underlying48 b64h_info rfl (by decide) (by omega) u3 out y1 [.int .u8 y1] (fun k => k ≠ G) (fun _ => False) rfl rfl ?aP (fun _ hk => hk.elim) ?aF ?aO ?aB ?aS ?aL ?_; (case aP => exact rfl); (case aB => exact HB0.out); (case aF => exact mine_fresh_ne HS0.out); (case aO => exact HO0.out); (case aS => exact below_size HB0.out); (case aL => have := HLen.out; (try simp only [List.length_append, List.length_cons, List.length_nil]); omega); intro va1 wa1 ho1 hb1 hg1 hat1; obtain ⟨hbk1, hs1⟩ := mine_grow_apart HO0.out.1 HBk0.out HS0.out hg1; have HO1 := Aside0.mk ho1; have HB1 := Aside0.mk hb1; have HBk1 := Aside0.mk hbk1; have HS1 := Aside0.mk hs1; clear ho1 hb1 hg1 hat1 hbk1 hs1))
        rw [rounds_succ]
        have d02 : 0 ≤ q % 64 := by omega
        have d12 : q % 64 < 64 := by omega
        have ham2 := mine_and_mask 6 63 rfl (q) (by omega) (by omega)
        obtain ⟨y2, hy2⟩ : ∃ y, b64h_sgn (q % 64) = y := ⟨_, rfl⟩
        have hbt2 := bt_at (⟨#[65, 66, 67, 68, 69, 70, 71, 72, 73, 74, 75, 76, 77, 78, 79, 80, 81, 82, 83, 84, 85, 86, 87, 88, 89, 90, 97, 98, 99, 100, 101, 102, 103, 104, 105, 106, 107, 108, 109, 110, 111, 112, 113, 114, 115, 116, 117, 118, 119, 120, 121, 122, 48, 49, 50, 51, 52, 53, 54, 55, 56, 57, 45, 95]⟩ : ByteArray) (q % 64)
        rw [show bt (⟨#[65, 66, 67, 68, 69, 70, 71, 72, 73, 74, 75, 76, 77, 78, 79, 80, 81, 82, 83, 84, 85, 86, 87, 88, 89, 90, 97, 98, 99, 100, 101, 102, 103, 104, 105, 106, 107, 108, 109, 110, 111, 112, 113, 114, 115, 116, 117, 118, 119, 120, 121, 122, 48, 49, 50, 51, 52, 53, 54, 55, 56, 57, 45, 95]⟩ : ByteArray) (q % 64) = y2 from hy2] at hbt2
        have Hy2 := Lib.hid hy2
        clear hy2
        go_wp2_with (first | ((with_reducible refine gate_builtin (b := .append) (xs := #[.tmp 32, .tmp 38]) rfl ?_); at_builtin; refine Kd.R_append (Kd.int .u8) (w0 := w) w.heap.size rfl (.tmp 32) (.tmp 38) 48 5 (.int .u8 0) 1 rfl Try.underlying48 b64h_info rfl (by decide) (by omega) va1 (out ++ [y1]) y2 [.int .u8 y2] (fun k => k ≠ G) (fun _ => False) rfl rfl ?aP (fun _ hk => hk.elim) ?aF ?aO ?aB ?aS ?aL ?_; (case aP => exact rfl); (case aB => exact HB1.out); (case aF => exact mine_fresh_ne HS1.out); (case aO => exact HO1.out); (case aS => exact below_size HB1.out); (case aL => have := HLen.out; (try simp only [List.length_append, List.length_cons, List.length_nil]); omega); intro va2 wa2 ho2 hb2 hg2 hat2; obtain ⟨hbk2, hs2⟩ := mine_grow_apart HO1.out.1 HBk1.out HS1.out hg2; have HO2 := Aside0.mk ho2; have HB2 := Aside0.mk hb2; have HBk2 := Aside0.mk hbk2; have HS2 := Aside0.mk hs2; clear ho2 hb2 hg2 hat2 hbk2 hs2))
        rw [rounds_succ]
        have hrm := mine_and_mask 0 0 rfl q (by omega) (by omega)
        go_wp2_with fail
        obtain ⟨g, rfl⟩ : ∃ m, gk = m + 1 := ⟨gk - 1, by have := HK.out; omega⟩
        go_roundg g
        case measure => omega
        case rel => exact ⟨j + 1, 0, 0, ((out ++ [y1]) ++ [y2]), by first | rfl | (simp; done), by first | rfl | (simp; done), by first | rfl | (simp; done), ⟨by have := HK.out; omega⟩, ⟨by unfold b64h_encOk; omega⟩, ⟨by have e := b64h_enc_round s j c b 4 (new := [y1, y2]) HC.out hj HEq.out (by rw [HStep.out, Hy1.out, Hy2.out]; rfl); simpa using e⟩, ⟨by have := HLen.out; simp only [List.length_append, List.length_cons, List.length_nil]; omega⟩, HO2, HBk2, HS2, HB2⟩
    · have hjn : j = s.size := by have := HK.out; omega
      subst hjn
      have HEq' : b64h_encGo (bytesOf s) 0 0 = out ++ b64h_encGo [] b h := by rw [HEq.out, List.drop_of_length_le (by rw [bytesOf_length]; exact Nat.le_refl _)]
      have HE' := Lib.hid HEq'
      clear HEq' HEq
      rcases HOk.out with ⟨hh, hb0, hb1⟩ | ⟨hh, hb0, hb1⟩ | ⟨hh, hb0, hb1⟩
      · subst hh
        have HF := Lib.hid (show b64h_encGo (bytesOf s) 0 0 = out by rw [HE'.out]; simp [b64h_encGo])
        have hcv := own_string (P := Try.prog) Try.underlying48 Try.underlying5 Try.underlying9 (Kd.own_of_R HO.out)
        go_wp2_with fail
        go_ret
        exact ⟨by rw [HF.out]; first | rfl | (simp; done), HB.out⟩
      · subst hh
        have d0 : 0 ≤ b * 16 % 64 := by omega
        have d1 : b * 16 % 64 < 64 := by omega
        have ham := mine_and_mask 6 63 rfl (b * 16) (by omega) (by omega)
        obtain ⟨y, hy⟩ : ∃ y, b64h_sgn (b * 16 % 64) = y := ⟨_, rfl⟩
        have HF := Lib.hid (show b64h_encGo (bytesOf s) 0 0 = out ++ [y] by rw [HE'.out, ← hy]; simp [b64h_encGo])
        have hbt := bt_at (⟨#[65, 66, 67, 68, 69, 70, 71, 72, 73, 74, 75, 76, 77, 78, 79, 80, 81, 82, 83, 84, 85, 86, 87, 88, 89, 90, 97, 98, 99, 100, 101, 102, 103, 104, 105, 106, 107, 108, 109, 110, 111, 112, 113, 114, 115, 116, 117, 118, 119, 120, 121, 122, 48, 49, 50, 51, 52, 53, 54, 55, 56, 57, 45, 95]⟩ : ByteArray) (b * 16 % 64)
        rw [show bt (⟨#[65, 66, 67, 68, 69, 70, 71, 72, 73, 74, 75, 76, 77, 78, 79, 80, 81, 82, 83, 84, 85, 86, 87, 88, 89, 90, 97, 98, 99, 100, 101, 102, 103, 104, 105, 106, 107, 108, 109, 110, 111, 112, 113, 114, 115, 116, 117, 118, 119, 120, 121, 122, 48, 49, 50, 51, 52, 53, 54, 55, 56, 57, 45, 95]⟩ : ByteArray) (b * 16 % 64) = y from hy] at hbt
        have Hy := Lib.hid hy
        clear hy
        go_wp2_with (first | ((with_reducible refine gate_builtin (b := .append) (xs := #[.tmp 48, .tmp 55]) rfl ?_); at_builtin; refine Kd.R_append (Kd.int .u8) (w0 := w) w.heap.size rfl (.tmp 48) (.tmp 55) 48 5 (.int .u8 0) 1 rfl Try.underlying48 b64h_info rfl (by decide) (by omega) u3 out y [.int .u8 y] (fun k => k ≠ G) (fun _ => False) rfl rfl ?aP (fun _ hk => hk.elim) ?aF ?aO ?aB ?aS ?aL ?_; (case aP => exact rfl); (case aB => exact HB.out); (case aF => exact mine_fresh_ne HS.out); (case aO => exact HO.out); (case aS => exact below_size HB.out); (case aL => have := HLen.out; omega); intro va1 wa1 ho1 hb1 hg1 hat1; have hcv := own_string (P := Try.prog) Try.underlying48 Try.underlying5 Try.underlying9 (Kd.own_of_R ho1); have HB1 := Aside0.mk hb1; clear ho1 hb1 hg1 hat1))
        go_ret
        exact ⟨by rw [HF.out]; first | rfl | (simp; done), HB1.out⟩
      · subst hh
        have d0 : 0 ≤ b * 4 % 64 := by omega
        have d1 : b * 4 % 64 < 64 := by omega
        have ham := mine_and_mask 6 63 rfl (b * 4) (by omega) (by omega)
        obtain ⟨y, hy⟩ : ∃ y, b64h_sgn (b * 4 % 64) = y := ⟨_, rfl⟩
        have HF := Lib.hid (show b64h_encGo (bytesOf s) 0 0 = out ++ [y] by rw [HE'.out, ← hy]; simp [b64h_encGo])
        have hbt := bt_at (⟨#[65, 66, 67, 68, 69, 70, 71, 72, 73, 74, 75, 76, 77, 78, 79, 80, 81, 82, 83, 84, 85, 86, 87, 88, 89, 90, 97, 98, 99, 100, 101, 102, 103, 104, 105, 106, 107, 108, 109, 110, 111, 112, 113, 114, 115, 116, 117, 118, 119, 120, 121, 122, 48, 49, 50, 51, 52, 53, 54, 55, 56, 57, 45, 95]⟩ : ByteArray) (b * 4 % 64)
        rw [show bt (⟨#[65, 66, 67, 68, 69, 70, 71, 72, 73, 74, 75, 76, 77, 78, 79, 80, 81, 82, 83, 84, 85, 86, 87, 88, 89, 90, 97, 98, 99, 100, 101, 102, 103, 104, 105, 106, 107, 108, 109, 110, 111, 112, 113, 114, 115, 116, 117, 118, 119, 120, 121, 122, 48, 49, 50, 51, 52, 53, 54, 55, 56, 57, 45, 95]⟩ : ByteArray) (b * 4 % 64) = y from hy] at hbt
        have Hy := Lib.hid hy
        clear hy
        go_wp2_with (first | ((with_reducible refine gate_builtin (b := .append) (xs := #[.tmp 48, .tmp 55]) rfl ?_); at_builtin; refine Kd.R_append (Kd.int .u8) (w0 := w) w.heap.size rfl (.tmp 48) (.tmp 55) 48 5 (.int .u8 0) 1 rfl Try.underlying48 b64h_info rfl (by decide) (by omega) u3 out y [.int .u8 y] (fun k => k ≠ G) (fun _ => False) rfl rfl ?aP (fun _ hk => hk.elim) ?aF ?aO ?aB ?aS ?aL ?_; (case aP => exact rfl); (case aB => exact HB.out); (case aF => exact mine_fresh_ne HS.out); (case aO => exact HO.out); (case aS => exact below_size HB.out); (case aL => have := HLen.out; omega); intro va1 wa1 ho1 hb1 hg1 hat1; have hcv := own_string (P := Try.prog) Try.underlying48 Try.underlying5 Try.underlying9 (Kd.own_of_R ho1); have HB1 := Aside0.mk hb1; clear ho1 hb1 hg1 hat1))
        go_ret
        exact ⟨by rw [HF.out]; first | rfl | (simp; done), HB1.out⟩


def b64_Encode.f (a0 : ByteArray) : Option ByteArray := if a0.size ≤ 100000 then some (strOfNums (b64h_encGo (bytesOf a0) 0 0)) else none
theorem b64_Encode.calls (a0 : ByteArray) (r : ByteArray) (w : World) (h : b64_Encode.f a0 = some r) :
    Calls Try.prog 22 #[.string a0] w fun e w' => e = .returned (.string r) ∧ Below w.heap.size w w' := by
  unfold b64_Encode.f at h
  by_cases hs : a0.size ≤ 100000
  · rw [if_pos hs] at h
    obtain rfl := Option.some.inj h
    exact b64h_encode_calls a0 w hs
  · rw [if_neg hs] at h
    exact absurd h (by simp)

/-! ### nunciolaw03_awake: function 9 -/
def nuncioref03_sign.f (a0 : Int) : Option (Int) := if a0 < 26 then (some ((wrap64 (65 + a0)) % 256)) else (if a0 < 52 then (some ((wrap64 ((wrap64 (97 + a0)) - 26)) % 256)) else (if a0 < 62 then (some ((wrap64 ((wrap64 (48 + a0)) - 52)) % 256)) else (if a0 = 62 then (some 45) else (some 95))))
set_option maxHeartbeats 8000000 in
set_option maxRecDepth 100000 in
theorem nuncioref03_sign.calls (a0 : Int) (r : Int) (w : World) (h : nuncioref03_sign.f a0 = some r) :
    Calls Try.prog 35 #[.int .i64 a0] w fun e w' => e = .returned (.int .u8 r) ∧ Drawn0 w w' := by
  have H : (if a0 < 26 then (some ((wrap64 (65 + a0)) % 256)) else (if a0 < 52 then (some ((wrap64 ((wrap64 (97 + a0)) - 26)) % 256)) else (if a0 < 62 then (some ((wrap64 ((wrap64 (48 + a0)) - 52)) % 256)) else (if a0 = 62 then (some 45) else (some 95))))) = some r := h
  clear h
  by_cases c2 : a0 < 26
  · rw [if_pos c2] at H
    have c2b0 : decide (a0 < 26) = true := decide_eq_true c2
    clear c2
    obtain rfl := Option.some.inj H
    go_enter Try.func35, Try.ntmps35
    go_wp2
    go_ret
    exact ⟨by first | rfl | (simp; done) | (simp [*]; done), by repeat (first | exact Drawn0.refl _ | apply Drawn0.step)⟩
  · rw [if_neg c2] at H
    have c2b0 : decide (a0 < 26) = false := decide_eq_false c2
    clear c2
    by_cases c3 : a0 < 52
    · rw [if_pos c3] at H
      have c3b0 : decide (a0 < 52) = true := decide_eq_true c3
      clear c3
      obtain rfl := Option.some.inj H
      go_enter Try.func35, Try.ntmps35
      go_wp2
      go_ret
      exact ⟨by first | rfl | (simp; done) | (simp [*]; done), by repeat (first | exact Drawn0.refl _ | apply Drawn0.step)⟩
    · rw [if_neg c3] at H
      have c3b0 : decide (a0 < 52) = false := decide_eq_false c3
      clear c3
      by_cases c4 : a0 < 62
      · rw [if_pos c4] at H
        have c4b0 : decide (a0 < 62) = true := decide_eq_true c4
        clear c4
        obtain rfl := Option.some.inj H
        go_enter Try.func35, Try.ntmps35
        go_wp2
        go_ret
        exact ⟨by first | rfl | (simp; done) | (simp [*]; done), by repeat (first | exact Drawn0.refl _ | apply Drawn0.step)⟩
      · rw [if_neg c4] at H
        have c4b0 : decide (a0 < 62) = false := decide_eq_false c4
        clear c4
        by_cases c5 : a0 = 62
        · rw [if_pos c5] at H
          have c5b0 : (a0 == 62) = true := beq_iff_eq.mpr c5
          have c5b1 : (a0 != 62) = false := bne_eq_false_iff_eq.mpr c5
          clear c5
          obtain rfl := Option.some.inj H
          go_enter Try.func35, Try.ntmps35
          go_wp2
          go_ret
          exact ⟨by first | rfl | (simp; done) | (simp [*]; done), by repeat (first | exact Drawn0.refl _ | apply Drawn0.step)⟩
        · rw [if_neg c5] at H
          have c5b0 : (a0 == 62) = false := beq_eq_false_iff_ne.mpr c5
          have c5b1 : (a0 != 62) = true := bne_iff_ne.mpr c5
          obtain rfl := Option.some.inj H
          go_enter Try.func35, Try.ntmps35
          go_wp2
          go_ret
          exact ⟨by first | rfl | (simp; done) | (simp [*]; done), by repeat (first | exact Drawn0.refl _ | apply Drawn0.step)⟩

/-! ### nuncioref03_number: function 25 -/
def nuncioref03_number.l0 : Nat → Int → Int → Option (Int)
  | 0, _, _ => none
  | k + 1, x0, x3 => if x3 < 64 then ((nuncioref03_sign.f x3).bind fun t106 => (if t106 = x0 then (some x3) else (nuncioref03_number.l0 k x0 (wrap64 (x3 + 1))))) else (some (-1))
def nuncioref03_number.f (k : Nat) (a0 : Int) : Option (Int) := nuncioref03_number.l0 k a0 0
theorem nuncioref03_number.mono_l : ∀ k, (∀ y0 y1, LeO (nuncioref03_number.l0 k y0 y1) (nuncioref03_number.l0 (k + 1) y0 y1))
  | 0 => fun _ _ r h => by simp [nuncioref03_number.l0] at h
  | k + 1 => by
    have ih0 := nuncioref03_number.mono_l k
    · intro y0 y1
      unfold nuncioref03_number.l0
      repeat' first
      | (with_reducible exact ih0 _ _)
      | (with_reducible exact LeO.refl _)
      | (with_reducible exact LeO.none _)
      | (with_reducible refine LeO.ite ?_ ?_)
      | (with_reducible refine LeO.bind ?_ (fun _ => ?_))
      | exact ih0 _ _
      | exact LeO.none _
      | refine LeO.ite ?_ ?_
      | refine LeO.bind ?_ (fun _ => ?_)
theorem nuncioref03_number.mono : ∀ a0 k, LeO (nuncioref03_number.f k a0) (nuncioref03_number.f (k + 1) a0) := by
  intro a0 k
  have ih0 := nuncioref03_number.mono_l k
  unfold nuncioref03_number.f
  repeat' first
      | (with_reducible exact ih0 _ _)
      | (with_reducible exact LeO.refl _)
      | (with_reducible exact LeO.none _)
      | (with_reducible refine LeO.ite ?_ ?_)
      | (with_reducible refine LeO.bind ?_ (fun _ => ?_))
      | exact ih0 _ _
      | exact LeO.none _
      | refine LeO.ite ?_ ?_
      | refine LeO.bind ?_ (fun _ => ?_)
set_option maxHeartbeats 8000000 in
set_option maxRecDepth 100000 in
theorem nuncioref03_number.calls (k : Nat) (a0 : Int) (r : Int) (w : World) (h : nuncioref03_number.f k a0 = some r) :
    Calls Try.prog 37 #[.int .u8 a0] w fun e w' => e = .returned (.int .i64 r) ∧ Drawn0 w w' := by
  have H : (nuncioref03_number.l0 k a0 0) = some r := h
  clear h
  have H' := Aside0.mk H
  clear H
  go_enter Try.func37, Try.ntmps37
  go_wp2
  go_loopg [3] k (fun kq v3 w' => ∃ (x3_1 : Int), v3 = .int .i64 x3_1 ∧ Aside0 (nuncioref03_number.l0 kq a0 x3_1 = some r) ∧ Aside0 (kq ≤ k) ∧ Drawn0 w w')
  case atStart => exact ⟨(0), (by first | rfl | (simp; done) | (simp [*]; done)), H', ⟨Nat.le_refl _⟩, by repeat (first | exact Drawn0.refl _ | apply Drawn0.step)⟩
  case round =>
    clear H'
    obtain ⟨x3_1, rfl, HA, HK1, ⟨m1, rfl⟩⟩ := hrel
    cases gk with
    | zero => exact absurd HA.out (by simp [nuncioref03_number.l0])
    | succ k1 =>
      have H := HA.out
      clear HA
      simp only [nuncioref03_number.l0] at H
      by_cases c2 : x3_1 < 64
      · rw [if_pos c2] at H
        have c2b0 : decide (x3_1 < 64) = true := decide_eq_true c2
        clear c2
        replace H := Option.bind_eq_some_iff.mp H
        obtain ⟨t106, A30, H⟩ := H
        replace H : (if t106 = a0 then (some x3_1) else (nuncioref03_number.l0 k1 a0 (wrap64 (x3_1 + 1)))) = some r := H
        have A3 := Aside0.mk A30
        clear A30
        by_cases c4 : t106 = a0
        · rw [if_pos c4] at H
          have c4b0 : (t106 == a0) = true := beq_iff_eq.mpr c4
          have c4b1 : (t106 != a0) = false := bne_eq_false_iff_eq.mpr c4
          clear c4
          obtain rfl := Option.some.inj H
          go_wp2_with (first | ((with_reducible refine gate_callee (f := 35) rfl ?_); refine goesL_ (some 9) rfl rfl Try.func35 (by kernel_rfl) rfl #[.int .i64 x3_1] rfl (by (try simp only [List.map_toArray, List.map_cons, List.map_nil]); first | done | rfl | (simp only [List.length_drop, List.length_take]; rfl)) ?_; (with_reducible refine (nuncioref03_sign.calls x3_1 t106 _ A3.out).mono ?_); rintro e w' ⟨rfl, ⟨nd, rfl⟩⟩; refine ⟨_, rfl, ?_⟩))
          go_ret
          exact ⟨by first | rfl | (simp; done) | (simp [*]; done), by repeat (first | exact Drawn0.refl _ | apply Drawn0.step)⟩
        · rw [if_neg c4] at H
          have c4b0 : (t106 == a0) = false := beq_eq_false_iff_ne.mpr c4
          have c4b1 : (t106 != a0) = true := bne_iff_ne.mpr c4
          have H' := Aside0.mk H
          clear H
          go_wp2_with (first | ((with_reducible refine gate_callee (f := 35) rfl ?_); refine goesL_ (some 9) rfl rfl Try.func35 (by kernel_rfl) rfl #[.int .i64 x3_1] rfl (by (try simp only [List.map_toArray, List.map_cons, List.map_nil]); first | done | rfl | (simp only [List.length_drop, List.length_take]; rfl)) ?_; (with_reducible refine (nuncioref03_sign.calls x3_1 t106 _ A3.out).mono ?_); rintro e w' ⟨rfl, ⟨nd, rfl⟩⟩; refine ⟨_, rfl, ?_⟩))
          go_roundg k1
          case measure => have := HK1.out; omega
          case rel => exact ⟨(wrap64 (x3_1 + 1)), (by first | rfl | (simp; done) | (simp [*]; done)), H', ⟨by have := HK1.out; omega⟩, by repeat (first | exact Drawn0.refl _ | apply Drawn0.step)⟩
      · rw [if_neg c2] at H
        have c2b0 : decide (x3_1 < 64) = false := decide_eq_false c2
        clear c2
        obtain rfl := Option.some.inj H
        go_wp2
        go_ret
        exact ⟨by first | rfl | (simp; done) | (simp [*]; done), by repeat (first | exact Drawn0.refl _ | apply Drawn0.step)⟩


end Go.Proofs.Ytfoflodgegehfaa.B64
