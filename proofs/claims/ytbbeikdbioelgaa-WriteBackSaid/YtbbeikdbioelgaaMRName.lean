/- Walks of package dnsread: the reader's name. -/
import Derived.Test.YtbbeikdbioelgaaMReader
set_option linter.unusedVariables false
set_option linter.unusedSimpArgs false
namespace Go.Proofs.Ytbbeikdbioelgaa.M
open Go.RowKit Go.Maps Go.Proofs.YtbbeikdbioelgaaW.PrintWords Go.Proofs.YtbbeikdbioelgaaW.PrintLast Go.Proofs.YtbbeikdbioelgaaW.PrintMore
attribute [local go_sem] max2_int min2_int max_two min_two max_three min_three max_four min_four
attribute [local go_sem ↓] Go.wp_at_zero Go.wp_at_succ
/-- The name that stands at a place, by the rounds that it may take: its bytes so far, the begin of its part, the place behind its first pointer (or below 0). -/
def nameR : Nat → ByteArray → List Int → Int → Int → Int → Except Int (List Int × Int)
  | 0, _, _, _, _, _ => .error 2
  | k + 1, s, b, part, nx, a =>
    match getF s a 1 with
    | none => .error 2
    | some n =>
      if n = 0 then .ok (b ++ [0], if 0 ≤ nx then nx else a + 1)
      else if 191 < n then
        match getF s (a + 1) 1 with
        | none => .error 2
        | some m => if part ≤ n % 64 * 256 + m then .error 42 else nameR k s b (n % 64 * 256 + m) (if nx < 0 then a + 2 else nx) (n % 64 * 256 + m)
      else if 63 < n then .error 41
      else
        match partF s (a + 1) n with
        | none => .error 2
        | some l => if 255 < b.length + n + 2 then .error 40 else nameR k s (b ++ [n] ++ bytesOf l) part nx (a + 1 + n)
/-- The name at a place, and the place behind it. -/
def nameAt (s : ByteArray) (a : Int) : Except Int (List Int × Int) := nameR (a.toNat * 256 + 257) s [] a (-1) a
/-- How a read of a text ends. -/
structure TextEnds (R : Except Int (List Int × Int)) (w : World) (g : Nat) (s : ByteArray) (e : Ending) (w' : World) : Prop where
  bad : ∀ c, R = .error c → e = gaveUp c
  good : ∀ b a, R = .ok (b, a) → e = .returned (.string (strOfNums b)) ∧ RAt w' g s a
  only : Only g w w'
theorem TextEnds.err {R : Except Int (List Int × Int)} {w w' : World} {g : Nat} {s : ByteArray} {c : Int} (h : R = .error c) (ho : Only g w w') : TextEnds R w g s (gaveUp c) w' :=
  ⟨fun d hd => by rw [h] at hd; rw [Except.error.inj hd], fun b a hb => by rw [h] at hb; exact absurd hb (by simp), ho⟩
theorem TextEnds.ok {R : Except Int (List Int × Int)} {w w' : World} {g : Nat} {s : ByteArray} {b : List Int} {a : Int} (h : R = .ok (b, a)) (hr : RAt w' g s a) (ho : Only g w w') : TextEnds R w g s (.returned (.string (strOfNums b))) w' :=
  ⟨fun d hd => by rw [h] at hd; exact absurd hd (by simp), fun b' a' hb => by rw [h] at hb; obtain ⟨rfl, rfl⟩ := Prod.mk.inj (Except.ok.inj hb); exact ⟨rfl, hr⟩, ho⟩
theorem get1 {s : ByteArray} {a n : Int} (h : getF s a 1 = some n) : 0 ≤ n ∧ n ≤ 255 ∧ 0 ≤ a ∧ a + 1 ≤ s.size := by
  obtain ⟨t, h1, rfl, _⟩ := get_part h
  obtain ⟨h2, _, h3, h4, _⟩ := part_size h1
  have hl := bytesOf_length t
  match hb : bytesOf t, hl with
  | [x], _ =>
    have hm : x ∈ bytesOf t := by rw [hb]; simp
    unfold bytesOf at hm
    obtain ⟨b, _, rfl⟩ := List.mem_map.1 hm
    have := b.toNat_lt
    simp only [valF]
    omega
  | [], hl => simp at hl; omega
  | _ :: _ :: _, hl => simp at hl; omega
theorem and63 (n : Int) (h0 : 0 ≤ n) (h1 : n ≤ 255) : bits .and .i64 n 63 = n % 64 :=
  bits_mask .i64 60 (by decide) (by intro n h0 h1; rw [IntKind.wrap_i64]; omega) 6 (by decide) n h0 (by omega)
theorem or_low (x y : Int) (h0 : 0 ≤ x) (h1 : x < 64) (y0 : 0 ≤ y) (y1 : y ≤ 255) : bits .or .i64 (x * 256) y = x * 256 + y :=
  bits_join .i64 60 (by decide) (by intro n h0 h1; rw [IntKind.wrap_i64]; omega) 8 (x * 256) y (by omega) (by omega) (by omega) (by omega) (by omega) (by omega)
set_option maxHeartbeats 4000000 in
set_option maxRecDepth 100000 in
theorem name_calls' {w : World} {g : Nat} {s : ByteArray} {a : Int} (h : RAt w g s a) (hs : s.size ≤ 1000000) (wf : -9223372036854775808 ≤ a) (wf1 : a ≤ 9223372036854775807) :
    Calls Try.prog 44 #[.pointer (some ⟨g, 0, none⟩)] w fun e w' => TextEnds (nameAt s a) w g s e w' := by
  obtain ⟨R, hR⟩ : ∃ R, nameAt s a = R := ⟨_, rfl⟩
  rw [hR]
  have z1 := h.c1
  have HR := Aside0.mk h
  have HE := Aside0.mk hR
  have HS := Aside0.mk hs
  have HO := Aside0.mk (Only.refl g w)
  clear h hR
  go_enter Try.func44, Try.ntmps44
  go_wp2_with fail
  clear z1
  go_loopg [3, 4, 5] (a.toNat * 256 + 257) (fun kq v3 v4 v5 w' => ∃ (b : List Int) (part nx at' : Int), v4 = .int .i64 part ∧ v5 = .int .i64 nx ∧ Aside0 (nameR kq s b part nx at' = R) ∧ Aside0 (part.toNat * 256 + 256 < kq + b.length) ∧ Aside0 (b.length ≤ 254) ∧ Aside0 (-1 ≤ nx ∧ nx ≤ 1000000) ∧ Aside0 (RAt w' g s at') ∧ Aside0 (Only g w w') ∧ Aside0 (B8 w' w.heap.size (fun _ => True) v3 b))
  case atStart => exact ⟨[], a, -1, a, rfl, rfl, HE, ⟨by simp⟩, ⟨by simp⟩, ⟨by omega⟩, HR, HO, ⟨Kd.R_nil _ _ _ _ _⟩⟩
  case round =>
    clear HR HE HO
    obtain ⟨b, part, nx, at', rfl, rfl, HE, HK, HL, HX, HR, HO, HB⟩ := hrel
    obtain ⟨k, rfl⟩ : ∃ k, gk = k + 1 := ⟨gk - 1, by have := HK.out; have := HL.out; omega⟩
    have he := HE.out
    unfold nameR at he
    clear HE
    cases h1 : getF s at' 1 with
    | none =>
      rw [h1] at he
      have H1 := Lib.hid h1
      have HE := Lib.hid he
      clear he h1
      go_wp2_with fail
      refine (num_no HR.out HS.out H1.out).mono ?_
      rintro e w2 ⟨rfl, ho⟩
      exact ⟨rfl, TextEnds.err HE.out.symm (HO.out.trans ho)⟩
    | some n =>
      rw [h1] at he
      simp only [] at he
      have H1 := Lib.hid h1
      obtain ⟨n0, n1, a0, a1⟩ := get1 h1
      clear h1
      go_wp2_with fail
      refine (num_yes HR.out HS.out H1.out).mono ?_
      rintro e w2 ⟨rfl, hr, ho⟩
      have HR2 := Aside0.mk hr
      have HO2 := Aside0.mk (HO.out.trans ho)
      have HB2 := Aside0.mk (R_only HB.out HR.out (by decide) ho)
      clear hr ho
      have hw1 : IntKind.i64.wrap n = n := by rw [IntKind.wrap_i64]; omega
      have q0 : at' + 1 ≤ 1000000 := by have := HS.out; omega
      have HN := Lib.hid (show 0 ≤ n ∧ n ≤ 255 from ⟨n0, n1⟩)
      by_cases c1 : n = 0
      · rw [if_pos c1] at he
        subst c1
        have e1 : ((0 : Int) == 0) = true := rfl
        have HLn := Aside0.mk (show (b.length + 1) * 1 ≤ 140737488355328 by have := HL.out; omega)
        by_cases c2 : 0 ≤ nx
        · rw [if_pos c2] at he
          have HE := Lib.hid he
          have d2 : decide (0 ≤ nx) = true := decide_eq_true c2
          have y1 := HR2.out.c1
          have f1 : w2.frozen? ⟨g, 1, none⟩ = false := blk_frozen HR2.out 1
          clear he
          have HBs := Aside0.mk (Kd.R_set HB2.out HR2.out (by intro q hq; rw [show q = 5 by simpa [Kd.int, Kd.scalar] using hq]; decide) 1 (.int .i64 nx))
          have HRs := Aside0.mk (HR2.out.set nx)
          have HOs := Aside0.mk (HO2.out.set 1 (.int .i64 nx))
          go_wp2_with (((with_reducible refine gate_builtin (b := .append) (xs := #[.tmp 42, .tmp 43]) rfl ?_); at_builtin; go_must (refine app8 rfl (.tmp 42) (.tmp 43) rfl rfl (by first | rfl | (go_simp; done)) HBs.out (Below.refl _ _) (fun _ _ _ => trivial) HOs.out.size HLn.out ?_; intro va wa hoa hba hga hata)); go_must (have hcv := strOf hoa; have HRa := Aside0.mk (HRs.out.over HBs.out hga); have HOa := Aside0.mk (HOs.out.of_grown hga (Kd.R_base HBs.out)); clear hoa hba hga hata))
          go_ret
          exact TextEnds.ok HE.out.symm HRa.out HOa.out
        · rw [if_neg c2] at he
          have HE := Lib.hid he
          have d2 : decide (0 ≤ nx) = false := decide_eq_false c2
          clear he
          have HBs := HB2
          have HRs := HR2
          have HOs := HO2
          go_wp2_with (((with_reducible refine gate_builtin (b := .append) (xs := #[.tmp 42, .tmp 43]) rfl ?_); at_builtin; go_must (refine app8 rfl (.tmp 42) (.tmp 43) rfl rfl (by first | rfl | (go_simp; done)) HBs.out (Below.refl _ _) (fun _ _ _ => trivial) HOs.out.size HLn.out ?_; intro va wa hoa hba hga hata)); go_must (have hcv := strOf hoa; have HRa := Aside0.mk (HRs.out.over HBs.out hga); have HOa := Aside0.mk (HOs.out.of_grown hga (Kd.R_base HBs.out)); clear hoa hba hga hata))
          go_ret
          exact TextEnds.ok HE.out.symm HRa.out HOa.out
      rw [if_neg c1] at he
      have e1 : (n == 0) = false := beq_eq_false_iff_ne.mpr c1
      by_cases c3 : 191 < n
      · rw [if_pos c3] at he
        have d3 : decide (191 < n) = true := decide_eq_true c3
        have hand := and63 n n0 n1
        have hsh : IntKind.i64.wrap (n % 64 * 256) = n % 64 * 256 := by rw [IntKind.wrap_i64]; omega
        clear c1
        cases h2 : getF s (at' + 1) 1 with
        | none =>
          rw [h2] at he
          have H2 := Lib.hid h2
          have HE := Lib.hid he
          clear he h2
          go_wp2_with fail
          refine (num_no HR2.out HS.out H2.out).mono ?_
          rintro e w3 ⟨rfl, ho⟩
          exact ⟨rfl, TextEnds.err HE.out.symm (HO2.out.trans ho)⟩
        | some m =>
          rw [h2] at he
          simp only [] at he
          have H2 := Lib.hid h2
          obtain ⟨m0, m1, _, a2⟩ := get1 h2
          have hw2 : IntKind.i64.wrap m = m := by rw [IntKind.wrap_i64]; omega
          have hor := or_low (n % 64) m (by omega) (by omega) m0 m1
          obtain ⟨tq, hto⟩ : ∃ tq, n % 64 * 256 + m = tq := ⟨_, rfl⟩
          rw [hto] at he hor
          have HTo := Lib.hid (show 0 ≤ tq ∧ tq ≤ 16383 by omega)
          have q1 : at' + 1 + 1 ≤ 1000000 := by have := HS.out; omega
          clear h2 hto
          by_cases c4 : part ≤ tq
          · rw [if_pos c4] at he
            have HE := Lib.hid he
            have d4 : decide (part ≤ tq) = true := decide_eq_true c4
            clear he
            go_wp2_with fail
            refine (num_yes HR2.out HS.out H2.out).mono ?_
            rintro e w3 ⟨rfl, hr, ho⟩
            have HR3 := Aside0.mk hr
            have HO3 := Aside0.mk (HO2.out.trans ho)
            have HB3 := Aside0.mk (R_only HB2.out HR2.out (by decide) ho)
            have y1 := hr.c1
            have f1 : w3.frozen? ⟨g, 1, none⟩ = false := blk_frozen hr 1
            clear hr ho
            go_wp2_with fail
            exact ⟨rfl, TextEnds.err HE.out.symm HO3.out⟩
          · rw [if_neg c4] at he
            have d4 : decide (part ≤ tq) = false := decide_eq_false c4
            have HMs := Aside0.mk (show tq.toNat * 256 + 256 < k + b.length by have := HK.out; have := HTo.out; have := HL.out; omega)
            by_cases c5 : nx < 0
            · rw [if_pos c5] at he
              have HE := Aside0.mk he
              have d5 : decide (nx < 0) = true := decide_eq_true c5
              clear he
              go_wp2_with fail
              refine (num_yes HR2.out HS.out H2.out).mono ?_
              rintro e w3 ⟨rfl, hr, ho⟩
              have HR3 := Aside0.mk hr
              have HO3 := Aside0.mk (HO2.out.trans ho)
              have HB3 := Aside0.mk (R_only HB2.out HR2.out (by decide) ho)
              have y1 := hr.c1
              have f1 : w3.frozen? ⟨g, 1, none⟩ = false := blk_frozen hr 1
              clear hr ho
              go_wp2_with fail
              go_roundg k
              case measure => omega
              case rel => exact ⟨b, tq, at' + 2, tq, rfl, by first | rfl | (congr 1; omega), HE, HMs, HL, ⟨by omega⟩, ⟨HR3.out.set tq⟩, ⟨HO3.out.set 1 (.int .i64 tq)⟩, ⟨Kd.R_set HB3.out HR3.out (by intro q hq; rw [show q = 5 by simpa [Kd.int, Kd.scalar] using hq]; decide) 1 (.int .i64 tq)⟩⟩
            · rw [if_neg c5] at he
              have HE := Aside0.mk he
              have d5 : decide (nx < 0) = false := decide_eq_false c5
              clear he
              go_wp2_with fail
              refine (num_yes HR2.out HS.out H2.out).mono ?_
              rintro e w3 ⟨rfl, hr, ho⟩
              have HR3 := Aside0.mk hr
              have HO3 := Aside0.mk (HO2.out.trans ho)
              have HB3 := Aside0.mk (R_only HB2.out HR2.out (by decide) ho)
              have y1 := hr.c1
              have f1 : w3.frozen? ⟨g, 1, none⟩ = false := blk_frozen hr 1
              clear hr ho
              go_wp2_with fail
              go_roundg k
              case measure => omega
              case rel => exact ⟨b, tq, nx, tq, rfl, rfl, HE, HMs, HL, HX, ⟨HR3.out.set tq⟩, ⟨HO3.out.set 1 (.int .i64 tq)⟩, ⟨Kd.R_set HB3.out HR3.out (by intro q hq; rw [show q = 5 by simpa [Kd.int, Kd.scalar] using hq]; decide) 1 (.int .i64 tq)⟩⟩
      rw [if_neg c3] at he
      have d3 : decide (191 < n) = false := decide_eq_false c3
      by_cases c6 : 63 < n
      · rw [if_pos c6] at he
        have HE := Lib.hid he
        have d6 : decide (63 < n) = true := decide_eq_true c6
        clear he c1
        go_wp2_with fail
        exact ⟨rfl, TextEnds.err HE.out.symm HO2.out⟩
      rw [if_neg c6] at he
      have d6 : decide (63 < n) = false := decide_eq_false c6
      cases h3 : partF s (at' + 1) n with
      | none =>
        rw [h3] at he
        have H3 := Lib.hid h3
        have HE := Lib.hid he
        clear he h3 c1
        go_wp2_with fail
        refine (text_no HR2.out HS.out H3.out).mono ?_
        rintro e w3 ⟨rfl, ho⟩
        exact ⟨rfl, TextEnds.err HE.out.symm (HO2.out.trans ho)⟩
      | some l =>
        rw [h3] at he
        simp only [] at he
        have H3 := Lib.hid h3
        obtain ⟨lz, -, -, l3, -⟩ := part_size h3
        have HLz := Lib.hid (show (l.size : Int) = n ∧ at' + 1 + n ≤ 1000000 from ⟨lz, by have := HS.out; omega⟩)
        have hu8 : IntKind.u8.wrap n = n := by rw [IntKind.wrap_u8]; omega
        have q5 : (b.length : Int) ≤ 254 := by have := HL.out; omega
        have q6 : n ≤ 63 := by omega
        clear h3 c1 lz l3
        by_cases c7 : 255 < (b.length : Int) + n + 2
        · rw [if_pos c7] at he
          have HE := Lib.hid he
          have d7 : decide (255 < (b.length : Int) + n + 2) = true := decide_eq_true c7
          clear he
          go_wp2_with fail
          refine (text_yes HR2.out HS.out H3.out).mono ?_
          rintro e w3 ⟨rfl, hr, ho⟩
          have HR3 := Aside0.mk hr
          have HO3 := Aside0.mk (HO2.out.trans ho)
          have HB3 := Aside0.mk (R_only HB2.out HR2.out (by decide) ho)
          clear hr ho
          obtain ⟨A3, c3, rfl⟩ := Kd.R_slice HB3.out
          go_wp2_with fail
          exact ⟨rfl, TextEnds.err HE.out.symm HO3.out⟩
        · rw [if_neg c7] at he
          have HE := Aside0.mk he
          have d7 : decide (255 < (b.length : Int) + n + 2) = false := decide_eq_false c7
          clear he
          have HL1 := Aside0.mk (show (b.length + 1) * 1 ≤ 140737488355328 by have := HL.out; omega)
          have HL2 := Aside0.mk (show (b ++ [n]).length + l.size ≤ 140737488355328 by have := HL.out; have := HLz.out.1; rw [List.length_append, List.length_singleton]; omega)
          go_wp2_with fail
          refine (text_yes HR2.out HS.out H3.out).mono ?_
          rintro e w3 ⟨rfl, hr, ho⟩
          have HR3 := Aside0.mk hr
          have HO3 := Aside0.mk (HO2.out.trans ho)
          have HB3 := Aside0.mk (R_only HB2.out HR2.out (by decide) ho)
          clear hr ho
          obtain ⟨A3, c3, rfl⟩ := Kd.R_slice HB3.out
          go_wp2_with (first | (((with_reducible refine gate_builtin (b := .append) (xs := #[.tmp 26, .tmp 29]) rfl ?_); at_builtin; go_must (refine app8 rfl (.tmp 26) (.tmp 29) rfl rfl (by first | rfl | (go_simp; done)) HB3.out (Below.refl _ _) (fun _ _ _ => trivial) HO3.out.size HL1.out ?_; intro va wa hoa hba hga hata)); go_must (have HR4 := Aside0.mk (HR3.out.over HB3.out hga); have HO4 := Aside0.mk (HO3.out.of_grown hga (Kd.R_base HB3.out)); have HB4 := Aside0.mk hoa; clear hoa hba hga hata)) | (((with_reducible refine gate_builtin (b := .append) (xs := #[.tmp 30, .tmp 31]) rfl ?_); at_builtin; go_must (refine app8s rfl (.tmp 30) (.tmp 31) rfl rfl rfl HB4.out (Below.refl _ _) HO4.out.size HL2.out ?_; intro vb wb hob hbb hgb)); go_must (have HR5 := Aside0.mk (HR4.out.over HB4.out hgb); have HO5 := Aside0.mk (HO4.out.of_grown hgb (Kd.R_base HB4.out)); have HB5 := Aside0.mk hob; clear hob hbb hgb)))
          go_roundg k
          case measure => omega
          case rel => exact ⟨_, part, nx, at' + 1 + n, rfl, rfl, HE, ⟨by have := HK.out; have := HLz.out.1; simp only [List.length_append, List.length_singleton, bytesOf_length]; omega⟩, ⟨by have := HLz.out.1; simp only [List.length_append, List.length_singleton, bytesOf_length]; omega⟩, HX, HR5, HO5, HB5⟩
end Go.Proofs.Ytbbeikdbioelgaa.M
