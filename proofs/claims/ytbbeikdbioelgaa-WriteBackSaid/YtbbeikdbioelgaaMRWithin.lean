/- Walks of package dnsread: the reader's bare, ends, within, numbers. -/
import Derived.Test.YtbbeikdbioelgaaMRName
set_option linter.unusedVariables false
set_option linter.unusedSimpArgs false
namespace Go.Proofs.Ytbbeikdbioelgaa.M
open Go.RowKit Go.Maps Go.Proofs.YtbbeikdbioelgaaW.PrintWords Go.Proofs.YtbbeikdbioelgaaW.PrintLast Go.Proofs.YtbbeikdbioelgaaW.PrintMore
attribute [local go_sem] max2_int min2_int max_two min_two max_three min_three max_four min_four
attribute [local go_sem ↓] Go.wp_at_zero Go.wp_at_succ
def bareR : Nat → ByteArray → List Int → Int → Except Int (List Int × Int)
  | 0, _, _, _ => .error 2
  | k + 1, s, b, a =>
    match getF s a 1 with
    | none => .error 2
    | some n =>
      if n = 0 then .ok (b ++ [0], a + 1)
      else if 191 < n then .error 50
      else if 63 < n then .error 41
      else if 255 < b.length + n + 2 then .error 40
      else
        match partF s (a + 1) n with
        | none => .error 2
        | some l => bareR k s (b ++ [n] ++ bytesOf l) (a + 1 + n)
/-- A name without pointers, at a place. -/
def bareAt (s : ByteArray) (a : Int) : Except Int (List Int × Int) := bareR 257 s [] a
set_option maxHeartbeats 4000000 in
set_option maxRecDepth 100000 in
theorem bare_calls {w : World} {g : Nat} {s : ByteArray} {a : Int} (h : RAt w g s a) (hs : s.size ≤ 1000000) :
    Calls Try.prog 88 #[.pointer (some ⟨g, 0, none⟩)] w fun e w' => TextEnds (bareAt s a) w g s e w' := by
  obtain ⟨R, hR⟩ : ∃ R, bareAt s a = R := ⟨_, rfl⟩
  rw [hR]
  have HR := Aside0.mk h
  have HE := Aside0.mk hR
  have HS := Aside0.mk hs
  have HO := Aside0.mk (Only.refl g w)
  clear h hR
  go_enter Try.func88, Try.ntmps88
  go_wp2_with fail
  go_loopg [3] 257 (fun kq v3 w' => ∃ (b : List Int) (at' : Int), Aside0 (bareR kq s b at' = R) ∧ Aside0 (256 < kq + b.length) ∧ Aside0 (b.length ≤ 254) ∧ Aside0 (RAt w' g s at') ∧ Aside0 (Only g w w') ∧ Aside0 (B8 w' w.heap.size (fun _ => True) v3 b))
  case atStart => exact ⟨[], a, HE, ⟨by simp⟩, ⟨by simp⟩, HR, HO, ⟨Kd.R_nil _ _ _ _ _⟩⟩
  case round =>
    clear HR HE HO
    obtain ⟨b, at', HE, HK, HL, HR, HO, HB⟩ := hrel
    obtain ⟨k, rfl⟩ : ∃ k, gk = k + 1 := ⟨gk - 1, by have := HK.out; have := HL.out; omega⟩
    have he := HE.out
    unfold bareR at he
    clear HE
    cases h1 : getF s at' 1 with
    | none =>
      rw [h1] at he
      have H1 := Lib.hid h1
      have HE := Lib.hid he
      clear he h1
      go_wp2_with fail
      refine (num_no HR.out HS.out H1.out).mono ?_
      rintro e w2 ⟨rfl, ho⟩
      exact ⟨rfl, TextEnds.err HE.out.symm (HO.out.trans ho)⟩
    | some n =>
      rw [h1] at he
      simp only [] at he
      have H1 := Lib.hid h1
      obtain ⟨n0, n1, a0, a1⟩ := get1 h1
      clear h1
      go_wp2_with fail
      refine (num_yes HR.out HS.out H1.out).mono ?_
      rintro e w2 ⟨rfl, hr, ho⟩
      have HR2 := Aside0.mk hr
      have HO2 := Aside0.mk (HO.out.trans ho)
      have HB2 := Aside0.mk (R_only HB.out HR.out (by decide) ho)
      clear hr ho
      have hw1 : IntKind.i64.wrap n = n := by rw [IntKind.wrap_i64]; omega
      have q0 : at' + 1 ≤ 1000000 := by have := HS.out; omega
      have HN := Lib.hid (show 0 ≤ n ∧ n ≤ 255 from ⟨n0, n1⟩)
      have HL1 := Aside0.mk (show (b.length + 1) * 1 ≤ 140737488355328 by have := HL.out; omega)
      by_cases c1 : n = 0
      · rw [if_pos c1] at he
        subst c1
        have HE := Lib.hid he
        have e1 : ((0 : Int) == 0) = true := rfl
        clear he
        go_wp2_with (((with_reducible refine gate_builtin (b := .append) (xs := #[.tmp 11, .tmp 12]) rfl ?_); at_builtin; go_must (refine app8 rfl (.tmp 11) (.tmp 12) rfl rfl (by first | rfl | (go_simp; done)) HB2.out (Below.refl _ _) (fun _ _ _ => trivial) HO2.out.size HL1.out ?_; intro va wa hoa hba hga hata)); go_must (have hcv := strOf hoa; have HRa := Aside0.mk (HR2.out.over HB2.out hga); have HOa := Aside0.mk (HO2.out.of_grown hga (Kd.R_base HB2.out)); clear hoa hba hga hata))
        go_ret
        exact TextEnds.ok HE.out.symm HRa.out HOa.out
      rw [if_neg c1] at he
      have e1 : (n == 0) = false := beq_eq_false_iff_ne.mpr c1
      by_cases c3 : 191 < n
      · rw [if_pos c3] at he
        have HE := Lib.hid he
        have d3 : decide (191 < n) = true := decide_eq_true c3
        clear he c1
        go_wp2_with fail
        exact ⟨rfl, TextEnds.err HE.out.symm HO2.out⟩
      rw [if_neg c3] at he
      have d3 : decide (191 < n) = false := decide_eq_false c3
      by_cases c6 : 63 < n
      · rw [if_pos c6] at he
        have HE := Lib.hid he
        have d6 : decide (63 < n) = true := decide_eq_true c6
        clear he c1
        go_wp2_with fail
        exact ⟨rfl, TextEnds.err HE.out.symm HO2.out⟩
      rw [if_neg c6] at he
      have d6 : decide (63 < n) = false := decide_eq_false c6
      have q5 : (b.length : Int) ≤ 254 := by have := HL.out; omega
      have q6 : n ≤ 63 := by omega
      have hu8 : IntKind.u8.wrap n = n := by rw [IntKind.wrap_u8]; omega
      obtain ⟨A3, c3', rfl⟩ := Kd.R_slice HB2.out
      by_cases c7 : 255 < (b.length : Int) + n + 2
      · rw [if_pos c7] at he
        have HE := Lib.hid he
        have d7 : decide (255 < (b.length : Int) + n + 2) = true := decide_eq_true c7
        clear he c1
        go_wp2_with fail
        exact ⟨rfl, TextEnds.err HE.out.symm HO2.out⟩
      rw [if_neg c7] at he
      have d7 : decide (255 < (b.length : Int) + n + 2) = false := decide_eq_false c7
      cases h3 : partF s (at' + 1) n with
      | none =>
        rw [h3] at he
        have H3 := Lib.hid h3
        have HE := Lib.hid he
        clear he h3 c1
        go_wp2_with (((with_reducible refine gate_builtin (b := .append) (xs := #[.tmp 31, .tmp 34]) rfl ?_); at_builtin; go_must (refine app8 rfl (.tmp 31) (.tmp 34) rfl rfl (by first | rfl | (go_simp; done)) HB2.out (Below.refl _ _) (fun _ _ _ => trivial) HO2.out.size HL1.out ?_; intro va wa hoa hba hga hata)); go_must (have HR4 := Aside0.mk (HR2.out.over HB2.out hga); have HO4 := Aside0.mk (HO2.out.of_grown hga (Kd.R_base HB2.out)); clear hoa hba hga hata))
        refine (text_no HR4.out HS.out H3.out).mono ?_
        rintro e w3 ⟨rfl, ho⟩
        exact ⟨rfl, TextEnds.err HE.out.symm (HO4.out.trans ho)⟩
      | some l =>
        rw [h3] at he
        simp only [] at he
        have H3 := Lib.hid h3
        obtain ⟨lz, -, -, l3, -⟩ := part_size h3
        have HLz := Lib.hid (show (l.size : Int) = n ∧ at' + 1 + n ≤ 1000000 from ⟨lz, by have := HS.out; omega⟩)
        have HE := Aside0.mk he
        have HL2 := Aside0.mk (show (b ++ [n]).length + l.size ≤ 140737488355328 by have := HL.out; have := HLz.out.1; rw [List.length_append, List.length_singleton]; omega)
        have HM := Lib.hid (show (b.length : Int) + n + 2 ≤ 255 by omega)
        clear h3 c1 lz l3 he
        go_wp2_with (((with_reducible refine gate_builtin (b := .append) (xs := #[.tmp 31, .tmp 34]) rfl ?_); at_builtin; go_must (refine app8 rfl (.tmp 31) (.tmp 34) rfl rfl (by first | rfl | (go_simp; done)) HB2.out (Below.refl _ _) (fun _ _ _ => trivial) HO2.out.size HL1.out ?_; intro va wa hoa hba hga hata)); go_must (have HR4 := Aside0.mk (HR2.out.over HB2.out hga); have HO4 := Aside0.mk (HO2.out.of_grown hga (Kd.R_base HB2.out)); have HB4 := Aside0.mk hoa; clear hoa hba hga hata))
        refine (text_yes HR4.out HS.out H3.out).mono ?_
        rintro e w3 ⟨rfl, hr, ho⟩
        have HR3 := Aside0.mk hr
        have HO3 := Aside0.mk (HO4.out.trans ho)
        have HB3 := Aside0.mk (R_only HB4.out HR4.out (by decide) ho)
        clear hr ho
        go_wp2_with (((with_reducible refine gate_builtin (b := .append) (xs := #[.tmp 35, .tmp 38]) rfl ?_); at_builtin; go_must (refine app8s rfl (.tmp 35) (.tmp 38) rfl rfl rfl HB3.out (Below.refl _ _) HO3.out.size HL2.out ?_; intro vb wb hob hbb hgb)); go_must (have HR5 := Aside0.mk (HR3.out.over HB3.out hgb); have HO5 := Aside0.mk (HO3.out.of_grown hgb (Kd.R_base HB3.out)); have HB5 := Aside0.mk hob; clear hob hbb hgb))
        go_roundg k
        case measure => omega
        case rel => exact ⟨_, at' + 1 + n, HE, ⟨by have := HK.out; have := HLz.out.1; have := HN.out; simp only [List.length_append, List.length_singleton, bytesOf_length]; omega⟩, ⟨by have := HLz.out.1; have := HM.out; simp only [List.length_append, List.length_singleton, bytesOf_length]; omega⟩, HR5, HO5, HB5⟩
/-- Does a name that begins at a place end ahead of another? -/
def endsR : Nat → ByteArray → Int → Int → Bool
  | 0, _, _, _ => false
  | k + 1, s, a, en => if a < en then
      (if nb s a.toNat = 0 then true else if 191 < nb s a.toNat then decide (a + 2 ≤ en) else if 63 < nb s a.toNat then true else endsR k s (a + (nb s a.toNat + 1)) en)
    else false
def endsF (s : ByteArray) (a en : Int) : Bool := endsR ((en - a).toNat + 1) s a en
set_option maxHeartbeats 4000000 in
set_option maxRecDepth 100000 in
theorem ends_calls {w : World} {g : Nat} {s : ByteArray} {a en : Int} (h : RAt w g s a) (hs : s.size ≤ 1000000) (h0 : 0 ≤ a) (ha : a ≤ s.size) (he : en ≤ s.size) (he0 : 0 ≤ en) :
    Calls Try.prog 89 #[.pointer (some ⟨g, 0, none⟩), .int .i64 en] w fun e w' => e = .returned (.bool (endsF s a en)) ∧ Below w.heap.size w w' := by
  obtain ⟨R, hR⟩ : ∃ R, endsF s a en = R := ⟨_, rfl⟩
  rw [hR]
  have HR := Aside0.mk h
  have HE := Aside0.mk hR
  have HB := Aside0.mk (Below.refl w.heap.size w)
  have z1 := h.c1
  have p1 : (s.size : Int) ≤ 1000000 := by omega
  have HI := Lib.hid (show 0 ≤ en ∧ en ≤ s.size from ⟨he0, he⟩)
  have HA := Lib.hid (show 0 ≤ a ∧ a ≤ s.size + 256 by omega)
  clear h hR hs h0 ha
  go_enter Try.func89, Try.ntmps89
  go_wp2_with fail
  clear z1
  go_loopg [5] ((en - a).toNat + 1) (fun kq v5 w' => ∃ at' : Int, v5 = .int .i64 at' ∧ Aside0 (endsR kq s at' en = R) ∧ Aside0 ((en - at').toNat < kq) ∧ Aside0 (0 ≤ at' ∧ at' ≤ s.size + 256) ∧ Aside0 (Below w.heap.size w w'))
  case atStart => exact ⟨a, rfl, HE, ⟨Nat.lt_succ_self _⟩, ⟨HA.out⟩, HB⟩
  case round =>
    clear HE HB HA
    obtain ⟨at', rfl, HE, HK, HA, HB⟩ := hrel
    obtain ⟨k, rfl⟩ : ∃ k, gk = k + 1 := ⟨gk - 1, by have := HK.out; omega⟩
    have he := HE.out
    unfold endsR at he
    have z0 := (RAt.below HR.out HB.out).c0
    clear HE
    obtain ⟨a0, a1⟩ := HA.out
    by_cases c1 : at' < en
    · rw [if_pos c1] at he
      have d1 : decide (at' < en) = true := decide_eq_true c1
      have hlt : at'.toNat < s.size := by have := HI.out; omega
      have q1 : at' < (s.size : Int) := by have := HI.out; omega
      have hx := nb_at s at'.toNat
      have hn := nb_lt s at'.toNat
      obtain ⟨n, hnb⟩ : ∃ n, nb s at'.toNat = n := ⟨_, rfl⟩
      rw [hnb] at hx hn he
      have hN := Lib.hid hn
      have hC := Lib.hid c1
      clear hnb c1
      by_cases c2 : n = 0
      · subst c2
        rw [if_pos rfl] at he
        subst he
        go_wp2_with fail
        go_ret
        exact ⟨rfl, HB.out⟩
      rw [if_neg c2] at he
      have e2 : ((n : Int) == 0) = false := beq_eq_false_iff_ne.mpr (by omega)
      have q3 : (n : Int) ≤ 255 := by omega
      clear c2
      by_cases c3 : 191 < n
      · rw [if_pos c3] at he
        have d3 : decide ((191 : Int) < (n : Int)) = true := decide_eq_true (by omega)
        have HE := Lib.hid he
        clear he c3
        go_wp2_with fail
        go_ret
        exact ⟨by rw [← HE.out]; rfl, HB.out⟩
      rw [if_neg c3] at he
      have d3 : decide ((191 : Int) < (n : Int)) = false := decide_eq_false (by omega)
      clear c3
      by_cases c4 : 63 < n
      · rw [if_pos c4] at he
        subst he
        have d4 : decide ((63 : Int) < (n : Int)) = true := decide_eq_true (by omega)
        clear c4
        go_wp2_with fail
        go_ret
        exact ⟨rfl, HB.out⟩
      rw [if_neg c4] at he
      have HE := Aside0.mk he
      have d4 : decide ((63 : Int) < (n : Int)) = false := decide_eq_false (by omega)
      clear c4 he
      go_wp2_with fail
      go_roundg k
      case measure => omega
      case rel => exact ⟨at' + ((n : Int) + 1), rfl, HE, ⟨by have := HK.out; have := hC.out; omega⟩, ⟨by have := hN.out; omega⟩, HB⟩
    · rw [if_neg c1] at he
      subst he
      have d1 : decide (at' < en) = false := decide_eq_false c1
      clear c1
      go_wp2_with fail
      go_ret
      exact ⟨rfl, HB.out⟩
/-- The name that the data of a type has. -/
def withinF (s : ByteArray) (kind a en : Int) : Except Int (List Int × Int) := if endsF s a en = false then .error 50 else if kind = 33 then bareAt s a else nameAt s a
set_option maxHeartbeats 4000000 in
set_option maxRecDepth 100000 in
theorem within_calls {w : World} {g : Nat} {s : ByteArray} {kind a en : Int} (h : RAt w g s a) (hs : s.size ≤ 1000000) (h0 : 0 ≤ a) (ha : a ≤ s.size) (he : en ≤ s.size) (he0 : 0 ≤ en) :
    Calls Try.prog 87 #[.pointer (some ⟨g, 0, none⟩), .int .u16 kind, .int .i64 en] w fun e w' => TextEnds (withinF s kind a en) w g s e w' := by
  have hmf : ∀ (fn : Fn) (first cap : Array Value) (w : World), (Instr.makeFunc fn first cap).run Try.prog w = .ok (.func fn first cap) w := fun _ _ _ _ => rfl
  obtain ⟨R, hR⟩ : ∃ R, withinF s kind a en = R := ⟨_, rfl⟩
  rw [hR]
  unfold withinF at hR
  have HR := Aside0.mk h
  have HA := Lib.hid (show 0 ≤ a ∧ a ≤ s.size ∧ en ≤ s.size ∧ 0 ≤ en from ⟨h0, ha, he, he0⟩)
  clear h h0 ha he he0
  by_cases k1 : kind = 33
  · have e1 : (kind == 33) = true := beq_iff_eq.mpr k1
    rw [if_pos k1] at hR
    have HE := Lib.hid hR
    clear k1 hR
    go_enter Try.func87, Try.ntmps87
    go_wp2_with fail
    refine (ends_calls HR.out hs HA.out.1 HA.out.2.1 HA.out.2.2.1 HA.out.2.2.2).mono ?_
    obtain ⟨q, hq⟩ : ∃ q, endsF s a en = q := ⟨_, rfl⟩
    have he := HE.out
    rw [hq] at he
    rw [hq]
    rintro e w2 ⟨rfl, hb⟩
    have HR2 := Aside0.mk (HR.out.below hb)
    have HO2 := Aside0.mk (Only.of_below hb g)
    clear hb hq HE
    cases q with
    | false =>
      rw [if_pos rfl] at he
      have HE := Lib.hid he
      clear he
      go_wp2_with fail
      exact ⟨rfl, TextEnds.err HE.out.symm HO2.out⟩
    | true =>
      rw [if_neg (by decide)] at he
      go_wp2_with fail
      refine (bare_calls HR2.out hs).mono ?_
      intro e w3 ht
      rw [he] at ht
      have HO3 := Aside0.mk (HO2.out.trans ht.only)
      cases R with
      | error c =>
        obtain rfl := ht.bad c rfl
        exact ⟨rfl, TextEnds.err rfl HO3.out⟩
      | ok x =>
        obtain ⟨b, a'⟩ := x
        obtain ⟨rfl, hr⟩ := ht.good b a' rfl
        have HR3 := Aside0.mk hr
        clear ht hr he
        go_wp2_with fail
        go_ret
        exact TextEnds.ok rfl HR3.out HO3.out
  · have e1 : (kind == 33) = false := beq_eq_false_iff_ne.mpr k1
    rw [if_neg k1] at hR
    have HE := Lib.hid hR
    clear k1 hR
    go_enter Try.func87, Try.ntmps87
    go_wp2_with fail
    refine (ends_calls HR.out hs HA.out.1 HA.out.2.1 HA.out.2.2.1 HA.out.2.2.2).mono ?_
    obtain ⟨q, hq⟩ : ∃ q, endsF s a en = q := ⟨_, rfl⟩
    have he := HE.out
    rw [hq] at he
    rw [hq]
    rintro e w2 ⟨rfl, hb⟩
    have HR2 := Aside0.mk (HR.out.below hb)
    have HO2 := Aside0.mk (Only.of_below hb g)
    clear hb hq HE
    cases q with
    | false =>
      rw [if_pos rfl] at he
      have HE := Lib.hid he
      clear he
      go_wp2_with fail
      exact ⟨rfl, TextEnds.err HE.out.symm HO2.out⟩
    | true =>
      rw [if_neg (by decide)] at he
      go_wp2_with fail
      refine (name_calls' HR2.out hs (by have := HA.out; omega) (by have := HA.out; omega)).mono ?_
      intro e w3 ht
      rw [he] at ht
      have HO3 := Aside0.mk (HO2.out.trans ht.only)
      cases R with
      | error c =>
        obtain rfl := ht.bad c rfl
        exact ⟨rfl, TextEnds.err rfl HO3.out⟩
      | ok x =>
        obtain ⟨b, a'⟩ := x
        obtain ⟨rfl, hr⟩ := ht.good b a' rfl
        have HR3 := Aside0.mk hr
        clear ht hr he
        go_wp2_with fail
        go_ret
        exact TextEnds.ok rfl HR3.out HO3.out
/-- Numbers of one size, one behind the other. -/
def numsR (s : ByteArray) (sz en : Int) : Nat → List Int → Int → Except Int (List Int × Int)
  | 0, out, a => .ok (out, a)
  | k + 1, out, a => if en - a < sz then .error 50 else
    match getF s a sz with
    | none => .error 2
    | some n => numsR s sz en k (out ++ [n]) (a + sz)
/-- How a read of something else ends. -/
structure Ends {α : Type} (P : α → Value → World → Prop) (R : Except Int (α × Int)) (w : World) (g : Nat) (s : ByteArray) (e : Ending) (w' : World) : Prop where
  bad : ∀ c, R = .error c → e = gaveUp c
  good : ∀ x a, R = .ok (x, a) → ∃ v, e = .returned v ∧ P x v w' ∧ RAt w' g s a
  only : Only g w w'
section
variable {α : Type} {P : α → Value → World → Prop} {R : Except Int (α × Int)} {w w' : World} {g : Nat} {s : ByteArray} {a c : Int} {v : Value} {x : α}
theorem Ends.err (h : R = .error c) (ho : Only g w w') : Ends P R w g s (gaveUp c) w' :=
  ⟨fun d hd => by rw [h] at hd; rw [Except.error.inj hd], fun b a hb => by rw [h] at hb; exact absurd hb (by simp), ho⟩
theorem Ends.ok (h : R = .ok (x, a)) (hp : P x v w') (hr : RAt w' g s a) (ho : Only g w w') : Ends P R w g s (.returned v) w' :=
  ⟨fun d hd => by rw [h] at hd; exact absurd hd (by simp), fun b' a' hb => by rw [h] at hb; obtain ⟨rfl, rfl⟩ := Prod.mk.inj (Except.ok.inj hb); exact ⟨v, rfl, hp, hr⟩, ho⟩
end
theorem val_bound (l : List Int) (hl : ∀ x ∈ l, 0 ≤ x ∧ x < 256) (n : Int) (N : Nat) (h0 : 0 ≤ n) (h1 : n < 256 ^ N) : 0 ≤ valF n l ∧ valF n l < 256 ^ (N + l.length) := by
  induction l generalizing n N with
  | nil => exact ⟨h0, h1⟩
  | cons c l ih =>
    have hc := hl c (by simp)
    have := ih (fun x hx => hl x (by simp [hx])) (n * 256 + c) (N + 1) (by omega) (by rw [Int.pow_succ]; omega)
    rw [show N + (c :: l).length = N + 1 + l.length by simp; omega]
    exact this
theorem get_bound {s : ByteArray} {a : Int} {z : Nat} {n : Int} (h : getF s a z = some n) : 0 ≤ n ∧ n < 256 ^ z := by
  obtain ⟨t, h1, rfl, _⟩ := get_part h
  obtain ⟨h2, _⟩ := part_size h1
  have := val_bound (bytesOf t) (fun x hx => by
    unfold bytesOf at hx
    obtain ⟨b, _, rfl⟩ := List.mem_map.1 hx
    have := b.toNat_lt
    omega) 0 0 (by omega) (by decide)
  rw [bytesOf_length, show t.size = z by omega, Nat.zero_add] at this
  exact this
/-- A row of numbers of the call's own. -/
def NumsP (B : Nat) (l : List Int) (v : Value) (w' : World) : Prop := Kd.R (Kd.int .u32) 41 w' B (fun _ => True) v l
set_option maxHeartbeats 4000000 in
set_option maxRecDepth 100000 in
theorem numbers_calls {w : World} {g : Nat} {s : ByteArray} {a en : Int} {count z : Nat} (h : RAt w g s a) (hs : s.size ≤ 1000000) (h0 : 0 ≤ a) (ha : a ≤ s.size) (he : en ≤ s.size) (he0 : 0 ≤ en) (hc : count ≤ 10) (hz : z = 2 ∨ z = 4) :
    Calls Try.prog 86 #[.pointer (some ⟨g, 0, none⟩), .int .i64 count, .int .i64 z, .int .i64 en] w fun e w' => Ends (NumsP w.heap.size) (numsR s z en count [] a) w g s e w' := by
  obtain ⟨R, hR⟩ : ∃ R, numsR s z en count [] a = R := ⟨_, rfl⟩
  rw [hR]
  have HR := Aside0.mk h
  have HE := Aside0.mk hR
  have HO := Aside0.mk (Only.refl g w)
  have HS := Lib.hid (show s.size ≤ 1000000 ∧ en ≤ s.size ∧ 0 ≤ en from ⟨hs, he, he0⟩)
  have HZ := Lib.hid hz
  have HA := Lib.hid (show 0 ≤ a ∧ a ≤ s.size from ⟨h0, ha⟩)
  have p1 : (count : Int) ≤ 10 := by omega
  have p2 : 0 ≤ en := he0
  have p3 : en ≤ 1000000 := by omega
  have HC := Lib.hid hc
  clear h hR hs hz h0 ha he he0 hc
  go_enter Try.func86, Try.ntmps86
  go_wp2_with fail
  go_loopg [9, 11] count (fun kq v9 v11 w' => ∃ (i : Nat) (out : List Int) (at' : Int), v11 = .int .i64 i ∧ Aside0 (numsR s z en kq out at' = R) ∧ Aside0 (kq + i = count) ∧ Aside0 (out.length = i) ∧ Aside0 (0 ≤ at' ∧ at' ≤ s.size) ∧ Aside0 (RAt w' g s at') ∧ Aside0 (Only g w w') ∧ Aside0 (NumsP w.heap.size out v9 w'))
  case atStart => exact ⟨0, [], a, rfl, HE, ⟨rfl⟩, ⟨rfl⟩, ⟨HA.out⟩, HR, HO, ⟨Kd.R_nil _ _ _ _ _⟩⟩
  case round =>
    clear HE HO HR HA
    obtain ⟨i, out, at', rfl, HE, HK, HL, HA, HR, HO, HB⟩ := hrel
    have he := HE.out
    clear HE
    cases gk with
    | zero =>
      have HE := Lib.hid he
      obtain rfl : i = count := by have := HK.out; omega
      clear he
      go_wp2_with fail
      go_ret
      exact Ends.ok HE.out.symm HB.out HR.out HO.out
    | succ k =>
      unfold numsR at he
      have z1 := HR.out.c1
      obtain ⟨a0, a1⟩ := HA.out
      have q1 : (i : Int) < (count : Int) := by have := HK.out; omega
      have q2 : at' ≤ 1000000 := by have := HS.out.1; omega
      have q3 : (z : Int) ≤ 4 := by have := HZ.out; omega
      by_cases c1 : en - at' < z
      · rw [if_pos c1] at he
        have HE := Lib.hid he
        have d1 : decide (en - at' < (z : Int)) = true := decide_eq_true c1
        clear he c1
        go_wp2_with fail
        exact ⟨rfl, Ends.err HE.out.symm HO.out⟩
      rw [if_neg c1] at he
      have d1 : decide (en - at' < (z : Int)) = false := decide_eq_false c1
      cases h1 : getF s at' z with
      | none =>
        rw [h1] at he
        have H1 := Lib.hid h1
        have HE := Lib.hid he
        clear he h1 c1
        go_wp2_with fail
        refine (num_no HR.out HS.out.1 H1.out).mono ?_
        rintro e w2 ⟨rfl, ho⟩
        exact ⟨rfl, Ends.err HE.out.symm (HO.out.trans ho)⟩
      | some n =>
        rw [h1] at he
        simp only [] at he
        have HE := Aside0.mk he
        have H1 := Lib.hid h1
        obtain ⟨n0, n1⟩ := get_bound h1
        have hn32 : n < 4294967296 := by
          rcases HZ.out with hz | hz
          · rw [hz] at n1; omega
          · rw [hz] at n1; omega
        have hw : IntKind.u32.wrap n = n := by rw [IntKind.wrap_u32]; omega
        have ga := get_at h1
        have HA2 := Aside0.mk (show 0 ≤ at' + z ∧ at' + z ≤ s.size by omega)
        have HL1 := Aside0.mk (show (out.length + 1) * 4 ≤ 140737488355328 by have := HL.out; have := HK.out; have := HC.out; omega)
        clear h1 c1 he n1 ga
        go_wp2_with fail
        refine (num_yes HR.out HS.out.1 H1.out).mono ?_
        rintro e w2 ⟨rfl, hr, ho⟩
        have HR2 := Aside0.mk hr
        have HO2 := Aside0.mk (HO.out.trans ho)
        have HB2 := Aside0.mk (R_only HB.out HR.out (by decide) ho)
        clear hr ho z1
        go_wp2_with (((with_reducible refine gate_builtin (b := .append) (xs := #[.tmp 22, .tmp 27]) rfl ?_); at_builtin; go_must (refine app32 rfl (.tmp 22) (.tmp 27) rfl rfl (by first | rfl | (go_simp; done)) HB2.out (Below.refl _ _) (fun _ _ _ => trivial) HO2.out.size HL1.out ?_; intro va wa hoa hba hga hata)); go_must (have HR4 := Aside0.mk (blk_grown HR2.out hga (Kd.R_ne HB2.out HR2.out (by decide))); have HO4 := Aside0.mk (HO2.out.of_grown hga (Kd.R_base HB2.out)); have HB4 := Aside0.mk hoa; clear hoa hba hga hata))
        go_roundg k
        case measure => omega
        case rel => exact ⟨i + 1, _, at' + z, by go_num, HE, ⟨by have := HK.out; omega⟩, ⟨by have := HL.out; rw [List.length_append, List.length_singleton]; omega⟩, HA2, HR4, HO4, HB4⟩
end Go.Proofs.Ytbbeikdbioelgaa.M
