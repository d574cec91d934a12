/- Walk of nuncioref06.Name: it reads the name that dnsread reads. -/
import Derived.Test.YtbbeikdbioelgaaKMRefNum
import Derived.Test.YtbbeikdbioelgaaKMRef05b
import Derived.Test.YtbbeikdbioelgaaKMRDns
import Derived.Test.YtbbeikdbioelgaaKMNameL
import Derived.Laws.Concat
set_option linter.unusedVariables false
set_option linter.unusedSimpArgs false
namespace Go.Proofs.Ytbbeikdbioelgaa.M
open Go.RowKit Go.Maps Go.Proofs.YtbbeikdbioelgaaW.PrintWords Go.Proofs.YtbbeikdbioelgaaW.PrintLast Go.Proofs.YtbbeikdbioelgaaW.PrintMore
attribute [local go_sem] max2_int min2_int max_two min_two max_three min_three max_four min_four
theorem get1_at {s : ByteArray} {a n : Int} (h : getF s a 1 = some n) : (bytesOf s)[a.toNat]? = some n := by
  have g := get1 h
  have hl : a.toNat < (bytesOf s).length := by rw [bytesOf_length]; omega
  have hx := get_byte (s := s) (a := a.toNat) (List.getElem?_eq_getElem hl)
  rw [show ((a.toNat : Nat) : Int) = a by omega, h] at hx
  rw [List.getElem?_eq_getElem hl, Option.some.inj hx]
theorem lab_split {s l : ByteArray} {a n : Int} (h : getF s a 1 = some n) (h3 : partF s (a + 1) n = some l) : ∃ t, partF s a (n + 1) = some t ∧ bytesOf t = n :: bytesOf l := by
  have g := get1 h
  have hb := get1_at h
  obtain ⟨lz, -, -, l3, rfl⟩ := part_size h3
  refine ⟨s.extract a.toNat (a + (n + 1)).toNat, ?_, ?_⟩
  · unfold partF
    rw [if_neg (by omega)]
  · obtain ⟨hl, he⟩ := List.getElem?_eq_some_iff.1 hb
    rw [bmid', bmid', List.drop_eq_getElem_cons hl, he, show (a + (n + 1)).toNat - a.toNat = n.toNat + 1 by omega, List.take_succ_cons, show (a + 1 + n).toNat - (a + 1).toNat = n.toNat by omega, show (a + 1).toNat = a.toNat + 1 by omega]
theorem lab_none {s : ByteArray} {a n : Int} (h : getF s a 1 = some n) (h3 : partF s (a + 1) n = none) : partF s a (n + 1) = none := by
  have g := get1 h
  unfold partF at h3 ⊢
  by_cases c : a + 1 < 0 ∨ n < 0 ∨ (s.size : Int) < a + 1 ∨ (s.size : Int) - (a + 1) < n
  · rw [if_pos (by omega)]
  · rw [if_neg c] at h3
    exact absurd h3 (by simp)
theorem two_none {s : ByteArray} {a n : Int} (h : getF s a 1 = some n) (h2 : getF s (a + 1) 1 = none) : getF s a 2 = none := by
  have g := get1 h
  unfold getF at h2 ⊢
  rw [if_neg (by omega)] at h2 ⊢
  have h2 : partF s (a + 1) 1 = none := by simpa using h2
  have h3 : partF s a 2 = none := by
    unfold partF at h2 ⊢
    by_cases c : a + 1 < 0 ∨ (1 : Int) < 0 ∨ (s.size : Int) < a + 1 ∨ (s.size : Int) - (a + 1) < 1
    · rw [if_pos (by omega)]
    · rw [if_neg c] at h2
      exact absurd h2 (by simp)
  rw [h3]
  rfl
theorem two_some {s : ByteArray} {a n m : Int} (h : getF s a 1 = some n) (h2 : getF s (a + 1) 1 = some m) : getF s a 2 = some (n * 256 + m) := by
  have g := get1 h
  have g2 := get1 h2
  have b1 := get1_at h
  have b2 := get1_at h2
  obtain ⟨hl, he⟩ := List.getElem?_eq_some_iff.1 b1
  unfold getF partF
  rw [if_neg (by omega), if_neg (by omega), Option.map_some, bmid', List.drop_eq_getElem_cons hl, he, show (a + 2).toNat - a.toNat = 1 + 1 by omega, List.take_succ_cons]
  have : List.drop (a.toNat + 1) (bytesOf s) = m :: List.drop (a.toNat + 1 + 1) (bytesOf s) := by
    have hj : (a + 1).toNat = a.toNat + 1 := by omega
    rw [hj] at b2
    obtain ⟨hl3, he3⟩ := List.getElem?_eq_some_iff.1 b2
    rw [List.drop_eq_getElem_cons hl3, he3]
  rw [this]
  simp [valF]
set_option maxHeartbeats 4000000 in
set_option maxRecDepth 100000 in
theorem refName_calls (s : ByteArray) (a : Int) (w : World) (hs : s.size ≤ 1000000) (wf : -9223372036854775808 ≤ a) (wf1 : a ≤ 9223372036854775807) :
    Calls Try.prog 23 #[.string s, .int .i64 a] w fun e w' => e = nameT (nameAt s a) ∧ Below w.heap.size w w' := by
  obtain ⟨R, hR⟩ : ∃ R, nameAt s a = R := ⟨_, rfl⟩
  rw [hR]
  have HE := Aside0.mk hR
  have HS := Lib.hid hs
  have HB := Aside0.mk (Below.refl w.heap.size w)
  clear hR
  go_enter Try.func23, Try.ntmps23
  go_wp2_with fail
  go_loopg [1, 7, 8, 9] (a.toNat * 256 + 257) (fun kq v1 v7 v8 v9 w' => ∃ (b : List Int) (part nx at' : Int) (o : ByteArray), v1 = .int .i64 at' ∧ v7 = .int .i64 part ∧ v8 = .int .i64 nx ∧ v9 = .string o ∧ Aside0 (strOfNums b = o) ∧ Aside0 (nameR kq s b part nx at' = R) ∧ Aside0 (part.toNat * 256 + 256 < kq + b.length) ∧ Aside0 (b.length ≤ 254) ∧ Aside0 (-1 ≤ nx ∧ nx ≤ 1000000) ∧ Aside0 (Below w.heap.size w w'))
  case atStart => exact ⟨[], a, -1, a, _, rfl, rfl, rfl, rfl, ⟨rfl⟩, HE, ⟨by simp⟩, ⟨by simp⟩, ⟨by omega⟩, HB⟩
  case round =>
    clear HE HB
    obtain ⟨b, part, nx, at', o, rfl, rfl, rfl, rfl, HO, HE, HK, HL, HX, HB⟩ := hrel
    obtain ⟨k, rfl⟩ : ∃ k, gk = k + 1 := ⟨gk - 1, by have := HK.out; have := HL.out; omega⟩
    have he := HE.out
    unfold nameR at he
    clear HE
    cases h1 : getF s at' 1 with
    | none =>
      rw [h1] at he
      have H1 := Lib.hid h1
      have HE := Lib.hid he
      clear he h1
      go_wp2_with fail
      refine (get01_calls s at' 1 _ (by have := HS.out; omega)).mono ?_
      rw [H1.out]
      rintro e w2 ⟨rfl, hb⟩
      have HB2 := Aside0.mk (below_step HB.out hb)
      clear hb
      simp only [getE]
      go_wp2_with fail
      go_ret3
      exact ⟨by rw [← HE.out]; rfl, HB2.out⟩
    | some n =>
      rw [h1] at he
      simp only [] at he
      have H1 := Lib.hid h1
      obtain ⟨n0, n1, a0, a1⟩ := get1 h1
      have hosz : o.size = b.length := by rw [← HO.out, strOfNums_size]
      have q9 : (o.size : Int) ≤ 254 := by have := HL.out; omega
      have q0 : at' + 1 ≤ 1000000 := by have := HS.out; omega
      have hw1 : IntKind.i64.wrap n = n := by rw [IntKind.wrap_i64]; omega
      by_cases c1 : n = 0
      · rw [if_pos c1] at he
        subst c1
        have e1 : ((0 : Int) == 0) = true := rfl
        have hadd := fun W => run_string_add_sum (P := Try.prog) W o ⟨#[0]⟩ (by have : (⟨#[0]⟩ : ByteArray).size = 1 := rfl; omega)
        have HOt := Lib.hid (show strOfNums (b ++ [0]) = o ++ ⟨#[0]⟩ by rw [← HO.out, ← str_app]; rfl)
        by_cases c2 : 0 ≤ nx
        · rw [if_pos c2] at he
          have HE := Lib.hid he
          have d2 : decide (nx < 0) = false := decide_eq_false (by omega)
          clear he h1 hosz c2
          go_wp2_with fail
          refine (get01_calls s at' 1 _ (by have := HS.out; omega)).mono ?_
          rw [H1.out]
          rintro e w2 ⟨rfl, hb⟩
          have HB2 := Aside0.mk (below_step HB.out hb)
          clear hb
          simp only [getE]
          go_wp2_with fail
          go_ret3
          exact ⟨by rw [← HE.out, nameT, HOt.out]; rfl, HB2.out⟩
        · rw [if_neg c2] at he
          have HE := Lib.hid he
          have d2 : decide (nx < 0) = true := decide_eq_true (by omega)
          clear he h1 hosz c2
          go_wp2_with fail
          refine (get01_calls s at' 1 _ (by have := HS.out; omega)).mono ?_
          rw [H1.out]
          rintro e w2 ⟨rfl, hb⟩
          have HB2 := Aside0.mk (below_step HB.out hb)
          clear hb
          simp only [getE]
          go_wp2_with fail
          go_ret3
          exact ⟨by rw [← HE.out, nameT, HOt.out]; rfl, HB2.out⟩
      rw [if_neg c1] at he
      have e1 : (n == 0) = false := beq_eq_false_iff_ne.mpr c1
      by_cases c3 : 191 < n
      · rw [if_pos c3] at he
        have d3 : decide (192 ≤ n) = true := decide_eq_true (by omega)
        clear c1
        cases h2 : getF s (at' + 1) 1 with
        | none =>
          rw [h2] at he
          have H2 := Lib.hid (two_none h1 h2)
          have HE := Lib.hid he
          clear he h2 h1 hosz
          go_wp2_with fail
          refine (get01_calls s at' 1 _ (by have := HS.out; omega)).mono ?_
          rw [H1.out]
          rintro e w2 ⟨rfl, hb⟩
          have HB2 := Aside0.mk (below_step HB.out hb)
          clear hb
          simp only [getE]
          go_wp2_with fail
          refine (get01_calls s at' 2 _ (by have := HS.out; omega)).mono ?_
          rw [H2.out]
          rintro e w3 ⟨rfl, hb⟩
          have HB3 := Aside0.mk (below_step HB2.out hb)
          clear hb
          simp only [getE]
          go_wp2_with fail
          go_ret3
          exact ⟨by rw [← HE.out]; rfl, HB3.out⟩
        | some m =>
          rw [h2] at he
          simp only [] at he
          obtain ⟨m0, m1, _, a2⟩ := get1 h2
          obtain ⟨p, hp⟩ : ∃ p, n * 256 + m = p := ⟨_, rfl⟩
          have hgp := two_some h1 h2
          rw [hp] at hgp
          have H2 := Lib.hid hgp
          rw [show n % 64 * 256 + m = p - 49152 by omega] at he
          have hw2 : IntKind.i64.wrap p = p := by rw [IntKind.wrap_i64]; omega
          have q1 : at' + 1 + 1 ≤ 1000000 := by have := HS.out; omega
          have q2 : 49152 ≤ p := by omega
          have q3 : p ≤ 65535 := by omega
          clear h2 hp hgp h1 hosz
          by_cases c4 : part ≤ p - 49152
          · rw [if_pos c4] at he
            have HE := Lib.hid he
            have d4 : decide (part ≤ p - 49152) = true := decide_eq_true c4
            clear he c4
            go_wp2_with fail
            refine (get01_calls s at' 1 _ (by have := HS.out; omega)).mono ?_
            rw [H1.out]
            rintro e w2 ⟨rfl, hb⟩
            have HB2 := Aside0.mk (below_step HB.out hb)
            clear hb
            simp only [getE]
            go_wp2_with fail
            refine (get01_calls s at' 2 _ (by have := HS.out; omega)).mono ?_
            rw [H2.out]
            rintro e w3 ⟨rfl, hb⟩
            have HB3 := Aside0.mk (below_step HB2.out hb)
            clear hb
            simp only [getE]
            go_wp2_with fail
            go_ret3
            exact ⟨by rw [← HE.out]; rfl, HB3.out⟩
          · rw [if_neg c4] at he
            have d4 : decide (part ≤ p - 49152) = false := decide_eq_false c4
            have HMs := Aside0.mk (show (p - 49152).toNat * 256 + 256 < k + b.length by have := HK.out; have := HL.out; omega)
            by_cases c5 : nx < 0
            · rw [if_pos c5] at he
              have HE := Aside0.mk he
              have d5 : decide (nx < 0) = true := decide_eq_true c5
              clear he c4 c5
              go_wp2_with fail
              refine (get01_calls s at' 1 _ (by have := HS.out; omega)).mono ?_
              rw [H1.out]
              rintro e w2 ⟨rfl, hb⟩
              have HB2 := Aside0.mk (below_step HB.out hb)
              clear hb
              simp only [getE]
              go_wp2_with fail
              refine (get01_calls s at' 2 _ (by have := HS.out; omega)).mono ?_
              rw [H2.out]
              rintro e w3 ⟨rfl, hb⟩
              have HB3 := Aside0.mk (below_step HB2.out hb)
              clear hb
              simp only [getE]
              go_wp2_with fail
              go_roundg k
              case measure => omega
              case rel => exact ⟨b, p - 49152, at' + 2, p - 49152, o, rfl, rfl, rfl, rfl, HO, HE, HMs, HL, ⟨by omega⟩, HB3⟩
            · rw [if_neg c5] at he
              have HE := Aside0.mk he
              have d5 : decide (nx < 0) = false := decide_eq_false c5
              clear he c4 c5
              go_wp2_with fail
              refine (get01_calls s at' 1 _ (by have := HS.out; omega)).mono ?_
              rw [H1.out]
              rintro e w2 ⟨rfl, hb⟩
              have HB2 := Aside0.mk (below_step HB.out hb)
              clear hb
              simp only [getE]
              go_wp2_with fail
              refine (get01_calls s at' 2 _ (by have := HS.out; omega)).mono ?_
              rw [H2.out]
              rintro e w3 ⟨rfl, hb⟩
              have HB3 := Aside0.mk (below_step HB2.out hb)
              clear hb
              simp only [getE]
              go_wp2_with fail
              go_roundg k
              case measure => omega
              case rel => exact ⟨b, p - 49152, nx, p - 49152, o, rfl, rfl, rfl, rfl, HO, HE, HMs, HL, HX, HB3⟩
      rw [if_neg c3] at he
      have d3 : decide (192 ≤ n) = false := decide_eq_false (by omega)
      by_cases c6 : 63 < n
      · rw [if_pos c6] at he
        have HE := Lib.hid he
        have d6 : decide (64 ≤ n) = true := decide_eq_true (by omega)
        clear he c1 c3 c6 h1 hosz
        go_wp2_with fail
        refine (get01_calls s at' 1 _ (by have := HS.out; omega)).mono ?_
        rw [H1.out]
        rintro e w2 ⟨rfl, hb⟩
        have HB2 := Aside0.mk (below_step HB.out hb)
        clear hb
        simp only [getE]
        go_wp2_with fail
        go_ret3
        exact ⟨by rw [← HE.out]; rfl, HB2.out⟩
      rw [if_neg c6] at he
      have d6 : decide (64 ≤ n) = false := decide_eq_false (by omega)
      have q6 : n ≤ 63 := by omega
      cases h3 : partF s (at' + 1) n with
      | none =>
        rw [h3] at he
        have H3 := Lib.hid (lab_none h1 h3)
        have HE := Lib.hid he
        clear he h3 c1 c3 c6 h1 hosz
        go_wp2_with fail
        refine (get01_calls s at' 1 _ (by have := HS.out; omega)).mono ?_
        rw [H1.out]
        rintro e w2 ⟨rfl, hb⟩
        have HB2 := Aside0.mk (below_step HB.out hb)
        clear hb
        simp only [getE]
        go_wp2_with fail
        refine (part01_calls s at' (n + 1) _ (by have := HS.out; omega)).mono ?_
        rw [H3.out]
        rintro e w3 ⟨rfl, hb⟩
        have HB3 := Aside0.mk (below_step HB2.out hb)
        clear hb
        simp only [partE]
        go_wp2_with fail
        go_ret3
        exact ⟨by rw [← HE.out]; rfl, HB3.out⟩
      | some l =>
        rw [h3] at he
        simp only [] at he
        obtain ⟨t, ht, hbt⟩ := lab_split h1 h3
        have H3 := Lib.hid ht
        obtain ⟨lz, -, -, l3, -⟩ := part_size h3
        have htz : (t.size : Int) = n + 1 := by rw [← bytesOf_length t, hbt, List.length_cons, bytesOf_length]; omega
        have q5 : (t.size : Int) ≤ 64 := by omega
        have q7 : at' + (t.size : Int) ≤ 1000000 := by have := HS.out; omega
        have q8 : (0 : Int) ≤ at' + (t.size : Int) := by omega
        have hadd := fun W => run_string_add_sum (P := Try.prog) W o t (by omega)
        have HOt := Aside0.mk (show strOfNums (b ++ [n] ++ bytesOf l) = o ++ t by rw [← HO.out, str_app_s, hbt]; simp)
        by_cases c7 : 255 < (b.length : Int) + n + 2
        · rw [if_pos c7] at he
          have HE := Lib.hid he
          have d7 : decide ((255 : Int) < (o.size : Int) + (t.size : Int) + 1) = true := decide_eq_true (by omega)
          have d8 : decide (255 < o.size + t.size + 1) = true := decide_eq_true (by omega)
          clear he h3 c1 c3 c6 h1 hosz c7 lz l3 ht hbt htz
          go_wp2_with fail
          refine (get01_calls s at' 1 _ (by have := HS.out; omega)).mono ?_
          rw [H1.out]
          rintro e w2 ⟨rfl, hb⟩
          have HB2 := Aside0.mk (below_step HB.out hb)
          clear hb
          simp only [getE]
          go_wp2_with fail
          refine (part01_calls s at' (n + 1) _ (by have := HS.out; omega)).mono ?_
          rw [H3.out]
          rintro e w3 ⟨rfl, hb⟩
          have HB3 := Aside0.mk (below_step HB2.out hb)
          clear hb
          simp only [partE]
          go_wp2_with fail
          go_ret3
          exact ⟨by rw [← HE.out]; rfl, HB3.out⟩
        · rw [if_neg c7] at he
          have HE := Aside0.mk (show nameR k s (b ++ [n] ++ bytesOf l) part nx (at' + (t.size : Int)) = R by rw [htz, ← he]; congr 1; omega)
          have d7 : decide ((255 : Int) < (o.size : Int) + (t.size : Int) + 1) = false := decide_eq_false (by omega)
          have d8 : decide (255 < o.size + t.size + 1) = false := decide_eq_false (by omega)
          have HLn := Lib.hid (show (b ++ [n] ++ bytesOf l).length = b.length + t.size ∧ b.length + t.size ≤ 254 ∧ 1 ≤ t.size by
            simp only [List.length_append, List.length_singleton, bytesOf_length]
            omega)
          clear he h3 c1 c3 c6 h1 hosz c7 lz l3 ht hbt htz
          go_wp2_with fail
          refine (get01_calls s at' 1 _ (by have := HS.out; omega)).mono ?_
          rw [H1.out]
          rintro e w2 ⟨rfl, hb⟩
          have HB2 := Aside0.mk (below_step HB.out hb)
          clear hb
          simp only [getE]
          go_wp2_with fail
          refine (part01_calls s at' (n + 1) _ (by have := HS.out; omega)).mono ?_
          rw [H3.out]
          rintro e w3 ⟨rfl, hb⟩
          have HB3 := Aside0.mk (below_step HB2.out hb)
          clear hb
          simp only [partE]
          go_wp2_with fail
          go_roundg k
          case measure => omega
          case rel => exact ⟨b ++ [n] ++ bytesOf l, part, nx, at' + (t.size : Int), o ++ t, rfl, rfl, rfl, rfl, HOt, HE, ⟨by have := HK.out; have := HLn.out; omega⟩, ⟨by have := HLn.out; omega⟩, HX, HB3⟩
end Go.Proofs.Ytbbeikdbioelgaa.M
