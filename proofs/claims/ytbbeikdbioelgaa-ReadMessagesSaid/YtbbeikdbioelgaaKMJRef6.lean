/- Joined texts: RefBare, RefSt, RefNums, RefNames, RefOff, RefAny. -/
import Derived.Test.YtbbeikdbioelgaaKMRefName
import Derived.Test.YtbbeikdbioelgaaKMRData
import Derived.Test.YtbbeikdbioelgaaKMCutsPure
set_option linter.unusedVariables false
set_option linter.unusedSimpArgs false
namespace Go.Proofs.Ytbbeikdbioelgaa.M
open Go.RowKit Go.Maps Go.Proofs.YtbbeikdbioelgaaW.PrintWords Go.Proofs.YtbbeikdbioelgaaW.PrintLast Go.Proofs.YtbbeikdbioelgaaW.PrintMore
attribute [local go_sem] max2_int min2_int max_two min_two max_three min_three max_four min_four
set_option maxHeartbeats 4000000 in
set_option maxRecDepth 100000 in
theorem refEnds_calls {w : World} {s : ByteArray} {a en : Int} (hs : s.size ≤ 1000000) (h0 : 0 ≤ a) (ha : a ≤ s.size) (he : en ≤ s.size) (he0 : 0 ≤ en) :
    Calls Try.prog 84 #[.string s, .int .i64 a, .int .i64 en] w fun e w' => e = .returned (.bool (endsF s a en)) ∧ Below w.heap.size w w' := by
  obtain ⟨R, hR⟩ : ∃ R, endsF s a en = R := ⟨_, rfl⟩
  rw [hR]
  have HE := Aside0.mk hR
  have HB := Aside0.mk (Below.refl w.heap.size w)
  have p1 : (s.size : Int) ≤ 1000000 := by omega
  have HI := Lib.hid (show 0 ≤ en ∧ en ≤ s.size from ⟨he0, he⟩)
  have HA := Lib.hid (show 0 ≤ a ∧ a ≤ s.size + 256 by omega)
  clear hR hs h0 ha
  go_enter Try.func84, Try.ntmps84
  go_wp2_with fail
  go_loopg [1] ((en - a).toNat + 1) (fun kq v5 w' => ∃ at' : Int, v5 = .int .i64 at' ∧ Aside0 (endsR kq s at' en = R) ∧ Aside0 ((en - at').toNat < kq) ∧ Aside0 (0 ≤ at' ∧ at' ≤ s.size + 256) ∧ Aside0 (Below w.heap.size w w'))
  case atStart => exact ⟨a, rfl, HE, ⟨Nat.lt_succ_self _⟩, ⟨HA.out⟩, HB⟩
  case round =>
    clear HE HB HA
    obtain ⟨at', rfl, HE, HK, HA, HB⟩ := hrel
    obtain ⟨k, rfl⟩ : ∃ k, gk = k + 1 := ⟨gk - 1, by have := HK.out; omega⟩
    have he := HE.out
    unfold endsR at he
    clear HE
    obtain ⟨a0, a1⟩ := HA.out
    by_cases c1 : at' < en
    · rw [if_pos c1] at he
      have d1 : decide (at' < en) = true := decide_eq_true c1
      have hlt : at'.toNat < s.size := by have := HI.out; omega
      have q1 : at' < (s.size : Int) := by have := HI.out; omega
      have q8 : en ≤ 1000000 := by have := HI.out; omega
      have hx := nb_at s at'.toNat
      have hn := nb_lt s at'.toNat
      obtain ⟨n, hnb⟩ : ∃ n, nb s at'.toNat = n := ⟨_, rfl⟩
      rw [hnb] at hx hn he
      have hN := Lib.hid hn
      have hC := Lib.hid c1
      clear hnb c1
      by_cases c2 : n = 0
      · subst c2
        rw [if_pos rfl] at he
        subst he
        go_wp2_with fail
        go_ret
        exact ⟨rfl, HB.out⟩
      rw [if_neg c2] at he
      have e2 : ((n : Int) == 0) = false := beq_eq_false_iff_ne.mpr (by omega)
      have q3 : (n : Int) ≤ 255 := by omega
      clear c2
      by_cases c3 : 191 < n
      · rw [if_pos c3] at he
        have d3 : decide ((192 : Int) ≤ (n : Int)) = true := decide_eq_true (by omega)
        have d9 : decide (192 ≤ n) = true := decide_eq_true (by omega)
        have HE := Lib.hid (show decide (2 ≤ en - at') = R by rw [← he]; exact decide_eq_decide.mpr (by omega))
        clear he c3
        go_wp2_with fail
        go_ret
        exact ⟨by rw [← HE.out]; rfl, HB.out⟩
      rw [if_neg c3] at he
      have d3 : decide ((192 : Int) ≤ (n : Int)) = false := decide_eq_false (by omega)
      have d9 : decide (192 ≤ n) = false := decide_eq_false (by omega)
      clear c3
      by_cases c4 : 63 < n
      · rw [if_pos c4] at he
        subst he
        have d4 : decide ((64 : Int) ≤ (n : Int)) = true := decide_eq_true (by omega)
        have d10 : decide (64 ≤ n) = true := decide_eq_true (by omega)
        clear c4
        go_wp2_with fail
        go_ret
        exact ⟨rfl, HB.out⟩
      rw [if_neg c4] at he
      have HE := Aside0.mk (show endsR k s (at' + (n : Int) + 1) en = R by rw [← he]; congr 1; omega)
      have d4 : decide ((64 : Int) ≤ (n : Int)) = false := decide_eq_false (by omega)
      have d10 : decide (64 ≤ n) = false := decide_eq_false (by omega)
      clear c4 he
      go_wp2_with fail
      go_roundg k
      case measure => omega
      case rel => exact ⟨at' + (n : Int) + 1, rfl, HE, ⟨by have := HK.out; have := hC.out; omega⟩, ⟨by have := hN.out; omega⟩, HB⟩
    · rw [if_neg c1] at he
      subst he
      have d1 : decide (at' < en) = false := decide_eq_false c1
      clear c1
      go_wp2_with fail
      go_ret
      exact ⟨rfl, HB.out⟩
theorem getF_nb {s : ByteArray} {a n : Int} (h : getF s a 1 = some n) : n = (nb s a.toNat : Int) := by
  have h1 := get1_at h
  have g := get1 h
  have hl' : a.toNat < s.size := by omega
  have hb : (bytesOf s)[a.toNat]? = some (nb s a.toNat : Int) := by
    unfold nb
    rw [dif_pos hl']
    simp [bytesOf]
    exact ⟨_, Array.getElem?_eq_getElem (show a.toNat < s.data.size from hl'), rfl⟩
  rw [h1] at hb
  exact Option.some.inj hb
set_option maxHeartbeats 4000000 in
set_option maxRecDepth 100000 in
theorem refBare_calls (s : ByteArray) (a en : Int) (w : World) (hs : s.size ≤ 1000000) (h0 : 0 ≤ a) (ha : a ≤ s.size) (he : en ≤ s.size) (hen : endsF s a en = true) :
    Calls Try.prog 85 #[.string s, .int .i64 a] w fun e w' => e = nameT (bareAt s a) ∧ Below w.heap.size w w' := by
  obtain ⟨R, hR⟩ : ∃ R, bareAt s a = R := ⟨_, rfl⟩
  rw [hR]
  have HE := Aside0.mk hR
  have HN := Aside0.mk (show ∃ K, endsR K s a en = true from ⟨_, hen⟩)
  have HEn := Lib.hid he
  have HS := Lib.hid hs
  have HB := Aside0.mk (Below.refl w.heap.size w)
  clear hR hen he
  go_enter Try.func85, Try.ntmps85
  go_wp2_with fail
  go_loopg [1, 7] 257 (fun kq v1 v7 w' => ∃ (b : List Int) (at' : Int) (o : ByteArray), v1 = .int .i64 at' ∧ v7 = .string o ∧ Aside0 (strOfNums b = o) ∧ Aside0 (bareR kq s b at' = R) ∧ Aside0 (256 < kq + b.length) ∧ Aside0 (b.length ≤ 254) ∧ Aside0 (∃ K, endsR K s at' en = true) ∧ Aside0 (0 ≤ at' ∧ at' ≤ 1000000) ∧ Aside0 (Below w.heap.size w w'))
  case atStart => exact ⟨[], a, _, rfl, rfl, ⟨rfl⟩, HE, ⟨by decide⟩, ⟨by simp⟩, HN, ⟨by omega⟩, HB⟩
  case round =>
    clear HE HB HN
    obtain ⟨b, at', o, rfl, rfl, HO, HE, HK, HL, HN, HA, HB⟩ := hrel
    obtain ⟨k, rfl⟩ : ∃ k, gk = k + 1 := ⟨gk - 1, by have := HK.out; have := HL.out; omega⟩
    have he := HE.out
    unfold bareR at he
    have a00 := HA.out.1
    have a01 := HA.out.2
    clear HE
    cases h1 : getF s at' 1 with
    | none =>
      rw [h1] at he
      have H1 := Lib.hid h1
      have HE := Lib.hid he
      clear he h1
      go_wp2_with fail
      refine (get01_calls s at' 1 _ (by have := HS.out; omega)).mono ?_
      rw [H1.out]
      rintro e w2 ⟨rfl, hb⟩
      have HB2 := Aside0.mk (below_step HB.out hb)
      clear hb
      simp only [getE]
      go_wp2_with fail
      go_ret3
      exact ⟨by rw [← HE.out]; rfl, HB2.out⟩
    | some n =>
      rw [h1] at he
      simp only [] at he
      have H1 := Lib.hid h1
      obtain ⟨n0, n1, a0, a1⟩ := get1 h1
      have hosz : o.size = b.length := by rw [← HO.out, strOfNums_size]
      have q9 : (o.size : Int) ≤ 254 := by have := HL.out; omega
      have q0 : at' + 1 ≤ 1000000 := by have := HS.out; omega
      have hw1 : IntKind.i64.wrap n = n := by rw [IntKind.wrap_i64]; omega
      by_cases c1 : n = 0
      · rw [if_pos c1] at he
        subst c1
        have e1 : ((0 : Int) == 0) = true := rfl
        have hadd := fun W => run_string_add_sum (P := Try.prog) W o ⟨#[0]⟩ (by have : (⟨#[0]⟩ : ByteArray).size = 1 := rfl; omega)
        have HOt := Lib.hid (show strOfNums (b ++ [0]) = o ++ ⟨#[0]⟩ by rw [← HO.out, ← str_app]; rfl)
        have HE := Lib.hid he
        clear he h1 hosz
        go_wp2_with fail
        refine (get01_calls s at' 1 _ (by have := HS.out; omega)).mono ?_
        rw [H1.out]
        rintro e w2 ⟨rfl, hb⟩
        have HB2 := Aside0.mk (below_step HB.out hb)
        clear hb
        simp only [getE]
        go_wp2_with fail
        go_ret3
        exact ⟨by rw [← HE.out, nameT, HOt.out]; rfl, HB2.out⟩
      rw [if_neg c1] at he
      have e1 : (n == 0) = false := beq_eq_false_iff_ne.mpr c1
      by_cases c3 : 191 < n
      · rw [if_pos c3] at he
        have d3 : decide (192 ≤ n) = true := decide_eq_true (by omega)
        have HE := Lib.hid he
        clear he c1 c3 h1 hosz
        go_wp2_with fail
        refine (get01_calls s at' 1 _ (by have := HS.out; omega)).mono ?_
        rw [H1.out]
        rintro e w2 ⟨rfl, hb⟩
        have HB2 := Aside0.mk (below_step HB.out hb)
        clear hb
        simp only [getE]
        go_wp2_with fail
        go_ret3
        exact ⟨by rw [← HE.out]; rfl, HB2.out⟩
      rw [if_neg c3] at he
      have d3 : decide (192 ≤ n) = false := decide_eq_false (by omega)
      by_cases c6 : 63 < n
      · rw [if_pos c6] at he
        have HE := Lib.hid he
        have d6 : decide (64 ≤ n) = true := decide_eq_true (by omega)
        clear he c1 c3 c6 h1 hosz
        go_wp2_with fail
        refine (get01_calls s at' 1 _ (by have := HS.out; omega)).mono ?_
        rw [H1.out]
        rintro e w2 ⟨rfl, hb⟩
        have HB2 := Aside0.mk (below_step HB.out hb)
        clear hb
        simp only [getE]
        go_wp2_with fail
        go_ret3
        exact ⟨by rw [← HE.out]; rfl, HB2.out⟩
      rw [if_neg c6] at he
      have d6 : decide (64 ≤ n) = false := decide_eq_false (by omega)
      have q6 : n ≤ 63 := by omega
      have hnx : at' + 1 + n < en ∧ ∃ K, endsR K s (at' + 1 + n) en = true := by
        obtain ⟨K, hK⟩ := HN.out
        cases K with
        | zero => exact absurd hK (by simp [endsR])
        | succ K =>
          have hnb := getF_nb h1
          unfold endsR at hK
          by_cases cc : at' < en
          · rw [if_pos cc, if_neg (by omega), if_neg (by omega), if_neg (by omega), ← hnb, show at' + (n + 1) = at' + 1 + n by omega] at hK
            refine ⟨?_, K, hK⟩
            cases K with
            | zero => exact absurd hK (by simp [endsR])
            | succ K =>
              unfold endsR at hK
              by_cases cd : at' + 1 + n < en
              · exact cd
              · rw [if_neg cd] at hK
                exact absurd hK (by simp)
          · rw [if_neg cc] at hK
            exact absurd hK (by simp)
      cases h3 : partF s (at' + 1) n with
      | none =>
        exfalso
        unfold partF at h3
        rw [if_neg (by have := HEn.out; omega)] at h3
        exact absurd h3 (by simp)
      | some l =>
        rw [h3] at he
        simp only [] at he
        obtain ⟨t, ht, hbt⟩ := lab_split h1 h3
        have H3 := Lib.hid ht
        obtain ⟨lz, -, -, l3, -⟩ := part_size h3
        have htz : (t.size : Int) = n + 1 := by rw [← bytesOf_length t, hbt, List.length_cons, bytesOf_length]; omega
        have q5 : (t.size : Int) ≤ 64 := by omega
        have q7 : at' + (t.size : Int) ≤ 1000000 := by have := HS.out; omega
        have q8 : (0 : Int) ≤ at' + (t.size : Int) := by omega
        have hadd := fun W => run_string_add_sum (P := Try.prog) W o t (by omega)
        have HOt := Aside0.mk (show strOfNums (b ++ [n] ++ bytesOf l) = o ++ t by rw [← HO.out, str_app_s, hbt]; simp)
        by_cases c7 : 255 < (b.length : Int) + n + 2
        · rw [if_pos c7] at he
          have HE := Lib.hid he
          have d7 : decide ((255 : Int) < (o.size : Int) + (t.size : Int) + 1) = true := decide_eq_true (by omega)
          have d8 : decide (255 < o.size + t.size + 1) = true := decide_eq_true (by omega)
          clear he h3 c1 c3 c6 h1 hosz c7 lz l3 ht hbt htz hnx
          go_wp2_with fail
          refine (get01_calls s at' 1 _ (by have := HS.out; omega)).mono ?_
          rw [H1.out]
          rintro e w2 ⟨rfl, hb⟩
          have HB2 := Aside0.mk (below_step HB.out hb)
          clear hb
          simp only [getE]
          go_wp2_with fail
          refine (part01_calls s at' (n + 1) _ (by have := HS.out; omega)).mono ?_
          rw [H3.out]
          rintro e w3 ⟨rfl, hb⟩
          have HB3 := Aside0.mk (below_step HB2.out hb)
          clear hb
          simp only [partE]
          go_wp2_with fail
          go_ret3
          exact ⟨by rw [← HE.out]; rfl, HB3.out⟩
        · rw [if_neg c7] at he
          have HE := Aside0.mk (show bareR k s (b ++ [n] ++ bytesOf l) (at' + (t.size : Int)) = R by rw [htz, ← he]; congr 1; omega)
          have HN2 := Aside0.mk (show ∃ K, endsR K s (at' + (t.size : Int)) en = true by rw [htz, show at' + (n + 1) = at' + 1 + n by omega]; exact hnx.2)
          have d7 : decide ((255 : Int) < (o.size : Int) + (t.size : Int) + 1) = false := decide_eq_false (by omega)
          have d8 : decide (255 < o.size + t.size + 1) = false := decide_eq_false (by omega)
          have HLn := Lib.hid (show (b ++ [n] ++ bytesOf l).length = b.length + t.size ∧ b.length + t.size ≤ 254 ∧ 1 ≤ t.size by
            simp only [List.length_append, List.length_singleton, bytesOf_length]
            omega)
          clear he h3 c1 c3 c6 h1 hosz c7 lz l3 ht hbt htz hnx
          go_wp2_with fail
          refine (get01_calls s at' 1 _ (by have := HS.out; omega)).mono ?_
          rw [H1.out]
          rintro e w2 ⟨rfl, hb⟩
          have HB2 := Aside0.mk (below_step HB.out hb)
          clear hb
          simp only [getE]
          go_wp2_with fail
          refine (part01_calls s at' (n + 1) _ (by have := HS.out; omega)).mono ?_
          rw [H3.out]
          rintro e w3 ⟨rfl, hb⟩
          have HB3 := Aside0.mk (below_step HB2.out hb)
          clear hb
          simp only [partE]
          go_wp2_with fail
          go_roundg k
          case measure => omega
          case rel => exact ⟨b ++ [n] ++ bytesOf l, at' + (t.size : Int), o ++ t, rfl, rfl, HOt, HE, ⟨by have := HK.out; have := HLn.out; omega⟩, ⟨by have := HLn.out; omega⟩, HN2, ⟨by omega⟩, HB3⟩
end Go.Proofs.Ytbbeikdbioelgaa.M
set_option linter.unusedVariables false
set_option linter.unusedSimpArgs false
namespace Go.Proofs.Ytbbeikdbioelgaa.M
open Go.RowKit Go.Maps Go.Proofs.YtbbeikdbioelgaaW.PrintWords Go.Proofs.YtbbeikdbioelgaaW.PrintLast Go.Proofs.YtbbeikdbioelgaaW.PrintMore
attribute [local go_sem] max2_int min2_int max_two min_two max_three min_three max_four min_four
attribute [local go_sem ↓] Go.wp_at_zero Go.wp_at_succ
/-- How far the reference has read: a text, a place, an error. -/
def St (w : World) (g : Nat) (s : ByteArray) (a e : Int) : Prop := w.heap[g]? = some (.cells #[.string s, .int .i64 a, .int .i64 e] 96 (0, 0))
section
variable {w w1 : World} {g : Nat} {s : ByteArray} {a e : Int}
theorem St.c0 (h : St w g s a e) : w.cell? ⟨g, 0, none⟩ = some (.string s) := (blk_cell h 0).trans rfl
theorem St.c1 (h : St w g s a e) : w.cell? ⟨g, 1, none⟩ = some (.int .i64 a) := (blk_cell h 1).trans rfl
theorem St.c2 (h : St w g s a e) : w.cell? ⟨g, 2, none⟩ = some (.int .i64 e) := (blk_cell h 2).trans rfl
theorem St.below (h : St w g s a e) (hb : Below w.heap.size w w1) : St w1 g s a e := blk_below h hb
theorem St.set1 (h : St w g s a e) (b : Int) : St (w.setCell ⟨g, 1, none⟩ (.int .i64 b)) g s b e := by
  unfold St
  rw [blk_set h 1 _]
  rfl
theorem St.set2 (h : St w g s a e) (b : Int) : St (w.setCell ⟨g, 2, none⟩ (.int .i64 b)) g s a b := by
  unfold St
  rw [blk_set h 2 _]
  rfl
end
theorem get01_no {s : ByteArray} {a n : Int} (h : getF s a n = none) (w : World) (hs : s.size ≤ 1000000000000) :
    Calls Try.prog 45 #[.string s, .int .i64 a, .int .i64 n] w fun e w' => e = .returned (.tuple #[.int .u64 0, .bool false]) ∧ Below w.heap.size w w' :=
  (get01_calls s a n w hs).mono fun e w' ⟨h1, h2⟩ => ⟨by rw [h1, h]; rfl, h2⟩
theorem get01_yes {s : ByteArray} {a n m : Int} (h : getF s a n = some m) (w : World) (hs : s.size ≤ 1000000000000) :
    Calls Try.prog 45 #[.string s, .int .i64 a, .int .i64 n] w fun e w' => e = .returned (.tuple #[.int .u64 m, .bool true]) ∧ Below w.heap.size w w' :=
  (get01_calls s a n w hs).mono fun e w' ⟨h1, h2⟩ => ⟨by rw [h1, h]; rfl, h2⟩
theorem refName_no {s : ByteArray} {a c : Int} (h : nameAt s a = .error c) (w : World) (hs : s.size ≤ 1000000) (wf : -9223372036854775808 ≤ a ∧ a ≤ 9223372036854775807) :
    Calls Try.prog 23 #[.string s, .int .i64 a] w fun e w' => e = .returned (.tuple #[.string ⟨#[]⟩, .int .i64 0, .int .i64 c]) ∧ Below w.heap.size w w' :=
  (refName_calls s a w hs wf.1 wf.2).mono fun e w' ⟨h1, h2⟩ => ⟨by rw [h1, h]; rfl, h2⟩
theorem refName_yes {s : ByteArray} {a nx : Int} {b : List Int} (h : nameAt s a = .ok (b, nx)) (w : World) (hs : s.size ≤ 1000000) (wf : -9223372036854775808 ≤ a ∧ a ≤ 9223372036854775807) :
    Calls Try.prog 23 #[.string s, .int .i64 a] w fun e w' => e = .returned (.tuple #[.string (strOfNums b), .int .i64 nx, .int .i64 0]) ∧ Below w.heap.size w w' :=
  (refName_calls s a w hs wf.1 wf.2).mono fun e w' ⟨h1, h2⟩ => ⟨by rw [h1, h]; rfl, h2⟩
set_option maxHeartbeats 2000000 in
set_option maxRecDepth 100000 in
theorem num6_off {w : World} {g : Nat} {s : ByteArray} {a e n : Int} (h : St w g s a e) (he : e ≠ 0) :
    Calls Try.prog 48 #[.pointer (some ⟨g, 0, none⟩), .int .i64 n] w fun r w' => r = .returned (.int .i64 0) ∧ St w' g s a e ∧ Only g w w' := by
  have e1 : (e != 0) = true := by rw [bne_iff_ne]; exact he
  clear he
  have HR := Aside0.mk h
  have HO := Aside0.mk (Only.refl g w)
  have z0 := h.c0
  have z1 := h.c1
  have z2 := h.c2
  clear h
  go_enter Try.func48, Try.ntmps48
  go_wp2_with fail
  go_ret
  exact ⟨rfl, HR.out, HO.out⟩
set_option maxHeartbeats 2000000 in
set_option maxRecDepth 100000 in
theorem name6_off {w : World} {g : Nat} {s : ByteArray} {a e : Int} (h : St w g s a e) (he : e ≠ 0) :
    Calls Try.prog 49 #[.pointer (some ⟨g, 0, none⟩)] w fun r w' => r = .returned (.string ⟨#[]⟩) ∧ St w' g s a e ∧ Only g w w' := by
  have e1 : (e != 0) = true := by rw [bne_iff_ne]; exact he
  clear he
  have HR := Aside0.mk h
  have HO := Aside0.mk (Only.refl g w)
  have z0 := h.c0
  have z1 := h.c1
  have z2 := h.c2
  clear h
  go_enter Try.func49, Try.ntmps49
  go_wp2_with fail
  go_ret
  exact ⟨rfl, HR.out, HO.out⟩
set_option maxHeartbeats 2000000 in
set_option maxRecDepth 100000 in
theorem num6_no {w : World} {g : Nat} {s : ByteArray} {a n : Int} (h : St w g s a 0) (hs : s.size ≤ 1000000) (hp : getF s a n = none) :
    Calls Try.prog 48 #[.pointer (some ⟨g, 0, none⟩), .int .i64 n] w fun r w' => r = .returned (.int .i64 0) ∧ St w' g s a 2 ∧ Only g w w' := by
  have HP := Lib.hid hp
  have HS := Lib.hid hs
  clear hp hs
  have e1 : ((0 : Int) != 0) = false := rfl
  have HR := Aside0.mk h
  have HO := Aside0.mk (Only.refl g w)
  have z0 := h.c0
  have z1 := h.c1
  have z2 := h.c2
  clear h
  go_enter Try.func48, Try.ntmps48
  go_wp2_with fail
  refine start_ (n := 15) (S := fun w' => w'.cell? ⟨g, 0, none⟩ = some (.string s) ∧ w'.cell? ⟨g, 1, none⟩ = some (.int .i64 a)) (ds := []) (Array.replicate 15 false) (by kernel_rfl) (by kernel_rfl) rfl ⟨z0, z1⟩ (fun hS => ?_)
  refine dpure 0 (some 13) rfl rfl (by kernel_rfl) (fun _ _ _ h => h) (by rfl) (v := ?_) (a' := ?_) ?_ ?_ ?_
  rotate_left 2
  · intro w'; go_simp; with_reducible rfl
  · simp only [Act.put, List.setIfInBounds_toArray, List.set_cons_zero, List.set_cons_succ]; rfl
  refine dpure 1 (some 14) rfl rfl (by kernel_rfl) (fun _ _ _ h => h) (by rfl) (v := ?_) (a' := ?_) ?_ ?_ ?_
  rotate_left 2
  · intro w'; go_simp; with_reducible rfl
  · simp only [Act.put, List.setIfInBounds_toArray, List.set_cons_zero, List.set_cons_succ]; rfl
  refine dpure 2 (some 15) rfl rfl (by kernel_rfl) (fun _ _ _ h => h) (by rfl) (v := ?_) (a' := ?_) ?_ ?_ ?_
  rotate_left 2
  · intro w'; go_simp; with_reducible rfl
  · simp only [Act.put, List.setIfInBounds_toArray, List.set_cons_zero, List.set_cons_succ]; rfl
  refine dtake 3 (some 16) rfl rfl (by kernel_rfl) (fun _ _ _ h => h) (by rfl) hS (v := ?_) (a' := ?_) ?_ ?_ ?_
  rotate_left 2
  · rintro w' ⟨s0,s1⟩; go_simp; with_reducible rfl
  · simp only [Act.put, List.setIfInBounds_toArray, List.set_cons_zero, List.set_cons_succ]; rfl
  refine dpure 4 (some 17) rfl rfl (by kernel_rfl) (fun _ _ _ h => h) (by rfl) (v := ?_) (a' := ?_) ?_ ?_ ?_
  rotate_left 2
  · intro w'; go_simp; with_reducible rfl
  · simp only [Act.put, List.setIfInBounds_toArray, List.set_cons_zero, List.set_cons_succ]; rfl
  refine dpure 5 (some 18) rfl rfl (by kernel_rfl) (fun _ _ _ h => h) (by rfl) (v := ?_) (a' := ?_) ?_ ?_ ?_
  rotate_left 2
  · intro w'; go_simp; with_reducible rfl
  · simp only [Act.put, List.setIfInBounds_toArray, List.set_cons_zero, List.set_cons_succ]; rfl
  refine dpure 6 (some 19) rfl rfl (by kernel_rfl) (fun _ _ _ h => h) (by rfl) (v := ?_) (a' := ?_) ?_ ?_ ?_
  rotate_left 2
  · intro w'; go_simp; with_reducible rfl
  · simp only [Act.put, List.setIfInBounds_toArray, List.set_cons_zero, List.set_cons_succ]; rfl
  refine dtake 7 (some 20) rfl rfl (by kernel_rfl) (fun _ _ _ h => h) (by rfl) hS (v := ?_) (a' := ?_) ?_ ?_ ?_
  rotate_left 2
  · rintro w' ⟨s0,s1⟩; go_simp; with_reducible rfl
  · simp only [Act.put, List.setIfInBounds_toArray, List.set_cons_zero, List.set_cons_succ]; rfl
  refine dpure 8 (some 21) rfl rfl (by kernel_rfl) (fun _ _ _ h => h) (by rfl) (v := ?_) (a' := ?_) ?_ ?_ ?_
  rotate_left 2
  · intro w'; go_simp; with_reducible rfl
  · simp only [Act.put, List.setIfInBounds_toArray, List.set_cons_zero, List.set_cons_succ]; rfl
  refine done1 9 (some 22) rfl rfl (by kernel_rfl) (by decide) (fun K hK => ?_)
  refine goes_ Try.func45 (by kernel_rfl) rfl #[.string s, .int .i64 a, .int .i64 n] (by rfl) rfl rfl (by kernel_rfl) ?_
  refine (get01_no HP.out _ (by have := HS.out; omega)).mono ?_
  rintro e w2 ⟨rfl, hb⟩
  refine ⟨_, rfl, ?_⟩
  have HR2 := Aside0.mk (St.below (w := w.drew) HR.out hb)
  have HO2 := Aside0.mk (HO.out.drew.trans (Only.of_below hb g))
  clear z0 z1 z2 hb
  refine hK.out _ _ ⟨HR2.out.c0, HR2.out.c1⟩ (fun hS => ?_)
  clear hK K
  refine norm_ (a' := ?_) ?_ ?_
  rotate_left
  · simp only [Act.put, List.setIfInBounds_toArray, List.set_cons_zero, List.set_cons_succ]; rfl
  refine dpure 10 (some 12) rfl rfl (by kernel_rfl) (fun _ _ _ h => h) (by rfl) (v := ?_) (a' := ?_) ?_ ?_ ?_
  rotate_left 2
  · intro w'; go_simp; with_reducible rfl
  · simp only [Act.put, List.setIfInBounds_toArray, List.set_cons_zero, List.set_cons_succ]; rfl
  refine dpure 11 (some 23) rfl rfl (by kernel_rfl) (fun _ _ _ h => h) (by rfl) (v := ?_) (a' := ?_) ?_ ?_ ?_
  rotate_left 2
  · intro w'; go_simp; with_reducible rfl
  · simp only [Act.put, List.setIfInBounds_toArray, List.set_cons_zero, List.set_cons_succ]; rfl
  refine dpure 12 (some 24) rfl rfl (by kernel_rfl) (fun _ _ _ h => h) (by rfl) (v := ?_) (a' := ?_) ?_ ?_ ?_
  rotate_left 2
  · intro w'; go_simp; with_reducible rfl
  · simp only [Act.put, List.setIfInBounds_toArray, List.set_cons_zero, List.set_cons_succ]; rfl
  refine dpure 13 (some 5) rfl rfl (by kernel_rfl) (fun _ _ _ h => h) (by rfl) (v := ?_) (a' := ?_) ?_ ?_ ?_
  rotate_left 2
  · intro w'; go_simp; with_reducible rfl
  · simp only [Act.put, List.setIfInBounds_toArray, List.set_cons_zero, List.set_cons_succ]; rfl
  refine dpure 14 (some 6) rfl rfl (by kernel_rfl) (fun _ _ _ h => h) (by rfl) (v := ?_) (a' := ?_) ?_ ?_ ?_
  rotate_left 2
  · intro w'; go_simp; with_reducible rfl
  · simp only [Act.put, List.setIfInBounds_toArray, List.set_cons_zero, List.set_cons_succ]; rfl
  refine done_ (by kernel_rfl) ?_
  have z0 := HR2.out.c0
  have z1 := HR2.out.c1
  have z2 := HR2.out.c2
  have f2 : w2.frozen? ⟨g, 2, none⟩ = false := blk_frozen HR2.out 2
  go_wp2_with fail
  go_ret
  exact ⟨rfl, HR2.out.set2 _, HO2.out.set 2 _⟩
set_option maxHeartbeats 2000000 in
set_option maxRecDepth 100000 in
theorem num6_yes {w : World} {g : Nat} {s : ByteArray} {a n t : Int} (h : St w g s a 0) (hs : s.size ≤ 1000000) (hp : getF s a n = some t) (ht : t ≤ 9223372036854775807) (ht0 : 0 ≤ t) :
    Calls Try.prog 48 #[.pointer (some ⟨g, 0, none⟩), .int .i64 n] w fun r w' => r = .returned (.int .i64 t) ∧ St w' g s (a + n) 0 ∧ Only g w w' := by
  have HP := Lib.hid hp
  have HS := Lib.hid hs
  obtain ⟨a0, n0, an⟩ := get_at hp
  have q1 : a + n ≤ 1000000 := by omega
  have q2 : 0 ≤ a + n := by omega
  have q3 : IntKind.i64.wrap t = t := by rw [IntKind.wrap_i64]; omega
  clear hp hs
  have e1 : ((0 : Int) != 0) = false := rfl
  have HR := Aside0.mk h
  have HO := Aside0.mk (Only.refl g w)
  have z0 := h.c0
  have z1 := h.c1
  have z2 := h.c2
  clear h
  go_enter Try.func48, Try.ntmps48
  go_wp2_with fail
  refine start_ (n := 15) (S := fun w' => w'.cell? ⟨g, 0, none⟩ = some (.string s) ∧ w'.cell? ⟨g, 1, none⟩ = some (.int .i64 a)) (ds := []) (Array.replicate 15 false) (by kernel_rfl) (by kernel_rfl) rfl ⟨z0, z1⟩ (fun hS => ?_)
  refine dpure 0 (some 13) rfl rfl (by kernel_rfl) (fun _ _ _ h => h) (by rfl) (v := ?_) (a' := ?_) ?_ ?_ ?_
  rotate_left 2
  · intro w'; go_simp; with_reducible rfl
  · simp only [Act.put, List.setIfInBounds_toArray, List.set_cons_zero, List.set_cons_succ]; rfl
  refine dpure 1 (some 14) rfl rfl (by kernel_rfl) (fun _ _ _ h => h) (by rfl) (v := ?_) (a' := ?_) ?_ ?_ ?_
  rotate_left 2
  · intro w'; go_simp; with_reducible rfl
  · simp only [Act.put, List.setIfInBounds_toArray, List.set_cons_zero, List.set_cons_succ]; rfl
  refine dpure 2 (some 15) rfl rfl (by kernel_rfl) (fun _ _ _ h => h) (by rfl) (v := ?_) (a' := ?_) ?_ ?_ ?_
  rotate_left 2
  · intro w'; go_simp; with_reducible rfl
  · simp only [Act.put, List.setIfInBounds_toArray, List.set_cons_zero, List.set_cons_succ]; rfl
  refine dtake 3 (some 16) rfl rfl (by kernel_rfl) (fun _ _ _ h => h) (by rfl) hS (v := ?_) (a' := ?_) ?_ ?_ ?_
  rotate_left 2
  · rintro w' ⟨s0,s1⟩; go_simp; with_reducible rfl
  · simp only [Act.put, List.setIfInBounds_toArray, List.set_cons_zero, List.set_cons_succ]; rfl
  refine dpure 4 (some 17) rfl rfl (by kernel_rfl) (fun _ _ _ h => h) (by rfl) (v := ?_) (a' := ?_) ?_ ?_ ?_
  rotate_left 2
  · intro w'; go_simp; with_reducible rfl
  · simp only [Act.put, List.setIfInBounds_toArray, List.set_cons_zero, List.set_cons_succ]; rfl
  refine dpure 5 (some 18) rfl rfl (by kernel_rfl) (fun _ _ _ h => h) (by rfl) (v := ?_) (a' := ?_) ?_ ?_ ?_
  rotate_left 2
  · intro w'; go_simp; with_reducible rfl
  · simp only [Act.put, List.setIfInBounds_toArray, List.set_cons_zero, List.set_cons_succ]; rfl
  refine dpure 6 (some 19) rfl rfl (by kernel_rfl) (fun _ _ _ h => h) (by rfl) (v := ?_) (a' := ?_) ?_ ?_ ?_
  rotate_left 2
  · intro w'; go_simp; with_reducible rfl
  · simp only [Act.put, List.setIfInBounds_toArray, List.set_cons_zero, List.set_cons_succ]; rfl
  refine dtake 7 (some 20) rfl rfl (by kernel_rfl) (fun _ _ _ h => h) (by rfl) hS (v := ?_) (a' := ?_) ?_ ?_ ?_
  rotate_left 2
  · rintro w' ⟨s0,s1⟩; go_simp; with_reducible rfl
  · simp only [Act.put, List.setIfInBounds_toArray, List.set_cons_zero, List.set_cons_succ]; rfl
  refine dpure 8 (some 21) rfl rfl (by kernel_rfl) (fun _ _ _ h => h) (by rfl) (v := ?_) (a' := ?_) ?_ ?_ ?_
  rotate_left 2
  · intro w'; go_simp; with_reducible rfl
  · simp only [Act.put, List.setIfInBounds_toArray, List.set_cons_zero, List.set_cons_succ]; rfl
  refine done1 9 (some 22) rfl rfl (by kernel_rfl) (by decide) (fun K hK => ?_)
  refine goes_ Try.func45 (by kernel_rfl) rfl #[.string s, .int .i64 a, .int .i64 n] (by rfl) rfl rfl (by kernel_rfl) ?_
  refine (get01_yes HP.out _ (by have := HS.out; omega)).mono ?_
  rintro e w2 ⟨rfl, hb⟩
  refine ⟨_, rfl, ?_⟩
  have HR2 := Aside0.mk (St.below (w := w.drew) HR.out hb)
  have HO2 := Aside0.mk (HO.out.drew.trans (Only.of_below hb g))
  clear z0 z1 z2 hb
  refine hK.out _ _ ⟨HR2.out.c0, HR2.out.c1⟩ (fun hS => ?_)
  clear hK K
  refine norm_ (a' := ?_) ?_ ?_
  rotate_left
  · simp only [Act.put, List.setIfInBounds_toArray, List.set_cons_zero, List.set_cons_succ]; rfl
  refine dpure 10 (some 12) rfl rfl (by kernel_rfl) (fun _ _ _ h => h) (by rfl) (v := ?_) (a' := ?_) ?_ ?_ ?_
  rotate_left 2
  · intro w'; go_simp; with_reducible rfl
  · simp only [Act.put, List.setIfInBounds_toArray, List.set_cons_zero, List.set_cons_succ]; rfl
  refine dpure 11 (some 23) rfl rfl (by kernel_rfl) (fun _ _ _ h => h) (by rfl) (v := ?_) (a' := ?_) ?_ ?_ ?_
  rotate_left 2
  · intro w'; go_simp; with_reducible rfl
  · simp only [Act.put, List.setIfInBounds_toArray, List.set_cons_zero, List.set_cons_succ]; rfl
  refine dpure 12 (some 24) rfl rfl (by kernel_rfl) (fun _ _ _ h => h) (by rfl) (v := ?_) (a' := ?_) ?_ ?_ ?_
  rotate_left 2
  · intro w'; go_simp; with_reducible rfl
  · simp only [Act.put, List.setIfInBounds_toArray, List.set_cons_zero, List.set_cons_succ]; rfl
  refine dpure 13 (some 5) rfl rfl (by kernel_rfl) (fun _ _ _ h => h) (by rfl) (v := ?_) (a' := ?_) ?_ ?_ ?_
  rotate_left 2
  · intro w'; go_simp; with_reducible rfl
  · simp only [Act.put, List.setIfInBounds_toArray, List.set_cons_zero, List.set_cons_succ]; rfl
  refine dpure 14 (some 6) rfl rfl (by kernel_rfl) (fun _ _ _ h => h) (by rfl) (v := ?_) (a' := ?_) ?_ ?_ ?_
  rotate_left 2
  · intro w'; go_simp; with_reducible rfl
  · simp only [Act.put, List.setIfInBounds_toArray, List.set_cons_zero, List.set_cons_succ]; rfl
  refine done_ (by kernel_rfl) ?_
  have z0 := HR2.out.c0
  have z1 := HR2.out.c1
  have z2 := HR2.out.c2
  have f1 : w2.frozen? ⟨g, 1, none⟩ = false := blk_frozen HR2.out 1
  go_wp2_with fail
  go_ret
  exact ⟨rfl, HR2.out.set1 _, HO2.out.set 1 _⟩
set_option maxHeartbeats 2000000 in
set_option maxRecDepth 100000 in
theorem name6_no {w : World} {g : Nat} {s : ByteArray} {a c : Int} (h : St w g s a 0) (hs : s.size ≤ 1000000) (a0 : 0 ≤ a) (a1 : a ≤ s.size) (hp : nameAt s a = .error c) :
    Calls Try.prog 49 #[.pointer (some ⟨g, 0, none⟩)] w fun r w' => r = .returned (.string ⟨#[]⟩) ∧ St w' g s 0 c ∧ Only g w w' := by
  have HP := Lib.hid hp
  have HS := Lib.hid hs
  have HA := Lib.hid (show -9223372036854775808 ≤ a ∧ a ≤ 9223372036854775807 by omega)
  clear hp hs a0 a1
  have e1 : ((0 : Int) != 0) = false := rfl
  have HR := Aside0.mk h
  have HO := Aside0.mk (Only.refl g w)
  have z0 := h.c0
  have z1 := h.c1
  have z2 := h.c2
  clear h
  go_enter Try.func49, Try.ntmps49
  go_wp2_with fail
  refine start_ (n := 16) (S := fun w' => w'.cell? ⟨g, 0, none⟩ = some (.string s) ∧ w'.cell? ⟨g, 1, none⟩ = some (.int .i64 a)) (ds := []) (Array.replicate 16 false) (by kernel_rfl) (by kernel_rfl) rfl ⟨z0, z1⟩ (fun hS => ?_)
  refine dpure 0 (some 12) rfl rfl (by kernel_rfl) (fun _ _ _ h => h) (by rfl) (v := ?_) (a' := ?_) ?_ ?_ ?_
  rotate_left 2
  · intro w'; go_simp; with_reducible rfl
  · simp only [Act.put, List.setIfInBounds_toArray, List.set_cons_zero, List.set_cons_succ]; rfl
  refine dpure 1 (some 13) rfl rfl (by kernel_rfl) (fun _ _ _ h => h) (by rfl) (v := ?_) (a' := ?_) ?_ ?_ ?_
  rotate_left 2
  · intro w'; go_simp; with_reducible rfl
  · simp only [Act.put, List.setIfInBounds_toArray, List.set_cons_zero, List.set_cons_succ]; rfl
  refine dpure 2 (some 14) rfl rfl (by kernel_rfl) (fun _ _ _ h => h) (by rfl) (v := ?_) (a' := ?_) ?_ ?_ ?_
  rotate_left 2
  · intro w'; go_simp; with_reducible rfl
  · simp only [Act.put, List.setIfInBounds_toArray, List.set_cons_zero, List.set_cons_succ]; rfl
  refine dtake 3 (some 15) rfl rfl (by kernel_rfl) (fun _ _ _ h => h) (by rfl) hS (v := ?_) (a' := ?_) ?_ ?_ ?_
  rotate_left 2
  · rintro w' ⟨s0,s1⟩; go_simp; with_reducible rfl
  · simp only [Act.put, List.setIfInBounds_toArray, List.set_cons_zero, List.set_cons_succ]; rfl
  refine dpure 4 (some 16) rfl rfl (by kernel_rfl) (fun _ _ _ h => h) (by rfl) (v := ?_) (a' := ?_) ?_ ?_ ?_
  rotate_left 2
  · intro w'; go_simp; with_reducible rfl
  · simp only [Act.put, List.setIfInBounds_toArray, List.set_cons_zero, List.set_cons_succ]; rfl
  refine dpure 5 (some 17) rfl rfl (by kernel_rfl) (fun _ _ _ h => h) (by rfl) (v := ?_) (a' := ?_) ?_ ?_ ?_
  rotate_left 2
  · intro w'; go_simp; with_reducible rfl
  · simp only [Act.put, List.setIfInBounds_toArray, List.set_cons_zero, List.set_cons_succ]; rfl
  refine dpure 6 (some 18) rfl rfl (by kernel_rfl) (fun _ _ _ h => h) (by rfl) (v := ?_) (a' := ?_) ?_ ?_ ?_
  rotate_left 2
  · intro w'; go_simp; with_reducible rfl
  · simp only [Act.put, List.setIfInBounds_toArray, List.set_cons_zero, List.set_cons_succ]; rfl
  refine dtake 7 (some 19) rfl rfl (by kernel_rfl) (fun _ _ _ h => h) (by rfl) hS (v := ?_) (a' := ?_) ?_ ?_ ?_
  rotate_left 2
  · rintro w' ⟨s0,s1⟩; go_simp; with_reducible rfl
  · simp only [Act.put, List.setIfInBounds_toArray, List.set_cons_zero, List.set_cons_succ]; rfl
  refine done1 8 (some 20) rfl rfl (by kernel_rfl) (by decide) (fun K hK => ?_)
  refine goes_ Try.func23 (by kernel_rfl) rfl #[.string s, .int .i64 a] (by rfl) rfl rfl (by kernel_rfl) ?_
  refine (refName_no HP.out _ HS.out HA.out).mono ?_
  rintro e w2 ⟨rfl, hb⟩
  refine ⟨_, rfl, ?_⟩
  have HR2 := Aside0.mk (St.below (w := w.drew) HR.out hb)
  have HO2 := Aside0.mk (HO.out.drew.trans (Only.of_below hb g))
  clear z0 z1 z2 hb
  refine hK.out _ _ ⟨HR2.out.c0, HR2.out.c1⟩ (fun hS => ?_)
  clear hK K
  refine norm_ (a' := ?_) ?_ ?_
  rotate_left
  · simp only [Act.put, List.setIfInBounds_toArray, List.set_cons_zero, List.set_cons_succ]; rfl
  refine dpure 9 (some 11) rfl rfl (by kernel_rfl) (fun _ _ _ h => h) (by rfl) (v := ?_) (a' := ?_) ?_ ?_ ?_
  rotate_left 2
  · intro w'; go_simp; with_reducible rfl
  · simp only [Act.put, List.setIfInBounds_toArray, List.set_cons_zero, List.set_cons_succ]; rfl
  refine dpure 10 (some 21) rfl rfl (by kernel_rfl) (fun _ _ _ h => h) (by rfl) (v := ?_) (a' := ?_) ?_ ?_ ?_
  rotate_left 2
  · intro w'; go_simp; with_reducible rfl
  · simp only [Act.put, List.setIfInBounds_toArray, List.set_cons_zero, List.set_cons_succ]; rfl
  refine dpure 11 (some 22) rfl rfl (by kernel_rfl) (fun _ _ _ h => h) (by rfl) (v := ?_) (a' := ?_) ?_ ?_ ?_
  rotate_left 2
  · intro w'; go_simp; with_reducible rfl
  · simp only [Act.put, List.setIfInBounds_toArray, List.set_cons_zero, List.set_cons_succ]; rfl
  refine dpure 12 (some 23) rfl rfl (by kernel_rfl) (fun _ _ _ h => h) (by rfl) (v := ?_) (a' := ?_) ?_ ?_ ?_
  rotate_left 2
  · intro w'; go_simp; with_reducible rfl
  · simp only [Act.put, List.setIfInBounds_toArray, List.set_cons_zero, List.set_cons_succ]; rfl
  refine dpure 13 (some 3) rfl rfl (by kernel_rfl) (fun _ _ _ h => h) (by rfl) (v := ?_) (a' := ?_) ?_ ?_ ?_
  rotate_left 2
  · intro w'; go_simp; with_reducible rfl
  · simp only [Act.put, List.setIfInBounds_toArray, List.set_cons_zero, List.set_cons_succ]; rfl
  refine dpure 14 (some 4) rfl rfl (by kernel_rfl) (fun _ _ _ h => h) (by rfl) (v := ?_) (a' := ?_) ?_ ?_ ?_
  rotate_left 2
  · intro w'; go_simp; with_reducible rfl
  · simp only [Act.put, List.setIfInBounds_toArray, List.set_cons_zero, List.set_cons_succ]; rfl
  refine dpure 15 (some 5) rfl rfl (by kernel_rfl) (fun _ _ _ h => h) (by rfl) (v := ?_) (a' := ?_) ?_ ?_ ?_
  rotate_left 2
  · intro w'; go_simp; with_reducible rfl
  · simp only [Act.put, List.setIfInBounds_toArray, List.set_cons_zero, List.set_cons_succ]; rfl
  refine done_ (by kernel_rfl) ?_
  have f2 : w2.frozen? ⟨g, 2, none⟩ = false := blk_frozen HR2.out 2
  have f1 : w2.frozen? ⟨g, 1, none⟩ = false := blk_frozen HR2.out 1
  have z0 := HR2.out.c0
  have z1 := HR2.out.c1
  have z2 := HR2.out.c2
  go_wp2_with fail
  go_ret
  exact ⟨rfl, (HR2.out.set2 _).set1 _, (HO2.out.set 2 _).set 1 _⟩
set_option maxHeartbeats 2000000 in
set_option maxRecDepth 100000 in
theorem name6_yes {w : World} {g : Nat} {s : ByteArray} {a nx : Int} {b : List Int} (h : St w g s a 0) (hs : s.size ≤ 1000000) (a0 : 0 ≤ a) (a1 : a ≤ s.size) (hp : nameAt s a = .ok (b, nx)) :
    Calls Try.prog 49 #[.pointer (some ⟨g, 0, none⟩)] w fun r w' => r = .returned (.string (strOfNums b)) ∧ St w' g s nx 0 ∧ Only g w w' := by
  have HP := Lib.hid hp
  have HS := Lib.hid hs
  have HA := Lib.hid (show -9223372036854775808 ≤ a ∧ a ≤ 9223372036854775807 by omega)
  clear hp hs a0 a1
  have e1 : ((0 : Int) != 0) = false := rfl
  have HR := Aside0.mk h
  have HO := Aside0.mk (Only.refl g w)
  have z0 := h.c0
  have z1 := h.c1
  have z2 := h.c2
  clear h
  go_enter Try.func49, Try.ntmps49
  go_wp2_with fail
  refine start_ (n := 16) (S := fun w' => w'.cell? ⟨g, 0, none⟩ = some (.string s) ∧ w'.cell? ⟨g, 1, none⟩ = some (.int .i64 a)) (ds := []) (Array.replicate 16 false) (by kernel_rfl) (by kernel_rfl) rfl ⟨z0, z1⟩ (fun hS => ?_)
  refine dpure 0 (some 12) rfl rfl (by kernel_rfl) (fun _ _ _ h => h) (by rfl) (v := ?_) (a' := ?_) ?_ ?_ ?_
  rotate_left 2
  · intro w'; go_simp; with_reducible rfl
  · simp only [Act.put, List.setIfInBounds_toArray, List.set_cons_zero, List.set_cons_succ]; rfl
  refine dpure 1 (some 13) rfl rfl (by kernel_rfl) (fun _ _ _ h => h) (by rfl) (v := ?_) (a' := ?_) ?_ ?_ ?_
  rotate_left 2
  · intro w'; go_simp; with_reducible rfl
  · simp only [Act.put, List.setIfInBounds_toArray, List.set_cons_zero, List.set_cons_succ]; rfl
  refine dpure 2 (some 14) rfl rfl (by kernel_rfl) (fun _ _ _ h => h) (by rfl) (v := ?_) (a' := ?_) ?_ ?_ ?_
  rotate_left 2
  · intro w'; go_simp; with_reducible rfl
  · simp only [Act.put, List.setIfInBounds_toArray, List.set_cons_zero, List.set_cons_succ]; rfl
  refine dtake 3 (some 15) rfl rfl (by kernel_rfl) (fun _ _ _ h => h) (by rfl) hS (v := ?_) (a' := ?_) ?_ ?_ ?_
  rotate_left 2
  · rintro w' ⟨s0,s1⟩; go_simp; with_reducible rfl
  · simp only [Act.put, List.setIfInBounds_toArray, List.set_cons_zero, List.set_cons_succ]; rfl
  refine dpure 4 (some 16) rfl rfl (by kernel_rfl) (fun _ _ _ h => h) (by rfl) (v := ?_) (a' := ?_) ?_ ?_ ?_
  rotate_left 2
  · intro w'; go_simp; with_reducible rfl
  · simp only [Act.put, List.setIfInBounds_toArray, List.set_cons_zero, List.set_cons_succ]; rfl
  refine dpure 5 (some 17) rfl rfl (by kernel_rfl) (fun _ _ _ h => h) (by rfl) (v := ?_) (a' := ?_) ?_ ?_ ?_
  rotate_left 2
  · intro w'; go_simp; with_reducible rfl
  · simp only [Act.put, List.setIfInBounds_toArray, List.set_cons_zero, List.set_cons_succ]; rfl
  refine dpure 6 (some 18) rfl rfl (by kernel_rfl) (fun _ _ _ h => h) (by rfl) (v := ?_) (a' := ?_) ?_ ?_ ?_
  rotate_left 2
  · intro w'; go_simp; with_reducible rfl
  · simp only [Act.put, List.setIfInBounds_toArray, List.set_cons_zero, List.set_cons_succ]; rfl
  refine dtake 7 (some 19) rfl rfl (by kernel_rfl) (fun _ _ _ h => h) (by rfl) hS (v := ?_) (a' := ?_) ?_ ?_ ?_
  rotate_left 2
  · rintro w' ⟨s0,s1⟩; go_simp; with_reducible rfl
  · simp only [Act.put, List.setIfInBounds_toArray, List.set_cons_zero, List.set_cons_succ]; rfl
  refine done1 8 (some 20) rfl rfl (by kernel_rfl) (by decide) (fun K hK => ?_)
  refine goes_ Try.func23 (by kernel_rfl) rfl #[.string s, .int .i64 a] (by rfl) rfl rfl (by kernel_rfl) ?_
  refine (refName_yes HP.out _ HS.out HA.out).mono ?_
  rintro e w2 ⟨rfl, hb⟩
  refine ⟨_, rfl, ?_⟩
  have HR2 := Aside0.mk (St.below (w := w.drew) HR.out hb)
  have HO2 := Aside0.mk (HO.out.drew.trans (Only.of_below hb g))
  clear z0 z1 z2 hb
  refine hK.out _ _ ⟨HR2.out.c0, HR2.out.c1⟩ (fun hS => ?_)
  clear hK K
  refine norm_ (a' := ?_) ?_ ?_
  rotate_left
  · simp only [Act.put, List.setIfInBounds_toArray, List.set_cons_zero, List.set_cons_succ]; rfl
  refine dpure 9 (some 11) rfl rfl (by kernel_rfl) (fun _ _ _ h => h) (by rfl) (v := ?_) (a' := ?_) ?_ ?_ ?_
  rotate_left 2
  · intro w'; go_simp; with_reducible rfl
  · simp only [Act.put, List.setIfInBounds_toArray, List.set_cons_zero, List.set_cons_succ]; rfl
  refine dpure 10 (some 21) rfl rfl (by kernel_rfl) (fun _ _ _ h => h) (by rfl) (v := ?_) (a' := ?_) ?_ ?_ ?_
  rotate_left 2
  · intro w'; go_simp; with_reducible rfl
  · simp only [Act.put, List.setIfInBounds_toArray, List.set_cons_zero, List.set_cons_succ]; rfl
  refine dpure 11 (some 22) rfl rfl (by kernel_rfl) (fun _ _ _ h => h) (by rfl) (v := ?_) (a' := ?_) ?_ ?_ ?_
  rotate_left 2
  · intro w'; go_simp; with_reducible rfl
  · simp only [Act.put, List.setIfInBounds_toArray, List.set_cons_zero, List.set_cons_succ]; rfl
  refine dpure 12 (some 23) rfl rfl (by kernel_rfl) (fun _ _ _ h => h) (by rfl) (v := ?_) (a' := ?_) ?_ ?_ ?_
  rotate_left 2
  · intro w'; go_simp; with_reducible rfl
  · simp only [Act.put, List.setIfInBounds_toArray, List.set_cons_zero, List.set_cons_succ]; rfl
  refine dpure 13 (some 3) rfl rfl (by kernel_rfl) (fun _ _ _ h => h) (by rfl) (v := ?_) (a' := ?_) ?_ ?_ ?_
  rotate_left 2
  · intro w'; go_simp; with_reducible rfl
  · simp only [Act.put, List.setIfInBounds_toArray, List.set_cons_zero, List.set_cons_succ]; rfl
  refine dpure 14 (some 4) rfl rfl (by kernel_rfl) (fun _ _ _ h => h) (by rfl) (v := ?_) (a' := ?_) ?_ ?_ ?_
  rotate_left 2
  · intro w'; go_simp; with_reducible rfl
  · simp only [Act.put, List.setIfInBounds_toArray, List.set_cons_zero, List.set_cons_succ]; rfl
  refine dpure 15 (some 5) rfl rfl (by kernel_rfl) (fun _ _ _ h => h) (by rfl) (v := ?_) (a' := ?_) ?_ ?_ ?_
  rotate_left 2
  · intro w'; go_simp; with_reducible rfl
  · simp only [Act.put, List.setIfInBounds_toArray, List.set_cons_zero, List.set_cons_succ]; rfl
  refine done_ (by kernel_rfl) ?_
  have f2 : w2.frozen? ⟨g, 2, none⟩ = false := blk_frozen HR2.out 2
  have f1 : w2.frozen? ⟨g, 1, none⟩ = false := blk_frozen HR2.out 1
  have z0 := HR2.out.c0
  have z1 := HR2.out.c1
  have z2 := HR2.out.c2
  go_wp2_with fail
  go_ret
  exact ⟨rfl, (HR2.out.set2 _).set1 _, (HO2.out.set 2 _).set 1 _⟩
end Go.Proofs.Ytbbeikdbioelgaa.M
set_option linter.unusedVariables false
set_option linter.unusedSimpArgs false
namespace Go.Proofs.Ytbbeikdbioelgaa.M
open Go.RowKit Go.Maps Go.Proofs.YtbbeikdbioelgaaW.PrintWords Go.Proofs.YtbbeikdbioelgaaW.PrintLast Go.Proofs.YtbbeikdbioelgaaW.PrintMore
attribute [local go_sem] max2_int min2_int max_two min_two max_three min_three max_four min_four
attribute [local go_sem ↓] Go.wp_at_zero Go.wp_at_succ
/-- How a read by the reference ends: what was read, or its error behind something. -/
def Ends6 {α : Type} (P : α → Value → World → Prop) (R : Except Int (α × Int)) (w : World) (g : Nat) (s : ByteArray) (r : Ending) (w' : World) : Prop :=
  Only g w w' ∧ ∃ (x : α) (v : Value) (a e : Int), r = .returned v ∧ P x v w' ∧ St w' g s a e ∧ ((R = .ok (x, a) ∧ e = 0) ∨ (R = .error e ∧ e ≠ 0))
theorem Ends6.ok {α : Type} {P : α → Value → World → Prop} {R : Except Int (α × Int)} {w w' : World} {g : Nat} {s : ByteArray} {x : α} {v : Value} {a : Int} (ho : Only g w w') (hp : P x v w') (hs : St w' g s a 0) (hr : R = .ok (x, a)) : Ends6 P R w g s (.returned v) w' :=
  ⟨ho, x, v, a, 0, rfl, hp, hs, .inl ⟨hr, rfl⟩⟩
theorem Ends6.err {α : Type} {P : α → Value → World → Prop} {R : Except Int (α × Int)} {w w' : World} {g : Nat} {s : ByteArray} {x : α} {v : Value} {a e : Int} (ho : Only g w w') (hp : P x v w') (hs : St w' g s a e) (hr : R = .error e) (he : e ≠ 0) : Ends6 P R w g s (.returned v) w' :=
  ⟨ho, x, v, a, e, rfl, hp, hs, .inr ⟨hr, he⟩⟩
/-- A row of the call's own that is no state stays. -/
theorem R_only6 {α : Type} {d : Kd α} {e base : Nat} {ok : Nat → Prop} {w w1 : World} {v : Value} {xs : List α} {g : Nat} {s : ByteArray} {a c : Int} (h : d.R e w base ok v xs) (hr : St w g s a c) (ht : ∀ q, q ∈ e :: d.E → q ≠ 96) (ho : Only g w w1) : d.R e w1 base ok v xs :=
  Kd.R_drop (Kd.R_grown (Kd.R_types h hr ht) ho.grown (fun k hk e => hk.2 (Option.some.inj e)))
set_option maxHeartbeats 4000000 in
set_option maxRecDepth 100000 in
theorem numbers6_calls {w : World} {g : Nat} {s : ByteArray} {a en : Int} {count z : Nat} (h : St w g s a 0) (hs : s.size ≤ 1000000) (h0 : 0 ≤ a) (ha : a ≤ s.size) (he : en ≤ s.size) (he0 : 0 ≤ en) (hc : count ≤ 10) (hz : z = 2 ∨ z = 4) :
    Calls Try.prog 81 #[.pointer (some ⟨g, 0, none⟩), .int .i64 count, .int .i64 z, .int .i64 en] w fun r w' => Ends6 (NumsP w.heap.size) (numsR s z en count [] a) w g s r w' := by
  obtain ⟨R, hR⟩ : ∃ R, numsR s z en count [] a = R := ⟨_, rfl⟩
  rw [hR]
  have HR := Aside0.mk h
  have HE := Aside0.mk (show numsR s z en count [] a = R ∧ 0 ≤ a ∧ a ≤ s.size from ⟨hR, h0, ha⟩)
  have HO := Aside0.mk (Only.refl g w)
  have HS := Lib.hid (show s.size ≤ 1000000 ∧ en ≤ s.size ∧ 0 ≤ en from ⟨hs, he, he0⟩)
  have HZ := Lib.hid hz
  have p1 : (count : Int) ≤ 10 := by omega
  have p2 : 0 ≤ en := he0
  have p3 : en ≤ 1000000 := by omega
  have HC := Lib.hid hc
  clear h hR hs hz h0 ha he he0 hc
  go_enter Try.func81, Try.ntmps81
  go_wp2_with fail
  go_loopg [9, 10] count (fun kq v9 v11 w' => ∃ (i : Nat) (out : List Int) (at' e : Int), v11 = .int .i64 i ∧ Aside0 ((e = 0 ∧ numsR s z en kq out at' = R ∧ 0 ≤ at' ∧ at' ≤ s.size) ∨ (e ≠ 0 ∧ R = .error e)) ∧ Aside0 (kq + i = count) ∧ Aside0 (out.length = i) ∧ Aside0 (St w' g s at' e) ∧ Aside0 (Only g w w') ∧ Aside0 (NumsP w.heap.size out v9 w'))
  case atStart => exact ⟨0, [], a, 0, rfl, ⟨.inl ⟨rfl, HE.out⟩⟩, ⟨rfl⟩, ⟨rfl⟩, HR, HO, ⟨Kd.R_nil _ _ _ _ _⟩⟩
  case round =>
    clear HE HO HR
    obtain ⟨i, out, at', e, rfl, HE, HK, HL, HR, HO, HB⟩ := hrel
    obtain ⟨A9, n9, c9, rfl⟩ := R_anyslice HB.out
    have z2 := HR.out.c2
    have z1 := HR.out.c1
    have he := HE.out
    clear HE
    have q0 : (i : Int) ≤ 10 := by have := HK.out; have := HC.out; omega
    cases gk with
    | zero =>
      obtain rfl : i = count := by have := HK.out; omega
      have HE := Aside0.mk he
      clear he
      go_wp2_with fail
      go_ret
      rcases HE.out with ⟨rfl, h1, -, -⟩ | ⟨h1, h2⟩
      · exact Ends6.ok HO.out HB.out HR.out h1.symm
      · exact Ends6.err HO.out HB.out HR.out h2 h1
    | succ k =>
      have q1 : (i : Int) < (count : Int) := by have := HK.out; omega
      rcases he with ⟨rfl, he, a0, a1⟩ | ⟨h1, h2⟩
      case inr =>
        have e1 : (e == 0) = false := beq_eq_false_iff_ne.mpr h1
        have HE := Lib.hid (And.intro h1 h2)
        clear h1 h2
        go_wp2_with fail
        go_ret
        exact Ends6.err HO.out HB.out HR.out HE.out.2 HE.out.1
      unfold numsR at he
      have e1 : ((0 : Int) == 0) = true := rfl
      have q2 : at' ≤ 1000000 := by have := HS.out.1; omega
      have q3 : (z : Int) ≤ 4 := by have := HZ.out; omega
      have f2 : wr.frozen? ⟨g, 2, none⟩ = false := blk_frozen HR.out 2
      by_cases c1 : en - at' < z
      · rw [if_pos c1] at he
        have HE := Lib.hid he
        have d1 : decide (en - at' < (z : Int)) = true := decide_eq_true c1
        clear he c1
        go_wp2_with fail
        go_ret
        exact Ends6.err (HO.out.set 2 _) (Kd.R_nil _ _ _ _ _) (HR.out.set2 _) HE.out.symm (by decide)
      rw [if_neg c1] at he
      have d1 : decide (en - at' < (z : Int)) = false := decide_eq_false c1
      have HL1 := Aside0.mk (show (out.length + 1) * 4 ≤ 140737488355328 by have := HL.out; have := HK.out; have := HC.out; omega)
      cases h1 : getF s at' z with
      | none =>
        rw [h1] at he
        have H1 := Lib.hid h1
        have HE := Aside0.mk he.symm
        clear he h1 c1
        go_wp2_with fail
        refine (num6_no HR.out HS.out.1 H1.out).mono ?_
        rintro r w2 ⟨rfl, hr, ho⟩
        have HR2 := Aside0.mk hr
        have HO2 := Aside0.mk (HO.out.trans ho)
        have HB2 := Aside0.mk (R_only6 HB.out HR.out (by decide) ho)
        clear hr ho z1 z2
        go_wp2_with (((with_reducible refine gate_builtin (b := .append) (xs := #[.tmp 34, .tmp 39]) rfl ?_); at_builtin; go_must (refine app32 rfl (.tmp 34) (.tmp 39) rfl rfl (by first | rfl | (go_simp; done)) HB2.out (Below.refl _ _) (fun _ _ _ => trivial) HO2.out.size HL1.out ?_; intro va wa hoa hba hga hata)); go_must (have HR4 := Aside0.mk (blk_grown HR2.out hga (Kd.R_ne HB2.out HR2.out (by decide))); have HO4 := Aside0.mk (HO2.out.of_grown hga (Kd.R_base HB2.out)); have HB4 := Aside0.mk hoa; clear hoa hba hga hata))
        go_roundg k
        case measure => omega
        case rel => exact ⟨i + 1, _, at', 2, by go_num, ⟨.inr ⟨by decide, HE.out⟩⟩, ⟨by have := HK.out; omega⟩, ⟨by have := HL.out; rw [List.length_append, List.length_singleton]; omega⟩, HR4, HO4, HB4⟩
      | some n =>
        rw [h1] at he
        simp only [] at he
        have H1 := Lib.hid h1
        obtain ⟨n0, n1⟩ := get_bound h1
        have hn32 : n < 4294967296 := by
          rcases HZ.out with hz | hz
          · rw [hz] at n1; omega
          · rw [hz] at n1; omega
        have hw : IntKind.u32.wrap n = n := by rw [IntKind.wrap_u32]; omega
        have ga := get_at h1
        have HE := Aside0.mk (show numsR s z en k (out ++ [n]) (at' + z) = R ∧ 0 ≤ at' + (z : Int) ∧ at' + (z : Int) ≤ s.size from ⟨he, by omega, by omega⟩)
        have HN := Lib.hid (show n ≤ 9223372036854775807 ∧ 0 ≤ n by omega)
        clear h1 c1 he n1 ga
        go_wp2_with fail
        refine (num6_yes HR.out HS.out.1 H1.out HN.out.1 HN.out.2).mono ?_
        rintro r w2 ⟨rfl, hr, ho⟩
        have HR2 := Aside0.mk hr
        have HO2 := Aside0.mk (HO.out.trans ho)
        have HB2 := Aside0.mk (R_only6 HB.out HR.out (by decide) ho)
        clear hr ho z1 z2
        go_wp2_with (((with_reducible refine gate_builtin (b := .append) (xs := #[.tmp 34, .tmp 39]) rfl ?_); at_builtin; go_must (refine app32 rfl (.tmp 34) (.tmp 39) rfl rfl (by first | rfl | (go_simp; done)) HB2.out (Below.refl _ _) (fun _ _ _ => trivial) HO2.out.size HL1.out ?_; intro va wa hoa hba hga hata)); go_must (have HR4 := Aside0.mk (blk_grown HR2.out hga (Kd.R_ne HB2.out HR2.out (by decide))); have HO4 := Aside0.mk (HO2.out.of_grown hga (Kd.R_base HB2.out)); have HB4 := Aside0.mk hoa; clear hoa hba hga hata))
        go_roundg k
        case measure => omega
        case rel => exact ⟨i + 1, _, at' + z, 0, by go_num, ⟨.inl ⟨rfl, HE.out⟩⟩, ⟨by have := HK.out; omega⟩, ⟨by have := HL.out; rw [List.length_append, List.length_singleton]; omega⟩, HR4, HO4, HB4⟩
end Go.Proofs.Ytbbeikdbioelgaa.M
set_option linter.unusedVariables false
set_option linter.unusedSimpArgs false
namespace Go.Proofs.Ytbbeikdbioelgaa.M
open Go.RowKit Go.Maps Go.Proofs.YtbbeikdbioelgaaW.PrintWords Go.Proofs.YtbbeikdbioelgaaW.PrintLast Go.Proofs.YtbbeikdbioelgaaW.PrintMore
attribute [local go_sem] max2_int min2_int max_two min_two max_three min_three max_four min_four
attribute [local go_sem ↓] Go.wp_at_zero Go.wp_at_succ
def StrsP (B : Nat) (l : List ByteArray) (v : Value) (w' : World) : Prop := Kd.R Kd.string 9 w' B (fun _ => True) v l
theorem refBare_no {s : ByteArray} {a en c : Int} (h : bareAt s a = .error c) (w : World) (hs : s.size ≤ 1000000) (h0 : 0 ≤ a) (ha : a ≤ s.size) (he : en ≤ s.size) (hen : endsF s a en = true) :
    Calls Try.prog 85 #[.string s, .int .i64 a] w fun e w' => e = .returned (.tuple #[.string ⟨#[]⟩, .int .i64 0, .int .i64 c]) ∧ Below w.heap.size w w' :=
  (refBare_calls s a en w hs h0 ha he hen).mono fun e w' ⟨h1, h2⟩ => ⟨by rw [h1, h]; rfl, h2⟩
theorem refBare_yes {s : ByteArray} {a en nx : Int} {b : List Int} (h : bareAt s a = .ok (b, nx)) (w : World) (hs : s.size ≤ 1000000) (h0 : 0 ≤ a) (ha : a ≤ s.size) (he : en ≤ s.size) (hen : endsF s a en = true) :
    Calls Try.prog 85 #[.string s, .int .i64 a] w fun e w' => e = .returned (.tuple #[.string (strOfNums b), .int .i64 nx, .int .i64 0]) ∧ Below w.heap.size w w' :=
  (refBare_calls s a en w hs h0 ha he hen).mono fun e w' ⟨h1, h2⟩ => ⟨by rw [h1, h]; rfl, h2⟩
theorem strs_set {B : Nat} {l : List ByteArray} {v : Value} {w : World} {g : Nat} {s : ByteArray} {a c : Int} (h : StrsP B l v w) (hr : St w g s a c) (j : Nat) (u : Value) : StrsP B l v (w.setCell ⟨g, j, none⟩ u) :=
  Kd.R_set h hr (by intro q hq; rw [show q = 9 by simpa [Kd.string, Kd.scalar] using hq]; decide) j u
set_option maxHeartbeats 4000000 in
set_option maxRecDepth 100000 in
theorem names6_calls {w : World} {g : Nat} {s : ByteArray} {a en kind : Int} {count : Nat} (h : St w g s a 0) (hs : s.size ≤ 1000000) (h0 : 0 ≤ a) (ha : a ≤ s.size) (he : en ≤ s.size) (he0 : 0 ≤ en) (hc : count ≤ 10) :
    Calls Try.prog 82 #[.pointer (some ⟨g, 0, none⟩), .int .u16 kind, .int .i64 count, .int .i64 en] w fun r w' => Ends6 (StrsP w.heap.size) (namesR s kind en count [] a) w g s r w' := by
  obtain ⟨R, hR⟩ : ∃ R, namesR s kind en count [] a = R := ⟨_, rfl⟩
  rw [hR]
  have HR := Aside0.mk h
  have HE := Aside0.mk (show namesR s kind en count [] a = R ∧ 0 ≤ a ∧ a ≤ s.size from ⟨hR, h0, ha⟩)
  have HO := Aside0.mk (Only.refl g w)
  have HS := Lib.hid (show s.size ≤ 1000000 ∧ en ≤ s.size ∧ 0 ≤ en from ⟨hs, he, he0⟩)
  have p1 : (count : Int) ≤ 10 := by omega
  have HC := Lib.hid hc
  clear h hR hs h0 ha he he0 hc
  go_enter Try.func82, Try.ntmps82
  go_wp2_with fail
  go_loopg [9, 10] count (fun kq v9 v11 w' => ∃ (i : Nat) (out : List ByteArray) (at' e : Int), v11 = .int .i64 i ∧ Aside0 ((e = 0 ∧ namesR s kind en kq out at' = R ∧ 0 ≤ at' ∧ at' ≤ s.size) ∨ (e ≠ 0 ∧ R = .error e)) ∧ Aside0 (kq + i = count) ∧ Aside0 (out.length = i) ∧ Aside0 (St w' g s at' e) ∧ Aside0 (Only g w w') ∧ Aside0 (StrsP w.heap.size out v9 w'))
  case atStart => exact ⟨0, [], a, 0, rfl, ⟨.inl ⟨rfl, HE.out⟩⟩, ⟨rfl⟩, ⟨rfl⟩, HR, HO, ⟨Kd.R_nil _ _ _ _ _⟩⟩
  case round =>
    clear HE HO HR
    obtain ⟨i, out, at', e, rfl, HE, HK, HL, HR, HO, HB⟩ := hrel
    obtain ⟨A9, n9, c9, rfl⟩ := R_anyslice HB.out
    have z2 := HR.out.c2
    have z1 := HR.out.c1
    have z0 := HR.out.c0
    have he := HE.out
    clear HE
    have q0 : (i : Int) ≤ 10 := by have := HK.out; have := HC.out; omega
    cases gk with
    | zero =>
      obtain rfl : i = count := by have := HK.out; omega
      have HE := Aside0.mk he
      clear he
      go_wp2_with fail
      go_ret
      rcases HE.out with ⟨rfl, h1, -, -⟩ | ⟨h1, h2⟩
      · exact Ends6.ok HO.out HB.out HR.out h1.symm
      · exact Ends6.err HO.out HB.out HR.out h2 h1
    | succ k =>
      have q1 : (i : Int) < (count : Int) := by have := HK.out; omega
      rcases he with ⟨rfl, he, a0, a1⟩ | ⟨h1, h2⟩
      case inr =>
        have e1 : (e == 0) = false := beq_eq_false_iff_ne.mpr h1
        have HE := Lib.hid (And.intro h1 h2)
        clear h1 h2
        go_wp2_with fail
        go_ret
        exact Ends6.err HO.out HB.out HR.out HE.out.2 HE.out.1
      have HA := Lib.hid (show 0 ≤ at' ∧ at' ≤ s.size from ⟨a0, a1⟩)
      unfold namesR withinF at he
      have e1 : ((0 : Int) == 0) = true := rfl
      have f2 : wr.frozen? ⟨g, 2, none⟩ = false := blk_frozen HR.out 2
      have f1 : wr.frozen? ⟨g, 1, none⟩ = false := blk_frozen HR.out 1
      have HL1 := Aside0.mk (show (out.length + 1) * 16 ≤ 140737488355328 by have := HL.out; have := HK.out; have := HC.out; omega)
      clear a0 a1
      by_cases c1 : endsF s at' en = false
      · rw [if_pos c1] at he
        have HE := Lib.hid he
        have HEn := Lib.hid c1
        clear he c1
        go_wp2_with fail
        refine start_ (n := 11) (S := fun w' => w'.cell? ⟨g, 0, none⟩ = some (.string s) ∧ w'.cell? ⟨g, 1, none⟩ = some (.int .i64 at')) (ds := []) (Array.replicate 11 false) (by kernel_rfl) (by kernel_rfl) rfl ⟨z0, z1⟩ (fun hS => ?_)
        refine dpure 0 (some 26) rfl rfl (by kernel_rfl) (fun _ _ _ h => h) (by rfl) (v := ?_) (a' := ?_) ?_ ?_ ?_
        rotate_left 2
        · intro w'; go_simp; with_reducible rfl
        · simp only [Act.put, List.setIfInBounds_toArray, List.set_cons_zero, List.set_cons_succ]; rfl
        refine dpure 1 (some 27) rfl rfl (by kernel_rfl) (fun _ _ _ h => h) (by rfl) (v := ?_) (a' := ?_) ?_ ?_ ?_
        rotate_left 2
        · intro w'; go_simp; with_reducible rfl
        · simp only [Act.put, List.setIfInBounds_toArray, List.set_cons_zero, List.set_cons_succ]; rfl
        refine dpure 2 (some 28) rfl rfl (by kernel_rfl) (fun _ _ _ h => h) (by rfl) (v := ?_) (a' := ?_) ?_ ?_ ?_
        rotate_left 2
        · intro w'; go_simp; with_reducible rfl
        · simp only [Act.put, List.setIfInBounds_toArray, List.set_cons_zero, List.set_cons_succ]; rfl
        refine dtake 3 (some 29) rfl rfl (by kernel_rfl) (fun _ _ _ h => h) (by rfl) hS (v := ?_) (a' := ?_) ?_ ?_ ?_
        rotate_left 2
        · rintro w' ⟨s0,s1⟩; go_simp; with_reducible rfl
        · simp only [Act.put, List.setIfInBounds_toArray, List.set_cons_zero, List.set_cons_succ]; rfl
        refine dpure 4 (some 30) rfl rfl (by kernel_rfl) (fun _ _ _ h => h) (by rfl) (v := ?_) (a' := ?_) ?_ ?_ ?_
        rotate_left 2
        · intro w'; go_simp; with_reducible rfl
        · simp only [Act.put, List.setIfInBounds_toArray, List.set_cons_zero, List.set_cons_succ]; rfl
        refine dpure 5 (some 31) rfl rfl (by kernel_rfl) (fun _ _ _ h => h) (by rfl) (v := ?_) (a' := ?_) ?_ ?_ ?_
        rotate_left 2
        · intro w'; go_simp; with_reducible rfl
        · simp only [Act.put, List.setIfInBounds_toArray, List.set_cons_zero, List.set_cons_succ]; rfl
        refine dpure 6 (some 32) rfl rfl (by kernel_rfl) (fun _ _ _ h => h) (by rfl) (v := ?_) (a' := ?_) ?_ ?_ ?_
        rotate_left 2
        · intro w'; go_simp; with_reducible rfl
        · simp only [Act.put, List.setIfInBounds_toArray, List.set_cons_zero, List.set_cons_succ]; rfl
        refine dtake 7 (some 33) rfl rfl (by kernel_rfl) (fun _ _ _ h => h) (by rfl) hS (v := ?_) (a' := ?_) ?_ ?_ ?_
        rotate_left 2
        · rintro w' ⟨s0,s1⟩; go_simp; with_reducible rfl
        · simp only [Act.put, List.setIfInBounds_toArray, List.set_cons_zero, List.set_cons_succ]; rfl
        refine dpure 8 (some 34) rfl rfl (by kernel_rfl) (fun _ _ _ h => h) (by rfl) (v := ?_) (a' := ?_) ?_ ?_ ?_
        rotate_left 2
        · intro w'; go_simp; with_reducible rfl
        · simp only [Act.put, List.setIfInBounds_toArray, List.set_cons_zero, List.set_cons_succ]; rfl
        refine done1 9 (some 35) rfl rfl (by kernel_rfl) (by decide) (fun K hK => ?_)
        refine goes_ Try.func84 (by kernel_rfl) rfl #[.string s, .int .i64 at', .int .i64 en] (by rfl) rfl rfl (by kernel_rfl) ?_
        refine (refEnds_calls HS.out.1 HA.out.1 HA.out.2 HS.out.2.1 HS.out.2.2).mono ?_
        rintro e w2 ⟨rfl, hb⟩
        refine ⟨_, rfl, ?_⟩
        rw [HEn.out]
        have HR2 := Aside0.mk (St.below (w := wr.drew) HR.out hb)
        have ho2 := Only.of_below hb g
        have HO2 := Aside0.mk (HO.out.drew.trans ho2)
        have HB2 := Aside0.mk (R_only6 (w := wr.drew) (Kd.R_drew HB.out) HR.out (by decide) ho2)
        clear z0 z1 z2 f1 f2 hb ho2
        refine hK.out _ _ ⟨HR2.out.c0, HR2.out.c1⟩ (fun hS => ?_)
        clear hK K
        refine norm_ (a' := ?_) ?_ ?_
        rotate_left
        · simp only [Act.put, List.setIfInBounds_toArray, List.set_cons_zero, List.set_cons_succ]; rfl
        refine dpure 10 (some 36) rfl rfl (by kernel_rfl) (fun _ _ _ h => h) (by rfl) (v := ?_) (a' := ?_) ?_ ?_ ?_
        rotate_left 2
        · intro w'; go_simp; with_reducible rfl
        · simp only [Act.put, List.setIfInBounds_toArray, List.set_cons_zero, List.set_cons_succ]; rfl
        refine done_ (by kernel_rfl) ?_
        have f2 : w2.frozen? ⟨g, 2, none⟩ = false := blk_frozen HR2.out 2
        have f1 : w2.frozen? ⟨g, 1, none⟩ = false := blk_frozen HR2.out 1
        have z0 := HR2.out.c0
        have z1 := HR2.out.c1
        have z2 := HR2.out.c2
        go_wp2_with fail
        go_ret
        exact Ends6.err (HO2.out.set 2 _) (Kd.R_nil _ _ _ _ _) (HR2.out.set2 _) HE.out.symm (by decide)
      rw [if_neg c1] at he
      have HEn := Lib.hid (show endsF s at' en = true by simpa using c1)
      clear c1
      by_cases c2 : kind = 33
      · rw [if_pos c2] at he
        subst c2
        have e2 : ((33 : Int) == 33) = true := rfl
        cases h1 : bareAt s at' with
        | error c =>
          rw [h1] at he
          have H1 := Lib.hid h1
          have HE := Aside0.mk (show c ≠ 0 ∧ R = .error c from ⟨bareR_err _ h1, he.symm⟩)
          clear he h1
          go_wp2_with fail
          refine start_ (n := 11) (S := fun w' => w'.cell? ⟨g, 0, none⟩ = some (.string s) ∧ w'.cell? ⟨g, 1, none⟩ = some (.int .i64 at')) (ds := []) (Array.replicate 11 false) (by kernel_rfl) (by kernel_rfl) rfl ⟨z0, z1⟩ (fun hS => ?_)
          refine dpure 0 (some 26) rfl rfl (by kernel_rfl) (fun _ _ _ h => h) (by rfl) (v := ?_) (a' := ?_) ?_ ?_ ?_
          rotate_left 2
          · intro w'; go_simp; with_reducible rfl
          · simp only [Act.put, List.setIfInBounds_toArray, List.set_cons_zero, List.set_cons_succ]; rfl
          refine dpure 1 (some 27) rfl rfl (by kernel_rfl) (fun _ _ _ h => h) (by rfl) (v := ?_) (a' := ?_) ?_ ?_ ?_
          rotate_left 2
          · intro w'; go_simp; with_reducible rfl
          · simp only [Act.put, List.setIfInBounds_toArray, List.set_cons_zero, List.set_cons_succ]; rfl
          refine dpure 2 (some 28) rfl rfl (by kernel_rfl) (fun _ _ _ h => h) (by rfl) (v := ?_) (a' := ?_) ?_ ?_ ?_
          rotate_left 2
          · intro w'; go_simp; with_reducible rfl
          · simp only [Act.put, List.setIfInBounds_toArray, List.set_cons_zero, List.set_cons_succ]; rfl
          refine dtake 3 (some 29) rfl rfl (by kernel_rfl) (fun _ _ _ h => h) (by rfl) hS (v := ?_) (a' := ?_) ?_ ?_ ?_
          rotate_left 2
          · rintro w' ⟨s0,s1⟩; go_simp; with_reducible rfl
          · simp only [Act.put, List.setIfInBounds_toArray, List.set_cons_zero, List.set_cons_succ]; rfl
          refine dpure 4 (some 30) rfl rfl (by kernel_rfl) (fun _ _ _ h => h) (by rfl) (v := ?_) (a' := ?_) ?_ ?_ ?_
          rotate_left 2
          · intro w'; go_simp; with_reducible rfl
          · simp only [Act.put, List.setIfInBounds_toArray, List.set_cons_zero, List.set_cons_succ]; rfl
          refine dpure 5 (some 31) rfl rfl (by kernel_rfl) (fun _ _ _ h => h) (by rfl) (v := ?_) (a' := ?_) ?_ ?_ ?_
          rotate_left 2
          · intro w'; go_simp; with_reducible rfl
          · simp only [Act.put, List.setIfInBounds_toArray, List.set_cons_zero, List.set_cons_succ]; rfl
          refine dpure 6 (some 32) rfl rfl (by kernel_rfl) (fun _ _ _ h => h) (by rfl) (v := ?_) (a' := ?_) ?_ ?_ ?_
          rotate_left 2
          · intro w'; go_simp; with_reducible rfl
          · simp only [Act.put, List.setIfInBounds_toArray, List.set_cons_zero, List.set_cons_succ]; rfl
          refine dtake 7 (some 33) rfl rfl (by kernel_rfl) (fun _ _ _ h => h) (by rfl) hS (v := ?_) (a' := ?_) ?_ ?_ ?_
          rotate_left 2
          · rintro w' ⟨s0,s1⟩; go_simp; with_reducible rfl
          · simp only [Act.put, List.setIfInBounds_toArray, List.set_cons_zero, List.set_cons_succ]; rfl
          refine dpure 8 (some 34) rfl rfl (by kernel_rfl) (fun _ _ _ h => h) (by rfl) (v := ?_) (a' := ?_) ?_ ?_ ?_
          rotate_left 2
          · intro w'; go_simp; with_reducible rfl
          · simp only [Act.put, List.setIfInBounds_toArray, List.set_cons_zero, List.set_cons_succ]; rfl
          refine done1 9 (some 35) rfl rfl (by kernel_rfl) (by decide) (fun K hK => ?_)
          refine goes_ Try.func84 (by kernel_rfl) rfl #[.string s, .int .i64 at', .int .i64 en] (by rfl) rfl rfl (by kernel_rfl) ?_
          refine (refEnds_calls HS.out.1 HA.out.1 HA.out.2 HS.out.2.1 HS.out.2.2).mono ?_
          rintro e w2 ⟨rfl, hb⟩
          refine ⟨_, rfl, ?_⟩
          rw [HEn.out]
          have HR2 := Aside0.mk (St.below (w := wr.drew) HR.out hb)
          have ho2 := Only.of_below hb g
          have HO2 := Aside0.mk (HO.out.drew.trans ho2)
          have HB2 := Aside0.mk (R_only6 (w := wr.drew) (Kd.R_drew HB.out) HR.out (by decide) ho2)
          clear z0 z1 z2 f1 f2 hb ho2
          refine hK.out _ _ ⟨HR2.out.c0, HR2.out.c1⟩ (fun hS => ?_)
          clear hK K
          refine norm_ (a' := ?_) ?_ ?_
          rotate_left
          · simp only [Act.put, List.setIfInBounds_toArray, List.set_cons_zero, List.set_cons_succ]; rfl
          refine dpure 10 (some 36) rfl rfl (by kernel_rfl) (fun _ _ _ h => h) (by rfl) (v := ?_) (a' := ?_) ?_ ?_ ?_
          rotate_left 2
          · intro w'; go_simp; with_reducible rfl
          · simp only [Act.put, List.setIfInBounds_toArray, List.set_cons_zero, List.set_cons_succ]; rfl
          refine done_ (by kernel_rfl) ?_
          have f2 : w2.frozen? ⟨g, 2, none⟩ = false := blk_frozen HR2.out 2
          have f1 : w2.frozen? ⟨g, 1, none⟩ = false := blk_frozen HR2.out 1
          have z0 := HR2.out.c0
          have z1 := HR2.out.c1
          have z2 := HR2.out.c2
          go_wp2_with fail
          refine start_ (n := 16) (S := fun w' => w'.cell? ⟨g, 0, none⟩ = some (.string s) ∧ w'.cell? ⟨g, 1, none⟩ = some (.int .i64 at')) (ds := []) (Array.replicate 16 false) (by kernel_rfl) (by kernel_rfl) rfl ⟨z0, z1⟩ (fun hS => ?_)
          refine dpure 0 (some 43) rfl rfl (by kernel_rfl) (fun _ _ _ h => h) (by rfl) (v := ?_) (a' := ?_) ?_ ?_ ?_
          rotate_left 2
          · intro w'; go_simp; with_reducible rfl
          · simp only [Act.put, List.setIfInBounds_toArray, List.set_cons_zero, List.set_cons_succ]; rfl
          refine dpure 1 (some 44) rfl rfl (by kernel_rfl) (fun _ _ _ h => h) (by rfl) (v := ?_) (a' := ?_) ?_ ?_ ?_
          rotate_left 2
          · intro w'; go_simp; with_reducible rfl
          · simp only [Act.put, List.setIfInBounds_toArray, List.set_cons_zero, List.set_cons_succ]; rfl
          refine dpure 2 (some 45) rfl rfl (by kernel_rfl) (fun _ _ _ h => h) (by rfl) (v := ?_) (a' := ?_) ?_ ?_ ?_
          rotate_left 2
          · intro w'; go_simp; with_reducible rfl
          · simp only [Act.put, List.setIfInBounds_toArray, List.set_cons_zero, List.set_cons_succ]; rfl
          refine dtake 3 (some 46) rfl rfl (by kernel_rfl) (fun _ _ _ h => h) (by rfl) hS (v := ?_) (a' := ?_) ?_ ?_ ?_
          rotate_left 2
          · rintro w' ⟨s0,s1⟩; go_simp; with_reducible rfl
          · simp only [Act.put, List.setIfInBounds_toArray, List.set_cons_zero, List.set_cons_succ]; rfl
          refine dpure 4 (some 47) rfl rfl (by kernel_rfl) (fun _ _ _ h => h) (by rfl) (v := ?_) (a' := ?_) ?_ ?_ ?_
          rotate_left 2
          · intro w'; go_simp; with_reducible rfl
          · simp only [Act.put, List.setIfInBounds_toArray, List.set_cons_zero, List.set_cons_succ]; rfl
          refine dpure 5 (some 48) rfl rfl (by kernel_rfl) (fun _ _ _ h => h) (by rfl) (v := ?_) (a' := ?_) ?_ ?_ ?_
          rotate_left 2
          · intro w'; go_simp; with_reducible rfl
          · simp only [Act.put, List.setIfInBounds_toArray, List.set_cons_zero, List.set_cons_succ]; rfl
          refine dpure 6 (some 49) rfl rfl (by kernel_rfl) (fun _ _ _ h => h) (by rfl) (v := ?_) (a' := ?_) ?_ ?_ ?_
          rotate_left 2
          · intro w'; go_simp; with_reducible rfl
          · simp only [Act.put, List.setIfInBounds_toArray, List.set_cons_zero, List.set_cons_succ]; rfl
          refine dtake 7 (some 50) rfl rfl (by kernel_rfl) (fun _ _ _ h => h) (by rfl) hS (v := ?_) (a' := ?_) ?_ ?_ ?_
          rotate_left 2
          · rintro w' ⟨s0,s1⟩; go_simp; with_reducible rfl
          · simp only [Act.put, List.setIfInBounds_toArray, List.set_cons_zero, List.set_cons_succ]; rfl
          refine done1 8 (some 51) rfl rfl (by kernel_rfl) (by decide) (fun K hK => ?_)
          refine goes_ Try.func85 (by kernel_rfl) rfl #[.string s, .int .i64 at'] (by rfl) rfl rfl (by kernel_rfl) ?_
          refine (refBare_no H1.out _ HS.out.1 HA.out.1 HA.out.2 HS.out.2.1 HEn.out).mono ?_
          rintro e w3 ⟨rfl, hb⟩
          refine ⟨_, rfl, ?_⟩
          have HR3 := Aside0.mk (St.below (w := w2.drew) HR2.out hb)
          have ho3 := Only.of_below hb g
          have HO3 := Aside0.mk (HO2.out.drew.trans ho3)
          have HB3 := Aside0.mk (R_only6 (w := w2.drew) (Kd.R_drew HB2.out) HR2.out (by decide) ho3)
          clear z0 z1 z2 f1 f2 hb ho3
          refine hK.out _ _ ⟨HR3.out.c0, HR3.out.c1⟩ (fun hS => ?_)
          clear hK K
          refine norm_ (a' := ?_) ?_ ?_
          rotate_left
          · simp only [Act.put, List.setIfInBounds_toArray, List.set_cons_zero, List.set_cons_succ]; rfl
          refine dpure 9 (some 42) rfl rfl (by kernel_rfl) (fun _ _ _ h => h) (by rfl) (v := ?_) (a' := ?_) ?_ ?_ ?_
          rotate_left 2
          · intro w'; go_simp; with_reducible rfl
          · simp only [Act.put, List.setIfInBounds_toArray, List.set_cons_zero, List.set_cons_succ]; rfl
          refine dpure 10 (some 52) rfl rfl (by kernel_rfl) (fun _ _ _ h => h) (by rfl) (v := ?_) (a' := ?_) ?_ ?_ ?_
          rotate_left 2
          · intro w'; go_simp; with_reducible rfl
          · simp only [Act.put, List.setIfInBounds_toArray, List.set_cons_zero, List.set_cons_succ]; rfl
          refine dpure 11 (some 53) rfl rfl (by kernel_rfl) (fun _ _ _ h => h) (by rfl) (v := ?_) (a' := ?_) ?_ ?_ ?_
          rotate_left 2
          · intro w'; go_simp; with_reducible rfl
          · simp only [Act.put, List.setIfInBounds_toArray, List.set_cons_zero, List.set_cons_succ]; rfl
          refine dpure 12 (some 54) rfl rfl (by kernel_rfl) (fun _ _ _ h => h) (by rfl) (v := ?_) (a' := ?_) ?_ ?_ ?_
          rotate_left 2
          · intro w'; go_simp; with_reducible rfl
          · simp only [Act.put, List.setIfInBounds_toArray, List.set_cons_zero, List.set_cons_succ]; rfl
          refine dpure 13 (some 11) rfl rfl (by kernel_rfl) (fun _ _ _ h => h) (by rfl) (v := ?_) (a' := ?_) ?_ ?_ ?_
          rotate_left 2
          · intro w'; go_simp; with_reducible rfl
          · simp only [Act.put, List.setIfInBounds_toArray, List.set_cons_zero, List.set_cons_succ]; rfl
          refine dpure 14 (some 12) rfl rfl (by kernel_rfl) (fun _ _ _ h => h) (by rfl) (v := ?_) (a' := ?_) ?_ ?_ ?_
          rotate_left 2
          · intro w'; go_simp; with_reducible rfl
          · simp only [Act.put, List.setIfInBounds_toArray, List.set_cons_zero, List.set_cons_succ]; rfl
          refine dpure 15 (some 13) rfl rfl (by kernel_rfl) (fun _ _ _ h => h) (by rfl) (v := ?_) (a' := ?_) ?_ ?_ ?_
          rotate_left 2
          · intro w'; go_simp; with_reducible rfl
          · simp only [Act.put, List.setIfInBounds_toArray, List.set_cons_zero, List.set_cons_succ]; rfl
          refine done_ (by kernel_rfl) ?_
          have f2 : w3.frozen? ⟨g, 2, none⟩ = false := blk_frozen HR3.out 2
          have f1 : w3.frozen? ⟨g, 1, none⟩ = false := blk_frozen HR3.out 1
          have z0 := HR3.out.c0
          have z1 := HR3.out.c1
          have z2 := HR3.out.c2
          have HR5 := Aside0.mk ((HR3.out.set2 c).set1 0)
          have HO5 := Aside0.mk ((HO3.out.set 2 (.int .i64 c)).set 1 (.int .i64 0))
          have HB5 := Aside0.mk (strs_set (strs_set HB3.out HR3.out 2 (.int .i64 c)) (HR3.out.set2 c) 1 (.int .i64 0))
          go_wp2_with (((with_reducible refine gate_builtin (b := .append) (xs := #[.tmp 63, .tmp 65]) rfl ?_); at_builtin; go_must (refine appS rfl (.tmp 63) (.tmp 65) rfl rfl (by first | rfl | (go_simp; done)) HB5.out (Below.refl _ _) (fun _ _ _ => trivial) HO5.out.size HL1.out ?_; intro va wa hoa hba hga hata)); go_must (have HR4 := Aside0.mk (blk_grown HR5.out hga (Kd.R_ne HB5.out HR5.out (by decide))); have HO4 := Aside0.mk (HO5.out.of_grown hga (Kd.R_base HB5.out)); have HB4 := Aside0.mk hoa; clear hoa hba hga hata))
          go_roundg k
          case measure => omega
          case rel => exact ⟨i + 1, _, 0, c, by go_num, ⟨.inr HE.out⟩, ⟨by have := HK.out; omega⟩, ⟨by have := HL.out; rw [List.length_append, List.length_singleton]; omega⟩, HR4, HO4, HB4⟩
        | ok x =>
          obtain ⟨b, nx⟩ := x
          rw [h1] at he
          simp only [] at he
          have H1 := Lib.hid h1
          have hx := bareR_at _ h1
          have HE := Aside0.mk (show namesR s 33 en k (out ++ [strOfNums b]) nx = R ∧ 0 ≤ nx ∧ nx ≤ s.size from ⟨he, hx⟩)
          clear he h1 hx
          go_wp2_with fail
          refine start_ (n := 11) (S := fun w' => w'.cell? ⟨g, 0, none⟩ = some (.string s) ∧ w'.cell? ⟨g, 1, none⟩ = some (.int .i64 at')) (ds := []) (Array.replicate 11 false) (by kernel_rfl) (by kernel_rfl) rfl ⟨z0, z1⟩ (fun hS => ?_)
          refine dpure 0 (some 26) rfl rfl (by kernel_rfl) (fun _ _ _ h => h) (by rfl) (v := ?_) (a' := ?_) ?_ ?_ ?_
          rotate_left 2
          · intro w'; go_simp; with_reducible rfl
          · simp only [Act.put, List.setIfInBounds_toArray, List.set_cons_zero, List.set_cons_succ]; rfl
          refine dpure 1 (some 27) rfl rfl (by kernel_rfl) (fun _ _ _ h => h) (by rfl) (v := ?_) (a' := ?_) ?_ ?_ ?_
          rotate_left 2
          · intro w'; go_simp; with_reducible rfl
          · simp only [Act.put, List.setIfInBounds_toArray, List.set_cons_zero, List.set_cons_succ]; rfl
          refine dpure 2 (some 28) rfl rfl (by kernel_rfl) (fun _ _ _ h => h) (by rfl) (v := ?_) (a' := ?_) ?_ ?_ ?_
          rotate_left 2
          · intro w'; go_simp; with_reducible rfl
          · simp only [Act.put, List.setIfInBounds_toArray, List.set_cons_zero, List.set_cons_succ]; rfl
          refine dtake 3 (some 29) rfl rfl (by kernel_rfl) (fun _ _ _ h => h) (by rfl) hS (v := ?_) (a' := ?_) ?_ ?_ ?_
          rotate_left 2
          · rintro w' ⟨s0,s1⟩; go_simp; with_reducible rfl
          · simp only [Act.put, List.setIfInBounds_toArray, List.set_cons_zero, List.set_cons_succ]; rfl
          refine dpure 4 (some 30) rfl rfl (by kernel_rfl) (fun _ _ _ h => h) (by rfl) (v := ?_) (a' := ?_) ?_ ?_ ?_
          rotate_left 2
          · intro w'; go_simp; with_reducible rfl
          · simp only [Act.put, List.setIfInBounds_toArray, List.set_cons_zero, List.set_cons_succ]; rfl
          refine dpure 5 (some 31) rfl rfl (by kernel_rfl) (fun _ _ _ h => h) (by rfl) (v := ?_) (a' := ?_) ?_ ?_ ?_
          rotate_left 2
          · intro w'; go_simp; with_reducible rfl
          · simp only [Act.put, List.setIfInBounds_toArray, List.set_cons_zero, List.set_cons_succ]; rfl
          refine dpure 6 (some 32) rfl rfl (by kernel_rfl) (fun _ _ _ h => h) (by rfl) (v := ?_) (a' := ?_) ?_ ?_ ?_
          rotate_left 2
          · intro w'; go_simp; with_reducible rfl
          · simp only [Act.put, List.setIfInBounds_toArray, List.set_cons_zero, List.set_cons_succ]; rfl
          refine dtake 7 (some 33) rfl rfl (by kernel_rfl) (fun _ _ _ h => h) (by rfl) hS (v := ?_) (a' := ?_) ?_ ?_ ?_
          rotate_left 2
          · rintro w' ⟨s0,s1⟩; go_simp; with_reducible rfl
          · simp only [Act.put, List.setIfInBounds_toArray, List.set_cons_zero, List.set_cons_succ]; rfl
          refine dpure 8 (some 34) rfl rfl (by kernel_rfl) (fun _ _ _ h => h) (by rfl) (v := ?_) (a' := ?_) ?_ ?_ ?_
          rotate_left 2
          · intro w'; go_simp; with_reducible rfl
          · simp only [Act.put, List.setIfInBounds_toArray, List.set_cons_zero, List.set_cons_succ]; rfl
          refine done1 9 (some 35) rfl rfl (by kernel_rfl) (by decide) (fun K hK => ?_)
          refine goes_ Try.func84 (by kernel_rfl) rfl #[.string s, .int .i64 at', .int .i64 en] (by rfl) rfl rfl (by kernel_rfl) ?_
          refine (refEnds_calls HS.out.1 HA.out.1 HA.out.2 HS.out.2.1 HS.out.2.2).mono ?_
          rintro e w2 ⟨rfl, hb⟩
          refine ⟨_, rfl, ?_⟩
          rw [HEn.out]
          have HR2 := Aside0.mk (St.below (w := wr.drew) HR.out hb)
          have ho2 := Only.of_below hb g
          have HO2 := Aside0.mk (HO.out.drew.trans ho2)
          have HB2 := Aside0.mk (R_only6 (w := wr.drew) (Kd.R_drew HB.out) HR.out (by decide) ho2)
          clear z0 z1 z2 f1 f2 hb ho2
          refine hK.out _ _ ⟨HR2.out.c0, HR2.out.c1⟩ (fun hS => ?_)
          clear hK K
          refine norm_ (a' := ?_) ?_ ?_
          rotate_left
          · simp only [Act.put, List.setIfInBounds_toArray, List.set_cons_zero, List.set_cons_succ]; rfl
          refine dpure 10 (some 36) rfl rfl (by kernel_rfl) (fun _ _ _ h => h) (by rfl) (v := ?_) (a' := ?_) ?_ ?_ ?_
          rotate_left 2
          · intro w'; go_simp; with_reducible rfl
          · simp only [Act.put, List.setIfInBounds_toArray, List.set_cons_zero, List.set_cons_succ]; rfl
          refine done_ (by kernel_rfl) ?_
          have f2 : w2.frozen? ⟨g, 2, none⟩ = false := blk_frozen HR2.out 2
          have f1 : w2.frozen? ⟨g, 1, none⟩ = false := blk_frozen HR2.out 1
          have z0 := HR2.out.c0
          have z1 := HR2.out.c1
          have z2 := HR2.out.c2
          go_wp2_with fail
          refine start_ (n := 16) (S := fun w' => w'.cell? ⟨g, 0, none⟩ = some (.string s) ∧ w'.cell? ⟨g, 1, none⟩ = some (.int .i64 at')) (ds := []) (Array.replicate 16 false) (by kernel_rfl) (by kernel_rfl) rfl ⟨z0, z1⟩ (fun hS => ?_)
          refine dpure 0 (some 43) rfl rfl (by kernel_rfl) (fun _ _ _ h => h) (by rfl) (v := ?_) (a' := ?_) ?_ ?_ ?_
          rotate_left 2
          · intro w'; go_simp; with_reducible rfl
          · simp only [Act.put, List.setIfInBounds_toArray, List.set_cons_zero, List.set_cons_succ]; rfl
          refine dpure 1 (some 44) rfl rfl (by kernel_rfl) (fun _ _ _ h => h) (by rfl) (v := ?_) (a' := ?_) ?_ ?_ ?_
          rotate_left 2
          · intro w'; go_simp; with_reducible rfl
          · simp only [Act.put, List.setIfInBounds_toArray, List.set_cons_zero, List.set_cons_succ]; rfl
          refine dpure 2 (some 45) rfl rfl (by kernel_rfl) (fun _ _ _ h => h) (by rfl) (v := ?_) (a' := ?_) ?_ ?_ ?_
          rotate_left 2
          · intro w'; go_simp; with_reducible rfl
          · simp only [Act.put, List.setIfInBounds_toArray, List.set_cons_zero, List.set_cons_succ]; rfl
          refine dtake 3 (some 46) rfl rfl (by kernel_rfl) (fun _ _ _ h => h) (by rfl) hS (v := ?_) (a' := ?_) ?_ ?_ ?_
          rotate_left 2
          · rintro w' ⟨s0,s1⟩; go_simp; with_reducible rfl
          · simp only [Act.put, List.setIfInBounds_toArray, List.set_cons_zero, List.set_cons_succ]; rfl
          refine dpure 4 (some 47) rfl rfl (by kernel_rfl) (fun _ _ _ h => h) (by rfl) (v := ?_) (a' := ?_) ?_ ?_ ?_
          rotate_left 2
          · intro w'; go_simp; with_reducible rfl
          · simp only [Act.put, List.setIfInBounds_toArray, List.set_cons_zero, List.set_cons_succ]; rfl
          refine dpure 5 (some 48) rfl rfl (by kernel_rfl) (fun _ _ _ h => h) (by rfl) (v := ?_) (a' := ?_) ?_ ?_ ?_
          rotate_left 2
          · intro w'; go_simp; with_reducible rfl
          · simp only [Act.put, List.setIfInBounds_toArray, List.set_cons_zero, List.set_cons_succ]; rfl
          refine dpure 6 (some 49) rfl rfl (by kernel_rfl) (fun _ _ _ h => h) (by rfl) (v := ?_) (a' := ?_) ?_ ?_ ?_
          rotate_left 2
          · intro w'; go_simp; with_reducible rfl
          · simp only [Act.put, List.setIfInBounds_toArray, List.set_cons_zero, List.set_cons_succ]; rfl
          refine dtake 7 (some 50) rfl rfl (by kernel_rfl) (fun _ _ _ h => h) (by rfl) hS (v := ?_) (a' := ?_) ?_ ?_ ?_
          rotate_left 2
          · rintro w' ⟨s0,s1⟩; go_simp; with_reducible rfl
          · simp only [Act.put, List.setIfInBounds_toArray, List.set_cons_zero, List.set_cons_succ]; rfl
          refine done1 8 (some 51) rfl rfl (by kernel_rfl) (by decide) (fun K hK => ?_)
          refine goes_ Try.func85 (by kernel_rfl) rfl #[.string s, .int .i64 at'] (by rfl) rfl rfl (by kernel_rfl) ?_
          refine (refBare_yes H1.out _ HS.out.1 HA.out.1 HA.out.2 HS.out.2.1 HEn.out).mono ?_
          rintro e w3 ⟨rfl, hb⟩
          refine ⟨_, rfl, ?_⟩
          have HR3 := Aside0.mk (St.below (w := w2.drew) HR2.out hb)
          have ho3 := Only.of_below hb g
          have HO3 := Aside0.mk (HO2.out.drew.trans ho3)
          have HB3 := Aside0.mk (R_only6 (w := w2.drew) (Kd.R_drew HB2.out) HR2.out (by decide) ho3)
          clear z0 z1 z2 f1 f2 hb ho3
          refine hK.out _ _ ⟨HR3.out.c0, HR3.out.c1⟩ (fun hS => ?_)
          clear hK K
          refine norm_ (a' := ?_) ?_ ?_
          rotate_left
          · simp only [Act.put, List.setIfInBounds_toArray, List.set_cons_zero, List.set_cons_succ]; rfl
          refine dpure 9 (some 42) rfl rfl (by kernel_rfl) (fun _ _ _ h => h) (by rfl) (v := ?_) (a' := ?_) ?_ ?_ ?_
          rotate_left 2
          · intro w'; go_simp; with_reducible rfl
          · simp only [Act.put, List.setIfInBounds_toArray, List.set_cons_zero, List.set_cons_succ]; rfl
          refine dpure 10 (some 52) rfl rfl (by kernel_rfl) (fun _ _ _ h => h) (by rfl) (v := ?_) (a' := ?_) ?_ ?_ ?_
          rotate_left 2
          · intro w'; go_simp; with_reducible rfl
          · simp only [Act.put, List.setIfInBounds_toArray, List.set_cons_zero, List.set_cons_succ]; rfl
          refine dpure 11 (some 53) rfl rfl (by kernel_rfl) (fun _ _ _ h => h) (by rfl) (v := ?_) (a' := ?_) ?_ ?_ ?_
          rotate_left 2
          · intro w'; go_simp; with_reducible rfl
          · simp only [Act.put, List.setIfInBounds_toArray, List.set_cons_zero, List.set_cons_succ]; rfl
          refine dpure 12 (some 54) rfl rfl (by kernel_rfl) (fun _ _ _ h => h) (by rfl) (v := ?_) (a' := ?_) ?_ ?_ ?_
          rotate_left 2
          · intro w'; go_simp; with_reducible rfl
          · simp only [Act.put, List.setIfInBounds_toArray, List.set_cons_zero, List.set_cons_succ]; rfl
          refine dpure 13 (some 11) rfl rfl (by kernel_rfl) (fun _ _ _ h => h) (by rfl) (v := ?_) (a' := ?_) ?_ ?_ ?_
          rotate_left 2
          · intro w'; go_simp; with_reducible rfl
          · simp only [Act.put, List.setIfInBounds_toArray, List.set_cons_zero, List.set_cons_succ]; rfl
          refine dpure 14 (some 12) rfl rfl (by kernel_rfl) (fun _ _ _ h => h) (by rfl) (v := ?_) (a' := ?_) ?_ ?_ ?_
          rotate_left 2
          · intro w'; go_simp; with_reducible rfl
          · simp only [Act.put, List.setIfInBounds_toArray, List.set_cons_zero, List.set_cons_succ]; rfl
          refine dpure 15 (some 13) rfl rfl (by kernel_rfl) (fun _ _ _ h => h) (by rfl) (v := ?_) (a' := ?_) ?_ ?_ ?_
          rotate_left 2
          · intro w'; go_simp; with_reducible rfl
          · simp only [Act.put, List.setIfInBounds_toArray, List.set_cons_zero, List.set_cons_succ]; rfl
          refine done_ (by kernel_rfl) ?_
          have f2 : w3.frozen? ⟨g, 2, none⟩ = false := blk_frozen HR3.out 2
          have f1 : w3.frozen? ⟨g, 1, none⟩ = false := blk_frozen HR3.out 1
          have z0 := HR3.out.c0
          have z1 := HR3.out.c1
          have z2 := HR3.out.c2
          have HR5 := Aside0.mk ((HR3.out.set2 0).set1 nx)
          have HO5 := Aside0.mk ((HO3.out.set 2 (.int .i64 0)).set 1 (.int .i64 nx))
          have HB5 := Aside0.mk (strs_set (strs_set HB3.out HR3.out 2 (.int .i64 0)) (HR3.out.set2 0) 1 (.int .i64 nx))
          go_wp2_with (((with_reducible refine gate_builtin (b := .append) (xs := #[.tmp 63, .tmp 65]) rfl ?_); at_builtin; go_must (refine appS rfl (.tmp 63) (.tmp 65) rfl rfl (by first | rfl | (go_simp; done)) HB5.out (Below.refl _ _) (fun _ _ _ => trivial) HO5.out.size HL1.out ?_; intro va wa hoa hba hga hata)); go_must (have HR4 := Aside0.mk (blk_grown HR5.out hga (Kd.R_ne HB5.out HR5.out (by decide))); have HO4 := Aside0.mk (HO5.out.of_grown hga (Kd.R_base HB5.out)); have HB4 := Aside0.mk hoa; clear hoa hba hga hata))
          go_roundg k
          case measure => omega
          case rel => exact ⟨i + 1, _, nx, 0, by go_num, ⟨.inl ⟨rfl, HE.out⟩⟩, ⟨by have := HK.out; omega⟩, ⟨by have := HL.out; rw [List.length_append, List.length_singleton]; omega⟩, HR4, HO4, HB4⟩
      · rw [if_neg c2] at he
        have e2 : (kind == 33) = false := beq_eq_false_iff_ne.mpr c2
        clear c2
        cases h1 : nameAt s at' with
        | error c =>
          rw [h1] at he
          have H1 := Lib.hid h1
          have HE := Aside0.mk (show c ≠ 0 ∧ R = .error c from ⟨nameR_err _ h1, he.symm⟩)
          clear he h1
          go_wp2_with fail
          refine start_ (n := 11) (S := fun w' => w'.cell? ⟨g, 0, none⟩ = some (.string s) ∧ w'.cell? ⟨g, 1, none⟩ = some (.int .i64 at')) (ds := []) (Array.replicate 11 false) (by kernel_rfl) (by kernel_rfl) rfl ⟨z0, z1⟩ (fun hS => ?_)
          refine dpure 0 (some 26) rfl rfl (by kernel_rfl) (fun _ _ _ h => h) (by rfl) (v := ?_) (a' := ?_) ?_ ?_ ?_
          rotate_left 2
          · intro w'; go_simp; with_reducible rfl
          · simp only [Act.put, List.setIfInBounds_toArray, List.set_cons_zero, List.set_cons_succ]; rfl
          refine dpure 1 (some 27) rfl rfl (by kernel_rfl) (fun _ _ _ h => h) (by rfl) (v := ?_) (a' := ?_) ?_ ?_ ?_
          rotate_left 2
          · intro w'; go_simp; with_reducible rfl
          · simp only [Act.put, List.setIfInBounds_toArray, List.set_cons_zero, List.set_cons_succ]; rfl
          refine dpure 2 (some 28) rfl rfl (by kernel_rfl) (fun _ _ _ h => h) (by rfl) (v := ?_) (a' := ?_) ?_ ?_ ?_
          rotate_left 2
          · intro w'; go_simp; with_reducible rfl
          · simp only [Act.put, List.setIfInBounds_toArray, List.set_cons_zero, List.set_cons_succ]; rfl
          refine dtake 3 (some 29) rfl rfl (by kernel_rfl) (fun _ _ _ h => h) (by rfl) hS (v := ?_) (a' := ?_) ?_ ?_ ?_
          rotate_left 2
          · rintro w' ⟨s0,s1⟩; go_simp; with_reducible rfl
          · simp only [Act.put, List.setIfInBounds_toArray, List.set_cons_zero, List.set_cons_succ]; rfl
          refine dpure 4 (some 30) rfl rfl (by kernel_rfl) (fun _ _ _ h => h) (by rfl) (v := ?_) (a' := ?_) ?_ ?_ ?_
          rotate_left 2
          · intro w'; go_simp; with_reducible rfl
          · simp only [Act.put, List.setIfInBounds_toArray, List.set_cons_zero, List.set_cons_succ]; rfl
          refine dpure 5 (some 31) rfl rfl (by kernel_rfl) (fun _ _ _ h => h) (by rfl) (v := ?_) (a' := ?_) ?_ ?_ ?_
          rotate_left 2
          · intro w'; go_simp; with_reducible rfl
          · simp only [Act.put, List.setIfInBounds_toArray, List.set_cons_zero, List.set_cons_succ]; rfl
          refine dpure 6 (some 32) rfl rfl (by kernel_rfl) (fun _ _ _ h => h) (by rfl) (v := ?_) (a' := ?_) ?_ ?_ ?_
          rotate_left 2
          · intro w'; go_simp; with_reducible rfl
          · simp only [Act.put, List.setIfInBounds_toArray, List.set_cons_zero, List.set_cons_succ]; rfl
          refine dtake 7 (some 33) rfl rfl (by kernel_rfl) (fun _ _ _ h => h) (by rfl) hS (v := ?_) (a' := ?_) ?_ ?_ ?_
          rotate_left 2
          · rintro w' ⟨s0,s1⟩; go_simp; with_reducible rfl
          · simp only [Act.put, List.setIfInBounds_toArray, List.set_cons_zero, List.set_cons_succ]; rfl
          refine dpure 8 (some 34) rfl rfl (by kernel_rfl) (fun _ _ _ h => h) (by rfl) (v := ?_) (a' := ?_) ?_ ?_ ?_
          rotate_left 2
          · intro w'; go_simp; with_reducible rfl
          · simp only [Act.put, List.setIfInBounds_toArray, List.set_cons_zero, List.set_cons_succ]; rfl
          refine done1 9 (some 35) rfl rfl (by kernel_rfl) (by decide) (fun K hK => ?_)
          refine goes_ Try.func84 (by kernel_rfl) rfl #[.string s, .int .i64 at', .int .i64 en] (by rfl) rfl rfl (by kernel_rfl) ?_
          refine (refEnds_calls HS.out.1 HA.out.1 HA.out.2 HS.out.2.1 HS.out.2.2).mono ?_
          rintro e w2 ⟨rfl, hb⟩
          refine ⟨_, rfl, ?_⟩
          rw [HEn.out]
          have HR2 := Aside0.mk (St.below (w := wr.drew) HR.out hb)
          have ho2 := Only.of_below hb g
          have HO2 := Aside0.mk (HO.out.drew.trans ho2)
          have HB2 := Aside0.mk (R_only6 (w := wr.drew) (Kd.R_drew HB.out) HR.out (by decide) ho2)
          clear z0 z1 z2 f1 f2 hb ho2
          refine hK.out _ _ ⟨HR2.out.c0, HR2.out.c1⟩ (fun hS => ?_)
          clear hK K
          refine norm_ (a' := ?_) ?_ ?_
          rotate_left
          · simp only [Act.put, List.setIfInBounds_toArray, List.set_cons_zero, List.set_cons_succ]; rfl
          refine dpure 10 (some 36) rfl rfl (by kernel_rfl) (fun _ _ _ h => h) (by rfl) (v := ?_) (a' := ?_) ?_ ?_ ?_
          rotate_left 2
          · intro w'; go_simp; with_reducible rfl
          · simp only [Act.put, List.setIfInBounds_toArray, List.set_cons_zero, List.set_cons_succ]; rfl
          refine done_ (by kernel_rfl) ?_
          have f2 : w2.frozen? ⟨g, 2, none⟩ = false := blk_frozen HR2.out 2
          have f1 : w2.frozen? ⟨g, 1, none⟩ = false := blk_frozen HR2.out 1
          have z0 := HR2.out.c0
          have z1 := HR2.out.c1
          have z2 := HR2.out.c2
          go_wp2_with fail
          refine (name6_no HR2.out HS.out.1 HA.out.1 HA.out.2 H1.out).mono ?_
          rintro r w3 ⟨rfl, hr, ho⟩
          have HR3 := Aside0.mk hr
          have HO3 := Aside0.mk (HO2.out.trans ho)
          have HB3 := Aside0.mk (R_only6 HB2.out HR2.out (by decide) ho)
          clear hr ho z0 z1 z2 f1 f2
          go_wp2_with (((with_reducible refine gate_builtin (b := .append) (xs := #[.tmp 67, .tmp 70]) rfl ?_); at_builtin; go_must (refine appS rfl (.tmp 67) (.tmp 70) rfl rfl (by first | rfl | (go_simp; done)) HB3.out (Below.refl _ _) (fun _ _ _ => trivial) HO3.out.size HL1.out ?_; intro va wa hoa hba hga hata)); go_must (have HR4 := Aside0.mk (blk_grown HR3.out hga (Kd.R_ne HB3.out HR3.out (by decide))); have HO4 := Aside0.mk (HO3.out.of_grown hga (Kd.R_base HB3.out)); have HB4 := Aside0.mk hoa; clear hoa hba hga hata))
          go_roundg k
          case measure => omega
          case rel => exact ⟨i + 1, _, 0, c, by go_num, ⟨.inr HE.out⟩, ⟨by have := HK.out; omega⟩, ⟨by have := HL.out; rw [List.length_append, List.length_singleton]; omega⟩, HR4, HO4, HB4⟩
        | ok x =>
          obtain ⟨b, nx⟩ := x
          rw [h1] at he
          simp only [] at he
          have H1 := Lib.hid h1
          have hx := nameR_at _ h1 (by omega)
          have HE := Aside0.mk (show namesR s kind en k (out ++ [strOfNums b]) nx = R ∧ 0 ≤ nx ∧ nx ≤ s.size from ⟨he, hx⟩)
          clear he h1 hx
          go_wp2_with fail
          refine start_ (n := 11) (S := fun w' => w'.cell? ⟨g, 0, none⟩ = some (.string s) ∧ w'.cell? ⟨g, 1, none⟩ = some (.int .i64 at')) (ds := []) (Array.replicate 11 false) (by kernel_rfl) (by kernel_rfl) rfl ⟨z0, z1⟩ (fun hS => ?_)
          refine dpure 0 (some 26) rfl rfl (by kernel_rfl) (fun _ _ _ h => h) (by rfl) (v := ?_) (a' := ?_) ?_ ?_ ?_
          rotate_left 2
          · intro w'; go_simp; with_reducible rfl
          · simp only [Act.put, List.setIfInBounds_toArray, List.set_cons_zero, List.set_cons_succ]; rfl
          refine dpure 1 (some 27) rfl rfl (by kernel_rfl) (fun _ _ _ h => h) (by rfl) (v := ?_) (a' := ?_) ?_ ?_ ?_
          rotate_left 2
          · intro w'; go_simp; with_reducible rfl
          · simp only [Act.put, List.setIfInBounds_toArray, List.set_cons_zero, List.set_cons_succ]; rfl
          refine dpure 2 (some 28) rfl rfl (by kernel_rfl) (fun _ _ _ h => h) (by rfl) (v := ?_) (a' := ?_) ?_ ?_ ?_
          rotate_left 2
          · intro w'; go_simp; with_reducible rfl
          · simp only [Act.put, List.setIfInBounds_toArray, List.set_cons_zero, List.set_cons_succ]; rfl
          refine dtake 3 (some 29) rfl rfl (by kernel_rfl) (fun _ _ _ h => h) (by rfl) hS (v := ?_) (a' := ?_) ?_ ?_ ?_
          rotate_left 2
          · rintro w' ⟨s0,s1⟩; go_simp; with_reducible rfl
          · simp only [Act.put, List.setIfInBounds_toArray, List.set_cons_zero, List.set_cons_succ]; rfl
          refine dpure 4 (some 30) rfl rfl (by kernel_rfl) (fun _ _ _ h => h) (by rfl) (v := ?_) (a' := ?_) ?_ ?_ ?_
          rotate_left 2
          · intro w'; go_simp; with_reducible rfl
          · simp only [Act.put, List.setIfInBounds_toArray, List.set_cons_zero, List.set_cons_succ]; rfl
          refine dpure 5 (some 31) rfl rfl (by kernel_rfl) (fun _ _ _ h => h) (by rfl) (v := ?_) (a' := ?_) ?_ ?_ ?_
          rotate_left 2
          · intro w'; go_simp; with_reducible rfl
          · simp only [Act.put, List.setIfInBounds_toArray, List.set_cons_zero, List.set_cons_succ]; rfl
          refine dpure 6 (some 32) rfl rfl (by kernel_rfl) (fun _ _ _ h => h) (by rfl) (v := ?_) (a' := ?_) ?_ ?_ ?_
          rotate_left 2
          · intro w'; go_simp; with_reducible rfl
          · simp only [Act.put, List.setIfInBounds_toArray, List.set_cons_zero, List.set_cons_succ]; rfl
          refine dtake 7 (some 33) rfl rfl (by kernel_rfl) (fun _ _ _ h => h) (by rfl) hS (v := ?_) (a' := ?_) ?_ ?_ ?_
          rotate_left 2
          · rintro w' ⟨s0,s1⟩; go_simp; with_reducible rfl
          · simp only [Act.put, List.setIfInBounds_toArray, List.set_cons_zero, List.set_cons_succ]; rfl
          refine dpure 8 (some 34) rfl rfl (by kernel_rfl) (fun _ _ _ h => h) (by rfl) (v := ?_) (a' := ?_) ?_ ?_ ?_
          rotate_left 2
          · intro w'; go_simp; with_reducible rfl
          · simp only [Act.put, List.setIfInBounds_toArray, List.set_cons_zero, List.set_cons_succ]; rfl
          refine done1 9 (some 35) rfl rfl (by kernel_rfl) (by decide) (fun K hK => ?_)
          refine goes_ Try.func84 (by kernel_rfl) rfl #[.string s, .int .i64 at', .int .i64 en] (by rfl) rfl rfl (by kernel_rfl) ?_
          refine (refEnds_calls HS.out.1 HA.out.1 HA.out.2 HS.out.2.1 HS.out.2.2).mono ?_
          rintro e w2 ⟨rfl, hb⟩
          refine ⟨_, rfl, ?_⟩
          rw [HEn.out]
          have HR2 := Aside0.mk (St.below (w := wr.drew) HR.out hb)
          have ho2 := Only.of_below hb g
          have HO2 := Aside0.mk (HO.out.drew.trans ho2)
          have HB2 := Aside0.mk (R_only6 (w := wr.drew) (Kd.R_drew HB.out) HR.out (by decide) ho2)
          clear z0 z1 z2 f1 f2 hb ho2
          refine hK.out _ _ ⟨HR2.out.c0, HR2.out.c1⟩ (fun hS => ?_)
          clear hK K
          refine norm_ (a' := ?_) ?_ ?_
          rotate_left
          · simp only [Act.put, List.setIfInBounds_toArray, List.set_cons_zero, List.set_cons_succ]; rfl
          refine dpure 10 (some 36) rfl rfl (by kernel_rfl) (fun _ _ _ h => h) (by rfl) (v := ?_) (a' := ?_) ?_ ?_ ?_
          rotate_left 2
          · intro w'; go_simp; with_reducible rfl
          · simp only [Act.put, List.setIfInBounds_toArray, List.set_cons_zero, List.set_cons_succ]; rfl
          refine done_ (by kernel_rfl) ?_
          have f2 : w2.frozen? ⟨g, 2, none⟩ = false := blk_frozen HR2.out 2
          have f1 : w2.frozen? ⟨g, 1, none⟩ = false := blk_frozen HR2.out 1
          have z0 := HR2.out.c0
          have z1 := HR2.out.c1
          have z2 := HR2.out.c2
          go_wp2_with fail
          refine (name6_yes HR2.out HS.out.1 HA.out.1 HA.out.2 H1.out).mono ?_
          rintro r w3 ⟨rfl, hr, ho⟩
          have HR3 := Aside0.mk hr
          have HO3 := Aside0.mk (HO2.out.trans ho)
          have HB3 := Aside0.mk (R_only6 HB2.out HR2.out (by decide) ho)
          clear hr ho z0 z1 z2 f1 f2
          go_wp2_with (((with_reducible refine gate_builtin (b := .append) (xs := #[.tmp 67, .tmp 70]) rfl ?_); at_builtin; go_must (refine appS rfl (.tmp 67) (.tmp 70) rfl rfl (by first | rfl | (go_simp; done)) HB3.out (Below.refl _ _) (fun _ _ _ => trivial) HO3.out.size HL1.out ?_; intro va wa hoa hba hga hata)); go_must (have HR4 := Aside0.mk (blk_grown HR3.out hga (Kd.R_ne HB3.out HR3.out (by decide))); have HO4 := Aside0.mk (HO3.out.of_grown hga (Kd.R_base HB3.out)); have HB4 := Aside0.mk hoa; clear hoa hba hga hata))
          go_roundg k
          case measure => omega
          case rel => exact ⟨i + 1, _, nx, 0, by go_num, ⟨.inl ⟨rfl, HE.out⟩⟩, ⟨by have := HK.out; omega⟩, ⟨by have := HL.out; rw [List.length_append, List.length_singleton]; omega⟩, HR4, HO4, HB4⟩
end Go.Proofs.Ytbbeikdbioelgaa.M
set_option linter.unusedVariables false
set_option linter.unusedSimpArgs false
namespace Go.Proofs.Ytbbeikdbioelgaa.M
open Go.RowKit Go.Maps Go.Proofs.YtbbeikdbioelgaaW.PrintWords Go.Proofs.YtbbeikdbioelgaaW.PrintLast Go.Proofs.YtbbeikdbioelgaaW.PrintMore
attribute [local go_sem] max2_int min2_int max_two min_two max_three min_three max_four min_four
attribute [local go_sem ↓] Go.wp_at_zero Go.wp_at_succ
set_option maxHeartbeats 2000000 in
set_option maxRecDepth 100000 in
theorem numbers6_off {w : World} {g : Nat} {s : ByteArray} {a e en z : Int} {count : Nat} (h : St w g s a e) (he : e ≠ 0) (hc : count ≤ 10) :
    Calls Try.prog 81 #[.pointer (some ⟨g, 0, none⟩), .int .i64 count, .int .i64 z, .int .i64 en] w fun r w' => r = .returned (.slice none 0 0) ∧ St w' g s a e ∧ Only g w w' := by
  have HR := Aside0.mk h
  have HO := Aside0.mk (Only.refl g w)
  have e1 : (e == 0) = false := beq_eq_false_iff_ne.mpr he
  have z2 := h.c2
  have p1 : (count : Int) ≤ 10 := by omega
  clear h he hc
  go_enter Try.func81, Try.ntmps81
  go_wp2_with fail
  go_loopg [9, 10] 1 (fun kq v9 v10 w' => v9 = .slice none 0 0 ∧ v10 = .int .i64 0 ∧ Aside0 (kq = 1) ∧ w = w')
  case atStart => exact ⟨rfl, rfl, ⟨rfl⟩, rfl⟩
  case round =>
    obtain ⟨rfl, rfl, HK, rfl⟩ := hrel
    by_cases hc : count = 0
    · subst hc
      go_wp2_with fail
      go_ret
      exact ⟨rfl, HR.out, HO.out⟩
    · have q1 : (0 : Int) < (count : Int) := by omega
      clear hc
      go_wp2_with fail
      go_ret
      exact ⟨rfl, HR.out, HO.out⟩
set_option maxHeartbeats 2000000 in
set_option maxRecDepth 100000 in
theorem names6_off {w : World} {g : Nat} {s : ByteArray} {a e en kind : Int} {count : Nat} (h : St w g s a e) (he : e ≠ 0) (hc : count ≤ 10) :
    Calls Try.prog 82 #[.pointer (some ⟨g, 0, none⟩), .int .u16 kind, .int .i64 count, .int .i64 en] w fun r w' => r = .returned (.slice none 0 0) ∧ St w' g s a e ∧ Only g w w' := by
  have HR := Aside0.mk h
  have HO := Aside0.mk (Only.refl g w)
  have e1 : (e == 0) = false := beq_eq_false_iff_ne.mpr he
  have z2 := h.c2
  have p1 : (count : Int) ≤ 10 := by omega
  clear h he hc
  go_enter Try.func82, Try.ntmps82
  go_wp2_with fail
  go_loopg [9, 10] 1 (fun kq v9 v10 w' => v9 = .slice none 0 0 ∧ v10 = .int .i64 0 ∧ Aside0 (kq = 1) ∧ w = w')
  case atStart => exact ⟨rfl, rfl, ⟨rfl⟩, rfl⟩
  case round =>
    obtain ⟨rfl, rfl, HK, rfl⟩ := hrel
    by_cases hc : count = 0
    · subst hc
      go_wp2_with fail
      go_ret
      exact ⟨rfl, HR.out, HO.out⟩
    · have q1 : (0 : Int) < (count : Int) := by omega
      clear hc
      go_wp2_with fail
      go_ret
      exact ⟨rfl, HR.out, HO.out⟩
end Go.Proofs.Ytbbeikdbioelgaa.M
set_option linter.unusedVariables false
set_option linter.unusedSimpArgs false
namespace Go.Proofs.Ytbbeikdbioelgaa.M
open Go.RowKit Go.Maps Go.Proofs.YtbbeikdbioelgaaW.PrintWords Go.Proofs.YtbbeikdbioelgaaW.PrintLast Go.Proofs.YtbbeikdbioelgaaW.PrintMore
/-- A read behind what went before: its error stays. -/
def after6 {α : Type} (e : Int) (R : Except Int (α × Int)) : Except Int (α × Int) := if e = 0 then R else .error e
theorem after6_ok {α : Type} (R : Except Int (α × Int)) : after6 0 R = R := if_pos rfl
theorem after6_err {α : Type} {e : Int} (he : e ≠ 0) (R : Except Int (α × Int)) : after6 e R = .error e := if_neg he
def numR (s : ByteArray) (a z : Int) : Except Int (Int × Int) := match getF s a z with
  | none => .error 2
  | some t => .ok (t, a + z)
def txtR (s : ByteArray) (a : Int) : Except Int (ByteArray × Int) := match nameAt s a with
  | .error c => .error c
  | .ok (b, nx) => .ok (strOfNums b, nx)
def TxtP (x : ByteArray) (v : Value) (w : World) : Prop := v = .string x ∧ x.size ≤ 255
theorem numbers6_any {w : World} {g : Nat} {s : ByteArray} {a e en : Int} {count z : Nat} (h : St w g s a e) (hs : s.size ≤ 1000000) (h0 : e = 0 → 0 ≤ a ∧ a ≤ s.size) (he : en ≤ s.size) (he0 : 0 ≤ en) (hc : count ≤ 10) (hz : z = 2 ∨ z = 4) :
    Calls Try.prog 81 #[.pointer (some ⟨g, 0, none⟩), .int .i64 count, .int .i64 z, .int .i64 en] w fun r w' => Ends6 (NumsP w.heap.size) (after6 e (numsR s z en count [] a)) w g s r w' := by
  by_cases c : e = 0
  · subst c
    rw [after6_ok]
    exact numbers6_calls h hs (h0 rfl).1 (h0 rfl).2 he he0 hc hz
  · rw [after6_err c]
    exact (numbers6_off h c hc).mono fun r w' ⟨h1, h2, h3⟩ => by rw [h1]; exact Ends6.err (x := []) h3 (Kd.R_nil _ _ _ _ _) h2 rfl c
theorem names6_any {w : World} {g : Nat} {s : ByteArray} {a e en kind : Int} {count : Nat} (h : St w g s a e) (hs : s.size ≤ 1000000) (h0 : e = 0 → 0 ≤ a ∧ a ≤ s.size) (he : en ≤ s.size) (he0 : 0 ≤ en) (hc : count ≤ 10) :
    Calls Try.prog 82 #[.pointer (some ⟨g, 0, none⟩), .int .u16 kind, .int .i64 count, .int .i64 en] w fun r w' => Ends6 (StrsP w.heap.size) (after6 e (namesR s kind en count [] a)) w g s r w' := by
  by_cases c : e = 0
  · subst c
    rw [after6_ok]
    exact names6_calls h hs (h0 rfl).1 (h0 rfl).2 he he0 hc
  · rw [after6_err c]
    exact (names6_off h c hc).mono fun r w' ⟨h1, h2, h3⟩ => by rw [h1]; exact Ends6.err (x := []) h3 (Kd.R_nil _ _ _ _ _) h2 rfl c
theorem name6_any {w : World} {g : Nat} {s : ByteArray} {a e : Int} (h : St w g s a e) (hs : s.size ≤ 1000000) (h0 : e = 0 → 0 ≤ a ∧ a ≤ s.size) :
    Calls Try.prog 49 #[.pointer (some ⟨g, 0, none⟩)] w fun r w' => Ends6 TxtP (after6 e (txtR s a)) w g s r w' := by
  have hz : (⟨#[]⟩ : ByteArray).size ≤ 255 := by decide
  by_cases c : e = 0
  · subst c
    rw [after6_ok]
    unfold txtR
    cases h1 : nameAt s a with
    | error d => exact (name6_no h hs (h0 rfl).1 (h0 rfl).2 h1).mono fun r w' ⟨k1, k2, k3⟩ => by rw [k1]; exact Ends6.err (x := ⟨#[]⟩) k3 ⟨rfl, hz⟩ k2 rfl (nameR_err _ h1)
    | ok x =>
      obtain ⟨b, nx⟩ := x
      exact (name6_yes h hs (h0 rfl).1 (h0 rfl).2 h1).mono fun r w' ⟨k1, k2, k3⟩ => by rw [k1]; exact Ends6.ok (x := strOfNums b) k3 ⟨rfl, name_len h1⟩ k2 rfl
  · rw [after6_err c]
    exact (name6_off h c).mono fun r w' ⟨h1, h2, h3⟩ => by rw [h1]; exact Ends6.err (x := ⟨#[]⟩) h3 ⟨rfl, hz⟩ h2 rfl c
end Go.Proofs.Ytbbeikdbioelgaa.M
