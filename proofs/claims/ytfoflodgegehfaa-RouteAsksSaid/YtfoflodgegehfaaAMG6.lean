/- Joined texts: walks and plain laws. -/
import Derived.Test.YtfoflodgegehfaaAMG5
import Derived.Test.YtfoflodgegehfaaAMG3
import Derived.Test.YtfoflodgegehfaaAMG1
import Derived.Test.YtfoflodgegehfaaAMG4
set_option linter.unusedVariables false
set_option linter.unusedSimpArgs false
namespace Go.Proofs.Ytfoflodgegehfaa.M
open Go.RowKit Go.Maps Go.Proofs.YtfoflodgegehfaaW.PrintWords Go.Proofs.YtfoflodgegehfaaW.PrintLast Go.Proofs.YtfoflodgegehfaaW.PrintMore
attribute [local go_sem] max2_int min2_int max_two min_two max_three min_three max_four min_four
set_option maxHeartbeats 4000000 in
set_option maxRecDepth 100000 in
theorem refEnds_calls {w : World} {s : ByteArray} {a en : Int} (hs : s.size ≤ 1000000) (h0 : 0 ≤ a) (ha : a ≤ s.size) (he : en ≤ s.size) (he0 : 0 ≤ en) :
    Calls Try.prog 84 #[.string s, .int .i64 a, .int .i64 en] w fun e w' => e = .returned (.bool (endsF s a en)) ∧ Below w.heap.size w w' := by
  obtain ⟨R, hR⟩ : ∃ R, endsF s a en = R := ⟨_, rfl⟩
  rw [hR]
  have HE := Aside0.mk hR
  have HB := Aside0.mk (Below.refl w.heap.size w)
  have p1 : (s.size : Int) ≤ 1000000 := by omega
  have HI := Lib.hid (show 0 ≤ en ∧ en ≤ s.size from ⟨he0, he⟩)
  have HA := Lib.hid (show 0 ≤ a ∧ a ≤ s.size + 256 by omega)
  clear hR hs h0 ha
  go_enter Try.func84, Try.ntmps84
  go_wp2_with fail
  go_loopg [1] ((en - a).toNat + 1) (fun kq v5 w' => ∃ at' : Int, v5 = .int .i64 at' ∧ Aside0 (endsR kq s at' en = R) ∧ Aside0 ((en - at').toNat < kq) ∧ Aside0 (0 ≤ at' ∧ at' ≤ s.size + 256) ∧ Aside0 (Below w.heap.size w w'))
  case atStart => exact ⟨a, rfl, HE, ⟨Nat.lt_succ_self _⟩, ⟨HA.out⟩, HB⟩
  case round =>
    clear HE HB HA
    obtain ⟨at', rfl, HE, HK, HA, HB⟩ := hrel
    obtain ⟨k, rfl⟩ : ∃ k, gk = k + 1 := ⟨gk - 1, by have := HK.out; omega⟩
    have he := HE.out
    unfold endsR at he
    clear HE
    obtain ⟨a0, a1⟩ := HA.out
    by_cases c1 : at' < en
    · rw [if_pos c1] at he
      have d1 : decide (at' < en) = true := decide_eq_true c1
      have hlt : at'.toNat < s.size := by have := HI.out; omega
      have q1 : at' < (s.size : Int) := by have := HI.out; omega
      have q8 : en ≤ 1000000 := by have := HI.out; omega
      have hx := nb_at s at'.toNat
      have hn := nb_lt s at'.toNat
      obtain ⟨n, hnb⟩ : ∃ n, nb s at'.toNat = n := ⟨_, rfl⟩
      rw [hnb] at hx hn he
      have hN := Lib.hid hn
      have hC := Lib.hid c1
      clear hnb c1
      by_cases c2 : n = 0
      · subst c2
        rw [if_pos rfl] at he
        subst he
        go_wp2_with fail
        go_ret
        exact ⟨rfl, HB.out⟩
      rw [if_neg c2] at he
      have e2 : ((n : Int) == 0) = false := beq_eq_false_iff_ne.mpr (by omega)
      have q3 : (n : Int) ≤ 255 := by omega
      clear c2
      by_cases c3 : 191 < n
      · rw [if_pos c3] at he
        have d3 : decide ((192 : Int) ≤ (n : Int)) = true := decide_eq_true (by omega)
        have d9 : decide (192 ≤ n) = true := decide_eq_true (by omega)
        have HE := Lib.hid (show decide (2 ≤ en - at') = R by rw [← he]; exact decide_eq_decide.mpr (by omega))
        clear he c3
        go_wp2_with fail
        go_ret
        exact ⟨by rw [← HE.out]; rfl, HB.out⟩
      rw [if_neg c3] at he
      have d3 : decide ((192 : Int) ≤ (n : Int)) = false := decide_eq_false (by omega)
      have d9 : decide (192 ≤ n) = false := decide_eq_false (by omega)
      clear c3
      by_cases c4 : 63 < n
      · rw [if_pos c4] at he
        subst he
        have d4 : decide ((64 : Int) ≤ (n : Int)) = true := decide_eq_true (by omega)
        have d10 : decide (64 ≤ n) = true := decide_eq_true (by omega)
        clear c4
        go_wp2_with fail
        go_ret
        exact ⟨rfl, HB.out⟩
      rw [if_neg c4] at he
      have HE := Aside0.mk (show endsR k s (at' + (n : Int) + 1) en = R by rw [← he]; congr 1; omega)
      have d4 : decide ((64 : Int) ≤ (n : Int)) = false := decide_eq_false (by omega)
      have d10 : decide (64 ≤ n) = false := decide_eq_false (by omega)
      clear c4 he
      go_wp2_with fail
      go_roundg k
      case measure => omega
      case rel => exact ⟨at' + (n : Int) + 1, rfl, HE, ⟨by have := HK.out; have := hC.out; omega⟩, ⟨by have := hN.out; omega⟩, HB⟩
    · rw [if_neg c1] at he
      subst he
      have d1 : decide (at' < en) = false := decide_eq_false c1
      clear c1
      go_wp2_with fail
      go_ret
      exact ⟨rfl, HB.out⟩
theorem getF_nb {s : ByteArray} {a n : Int} (h : getF s a 1 = some n) : n = (nb s a.toNat : Int) := by
  have h1 := get1_at h
  have g := get1 h
  have hl' : a.toNat < s.size := by omega
  have hb : (bytesOf s)[a.toNat]? = some (nb s a.toNat : Int) := by
    unfold nb
    rw [dif_pos hl']
    simp [bytesOf]
    exact ⟨_, Array.getElem?_eq_getElem (show a.toNat < s.data.size from hl'), rfl⟩
  rw [h1] at hb
  exact Option.some.inj hb
set_option maxHeartbeats 4000000 in
set_option maxRecDepth 100000 in
theorem refBare_calls (s : ByteArray) (a en : Int) (w : World) (hs : s.size ≤ 1000000) (h0 : 0 ≤ a) (ha : a ≤ s.size) (he : en ≤ s.size) (hen : endsF s a en = true) :
    Calls Try.prog 85 #[.string s, .int .i64 a] w fun e w' => e = nameT (bareAt s a) ∧ Below w.heap.size w w' := by
  obtain ⟨R, hR⟩ : ∃ R, bareAt s a = R := ⟨_, rfl⟩
  rw [hR]
  have HE := Aside0.mk hR
  have HN := Aside0.mk (show ∃ K, endsR K s a en = true from ⟨_, hen⟩)
  have HEn := Lib.hid he
  have HS := Lib.hid hs
  have HB := Aside0.mk (Below.refl w.heap.size w)
  clear hR hen he
  go_enter Try.func85, Try.ntmps85
  go_wp2_with fail
  go_loopg [1, 7] 257 (fun kq v1 v7 w' => ∃ (b : List Int) (at' : Int) (o : ByteArray), v1 = .int .i64 at' ∧ v7 = .string o ∧ Aside0 (strOfNums b = o) ∧ Aside0 (bareR kq s b at' = R) ∧ Aside0 (256 < kq + b.length) ∧ Aside0 (b.length ≤ 254) ∧ Aside0 (∃ K, endsR K s at' en = true) ∧ Aside0 (0 ≤ at' ∧ at' ≤ 1000000) ∧ Aside0 (Below w.heap.size w w'))
  case atStart => exact ⟨[], a, _, rfl, rfl, ⟨rfl⟩, HE, ⟨by decide⟩, ⟨by simp⟩, HN, ⟨by omega⟩, HB⟩
  case round =>
    clear HE HB HN
    obtain ⟨b, at', o, rfl, rfl, HO, HE, HK, HL, HN, HA, HB⟩ := hrel
    obtain ⟨k, rfl⟩ : ∃ k, gk = k + 1 := ⟨gk - 1, by have := HK.out; have := HL.out; omega⟩
    have he := HE.out
    unfold bareR at he
    have a00 := HA.out.1
    have a01 := HA.out.2
    clear HE
    cases h1 : getF s at' 1 with
    | none =>
      rw [h1] at he
      have H1 := Lib.hid h1
      have HE := Lib.hid he
      clear he h1
      go_wp2_with fail
      refine (get01_calls s at' 1 _ (by have := HS.out; omega)).mono ?_
      rw [H1.out]
      rintro e w2 ⟨rfl, hb⟩
      have HB2 := Aside0.mk (below_step HB.out hb)
      clear hb
      simp only [getE]
      go_wp2_with fail
      go_ret3
      exact ⟨by rw [← HE.out]; rfl, HB2.out⟩
    | some n =>
      rw [h1] at he
      simp only [] at he
      have H1 := Lib.hid h1
      obtain ⟨n0, n1, a0, a1⟩ := get1 h1
      have hosz : o.size = b.length := by rw [← HO.out, strOfNums_size]
      have q9 : (o.size : Int) ≤ 254 := by have := HL.out; omega
      have q0 : at' + 1 ≤ 1000000 := by have := HS.out; omega
      have hw1 : IntKind.i64.wrap n = n := by rw [IntKind.wrap_i64]; omega
      by_cases c1 : n = 0
      · rw [if_pos c1] at he
        subst c1
        have e1 : ((0 : Int) == 0) = true := rfl
        have hadd := fun W => run_string_add_sum (P := Try.prog) W o ⟨#[0]⟩ (by have : (⟨#[0]⟩ : ByteArray).size = 1 := rfl; omega)
        have HOt := Lib.hid (show strOfNums (b ++ [0]) = o ++ ⟨#[0]⟩ by rw [← HO.out, ← str_app]; rfl)
        have HE := Lib.hid he
        clear he h1 hosz
        go_wp2_with fail
        refine (get01_calls s at' 1 _ (by have := HS.out; omega)).mono ?_
        rw [H1.out]
        rintro e w2 ⟨rfl, hb⟩
        have HB2 := Aside0.mk (below_step HB.out hb)
        clear hb
        simp only [getE]
        go_wp2_with fail
        go_ret3
        exact ⟨by rw [← HE.out, nameT, HOt.out]; rfl, HB2.out⟩
      rw [if_neg c1] at he
      have e1 : (n == 0) = false := beq_eq_false_iff_ne.mpr c1
      by_cases c3 : 191 < n
      · rw [if_pos c3] at he
        have d3 : decide (192 ≤ n) = true := decide_eq_true (by omega)
        have HE := Lib.hid he
        clear he c1 c3 h1 hosz
        go_wp2_with fail
        refine (get01_calls s at' 1 _ (by have := HS.out; omega)).mono ?_
        rw [H1.out]
        rintro e w2 ⟨rfl, hb⟩
        have HB2 := Aside0.mk (below_step HB.out hb)
        clear hb
        simp only [getE]
        go_wp2_with fail
        go_ret3
        exact ⟨by rw [← HE.out]; rfl, HB2.out⟩
      rw [if_neg c3] at he
      have d3 : decide (192 ≤ n) = false := decide_eq_false (by omega)
      by_cases c6 : 63 < n
      · rw [if_pos c6] at he
        have HE := Lib.hid he
        have d6 : decide (64 ≤ n) = true := decide_eq_true (by omega)
        clear he c1 c3 c6 h1 hosz
        go_wp2_with fail
        refine (get01_calls s at' 1 _ (by have := HS.out; omega)).mono ?_
        rw [H1.out]
        rintro e w2 ⟨rfl, hb⟩
        have HB2 := Aside0.mk (below_step HB.out hb)
        clear hb
        simp only [getE]
        go_wp2_with fail
        go_ret3
        exact ⟨by rw [← HE.out]; rfl, HB2.out⟩
      rw [if_neg c6] at he
      have d6 : decide (64 ≤ n) = false := decide_eq_false (by omega)
      have q6 : n ≤ 63 := by omega
      have hnx : at' + 1 + n < en ∧ ∃ K, endsR K s (at' + 1 + n) en = true := by
        obtain ⟨K, hK⟩ := HN.out
        cases K with
        | zero => exact absurd hK (by simp [endsR])
        | succ K =>
          have hnb := getF_nb h1
          unfold endsR at hK
          by_cases cc : at' < en
          · rw [if_pos cc, if_neg (by omega), if_neg (by omega), if_neg (by omega), ← hnb, show at' + (n + 1) = at' + 1 + n by omega] at hK
            refine ⟨?_, K, hK⟩
            cases K with
            | zero => exact absurd hK (by simp [endsR])
            | succ K =>
              unfold endsR at hK
              by_cases cd : at' + 1 + n < en
              · exact cd
              · rw [if_neg cd] at hK
                exact absurd hK (by simp)
          · rw [if_neg cc] at hK
            exact absurd hK (by simp)
      cases h3 : partF s (at' + 1) n with
      | none =>
        exfalso
        unfold partF at h3
        rw [if_neg (by have := HEn.out; omega)] at h3
        exact absurd h3 (by simp)
      | some l =>
        rw [h3] at he
        simp only [] at he
        obtain ⟨t, ht, hbt⟩ := lab_split h1 h3
        have H3 := Lib.hid ht
        obtain ⟨lz, -, -, l3, -⟩ := part_size h3
        have htz : (t.size : Int) = n + 1 := by rw [← bytesOf_length t, hbt, List.length_cons, bytesOf_length]; omega
        have q5 : (t.size : Int) ≤ 64 := by omega
        have q7 : at' + (t.size : Int) ≤ 1000000 := by have := HS.out; omega
        have q8 : (0 : Int) ≤ at' + (t.size : Int) := by omega
        have hadd := fun W => run_string_add_sum (P := Try.prog) W o t (by omega)
        have HOt := Aside0.mk (show strOfNums (b ++ [n] ++ bytesOf l) = o ++ t by rw [← HO.out, str_app_s, hbt]; simp)
        by_cases c7 : 255 < (b.length : Int) + n + 2
        · rw [if_pos c7] at he
          have HE := Lib.hid he
          have d7 : decide ((255 : Int) < (o.size : Int) + (t.size : Int) + 1) = true := decide_eq_true (by omega)
          have d8 : decide (255 < o.size + t.size + 1) = true := decide_eq_true (by omega)
          clear he h3 c1 c3 c6 h1 hosz c7 lz l3 ht hbt htz hnx
          go_wp2_with fail
          refine (get01_calls s at' 1 _ (by have := HS.out; omega)).mono ?_
          rw [H1.out]
          rintro e w2 ⟨rfl, hb⟩
          have HB2 := Aside0.mk (below_step HB.out hb)
          clear hb
          simp only [getE]
          go_wp2_with fail
          refine (part01_calls s at' (n + 1) _ (by have := HS.out; omega)).mono ?_
          rw [H3.out]
          rintro e w3 ⟨rfl, hb⟩
          have HB3 := Aside0.mk (below_step HB2.out hb)
          clear hb
          simp only [partE]
          go_wp2_with fail
          go_ret3
          exact ⟨by rw [← HE.out]; rfl, HB3.out⟩
        · rw [if_neg c7] at he
          have HE := Aside0.mk (show bareR k s (b ++ [n] ++ bytesOf l) (at' + (t.size : Int)) = R by rw [htz, ← he]; congr 1; omega)
          have HN2 := Aside0.mk (show ∃ K, endsR K s (at' + (t.size : Int)) en = true by rw [htz, show at' + (n + 1) = at' + 1 + n by omega]; exact hnx.2)
          have d7 : decide ((255 : Int) < (o.size : Int) + (t.size : Int) + 1) = false := decide_eq_false (by omega)
          have d8 : decide (255 < o.size + t.size + 1) = false := decide_eq_false (by omega)
          have HLn := Lib.hid (show (b ++ [n] ++ bytesOf l).length = b.length + t.size ∧ b.length + t.size ≤ 254 ∧ 1 ≤ t.size by
            simp only [List.length_append, List.length_singleton, bytesOf_length]
            omega)
          clear he h3 c1 c3 c6 h1 hosz c7 lz l3 ht hbt htz hnx
          go_wp2_with fail
          refine (get01_calls s at' 1 _ (by have := HS.out; omega)).mono ?_
          rw [H1.out]
          rintro e w2 ⟨rfl, hb⟩
          have HB2 := Aside0.mk (below_step HB.out hb)
          clear hb
          simp only [getE]
          go_wp2_with fail
          refine (part01_calls s at' (n + 1) _ (by have := HS.out; omega)).mono ?_
          rw [H3.out]
          rintro e w3 ⟨rfl, hb⟩
          have HB3 := Aside0.mk (below_step HB2.out hb)
          clear hb
          simp only [partE]
          go_wp2_with fail
          go_roundg k
          case measure => omega
          case rel => exact ⟨b ++ [n] ++ bytesOf l, at' + (t.size : Int), o ++ t, rfl, rfl, HOt, HE, ⟨by have := HK.out; have := HLn.out; omega⟩, ⟨by have := HLn.out; omega⟩, HN2, ⟨by omega⟩, HB3⟩
end Go.Proofs.Ytfoflodgegehfaa.M
set_option linter.unusedVariables false
set_option linter.unusedSimpArgs false
namespace Go.Proofs.Ytfoflodgegehfaa.M
open Go.RowKit Go.Maps Go.Proofs.YtfoflodgegehfaaW.PrintWords Go.Proofs.YtfoflodgegehfaaW.PrintLast Go.Proofs.YtfoflodgegehfaaW.PrintMore
attribute [local go_sem] max2_int min2_int max_two min_two max_three min_three max_four min_four
attribute [local go_sem ↓] Go.wp_at_zero Go.wp_at_succ
def St (w : World) (g : Nat) (s : ByteArray) (a e : Int) : Prop := w.heap[g]? = some (.cells #[.string s, .int .i64 a, .int .i64 e] 78 (0, 0))
section
variable {w w1 : World} {g : Nat} {s : ByteArray} {a e : Int}
theorem St.c0 (h : St w g s a e) : w.cell? ⟨g, 0, none⟩ = some (.string s) := (blk_cell h 0).trans rfl
theorem St.c1 (h : St w g s a e) : w.cell? ⟨g, 1, none⟩ = some (.int .i64 a) := (blk_cell h 1).trans rfl
theorem St.c2 (h : St w g s a e) : w.cell? ⟨g, 2, none⟩ = some (.int .i64 e) := (blk_cell h 2).trans rfl
theorem St.below (h : St w g s a e) (hb : Below w.heap.size w w1) : St w1 g s a e := blk_below h hb
theorem St.set1 (h : St w g s a e) (b : Int) : St (w.setCell ⟨g, 1, none⟩ (.int .i64 b)) g s b e := by
  unfold St
  rw [blk_set h 1 _]
  rfl
theorem St.set2 (h : St w g s a e) (b : Int) : St (w.setCell ⟨g, 2, none⟩ (.int .i64 b)) g s a b := by
  unfold St
  rw [blk_set h 2 _]
  rfl
end
theorem get01_no {s : ByteArray} {a n : Int} (h : getF s a n = none) (w : World) (hs : s.size ≤ 1000000000000) :
    Calls Try.prog 53 #[.string s, .int .i64 a, .int .i64 n] w fun e w' => e = .returned (.tuple #[.int .u64 0, .bool false]) ∧ Below w.heap.size w w' :=
  (get01_calls s a n w hs).mono fun e w' ⟨h1, h2⟩ => ⟨by rw [h1, h]; rfl, h2⟩
theorem get01_yes {s : ByteArray} {a n m : Int} (h : getF s a n = some m) (w : World) (hs : s.size ≤ 1000000000000) :
    Calls Try.prog 53 #[.string s, .int .i64 a, .int .i64 n] w fun e w' => e = .returned (.tuple #[.int .u64 m, .bool true]) ∧ Below w.heap.size w w' :=
  (get01_calls s a n w hs).mono fun e w' ⟨h1, h2⟩ => ⟨by rw [h1, h]; rfl, h2⟩
theorem refName_no {s : ByteArray} {a c : Int} (h : nameAt s a = .error c) (w : World) (hs : s.size ≤ 1000000) (wf : -9223372036854775808 ≤ a ∧ a ≤ 9223372036854775807) :
    Calls Try.prog 54 #[.string s, .int .i64 a] w fun e w' => e = .returned (.tuple #[.string ⟨#[]⟩, .int .i64 0, .int .i64 c]) ∧ Below w.heap.size w w' :=
  (refName_calls s a w hs wf.1 wf.2).mono fun e w' ⟨h1, h2⟩ => ⟨by rw [h1, h]; rfl, h2⟩
theorem refName_yes {s : ByteArray} {a nx : Int} {b : List Int} (h : nameAt s a = .ok (b, nx)) (w : World) (hs : s.size ≤ 1000000) (wf : -9223372036854775808 ≤ a ∧ a ≤ 9223372036854775807) :
    Calls Try.prog 54 #[.string s, .int .i64 a] w fun e w' => e = .returned (.tuple #[.string (strOfNums b), .int .i64 nx, .int .i64 0]) ∧ Below w.heap.size w w' :=
  (refName_calls s a w hs wf.1 wf.2).mono fun e w' ⟨h1, h2⟩ => ⟨by rw [h1, h]; rfl, h2⟩
set_option maxHeartbeats 2000000 in
set_option maxRecDepth 100000 in
theorem num6_off {w : World} {g : Nat} {s : ByteArray} {a e n : Int} (h : St w g s a e) (he : e ≠ 0) :
    Calls Try.prog 38 #[.pointer (some ⟨g, 0, none⟩), .int .i64 n] w fun r w' => r = .returned (.int .i64 0) ∧ St w' g s a e ∧ Only g w w' := by
  have e1 : (e != 0) = true := by rw [bne_iff_ne]; exact he
  clear he
  have HR := Aside0.mk h
  have HO := Aside0.mk (Only.refl g w)
  have z0 := h.c0
  have z1 := h.c1
  have z2 := h.c2
  clear h
  go_enter Try.func38, Try.ntmps38
  go_wp2_with fail
  go_ret
  exact ⟨rfl, HR.out, HO.out⟩
set_option maxHeartbeats 2000000 in
set_option maxRecDepth 100000 in
theorem name6_off {w : World} {g : Nat} {s : ByteArray} {a e : Int} (h : St w g s a e) (he : e ≠ 0) :
    Calls Try.prog 39 #[.pointer (some ⟨g, 0, none⟩)] w fun r w' => r = .returned (.string ⟨#[]⟩) ∧ St w' g s a e ∧ Only g w w' := by
  have e1 : (e != 0) = true := by rw [bne_iff_ne]; exact he
  clear he
  have HR := Aside0.mk h
  have HO := Aside0.mk (Only.refl g w)
  have z0 := h.c0
  have z1 := h.c1
  have z2 := h.c2
  clear h
  go_enter Try.func39, Try.ntmps39
  go_wp2_with fail
  go_ret
  exact ⟨rfl, HR.out, HO.out⟩
set_option maxHeartbeats 2000000 in
set_option maxRecDepth 100000 in
theorem num6_no {w : World} {g : Nat} {s : ByteArray} {a n : Int} (h : St w g s a 0) (hs : s.size ≤ 1000000) (hp : getF s a n = none) :
    Calls Try.prog 38 #[.pointer (some ⟨g, 0, none⟩), .int .i64 n] w fun r w' => r = .returned (.int .i64 0) ∧ St w' g s a 2 ∧ Only g w w' := by
  have HP := Lib.hid hp
  have HS := Lib.hid hs
  clear hp hs
  have e1 : ((0 : Int) != 0) = false := rfl
  have HR := Aside0.mk h
  have HO := Aside0.mk (Only.refl g w)
  have z0 := h.c0
  have z1 := h.c1
  have z2 := h.c2
  clear h
  go_enter Try.func38, Try.ntmps38
  go_wp2_with fail
  refine start_ (n := 15) (S := fun w' => w'.cell? ⟨g, 0, none⟩ = some (.string s) ∧ w'.cell? ⟨g, 1, none⟩ = some (.int .i64 a)) (ds := []) (Array.replicate 15 false) (by kernel_rfl) (by kernel_rfl) rfl ⟨z0, z1⟩ (fun hS => ?_)
  refine dpure 0 (some 13) rfl rfl (by kernel_rfl) (fun _ _ _ h => h) (by rfl) (v := ?_) (a' := ?_) ?_ ?_ ?_
  rotate_left 2
  · intro w'; go_simp; with_reducible rfl
  · simp only [Act.put, List.setIfInBounds_toArray, List.set_cons_zero, List.set_cons_succ]; rfl
  refine dpure 1 (some 14) rfl rfl (by kernel_rfl) (fun _ _ _ h => h) (by rfl) (v := ?_) (a' := ?_) ?_ ?_ ?_
  rotate_left 2
  · intro w'; go_simp; with_reducible rfl
  · simp only [Act.put, List.setIfInBounds_toArray, List.set_cons_zero, List.set_cons_succ]; rfl
  refine dpure 2 (some 15) rfl rfl (by kernel_rfl) (fun _ _ _ h => h) (by rfl) (v := ?_) (a' := ?_) ?_ ?_ ?_
  rotate_left 2
  · intro w'; go_simp; with_reducible rfl
  · simp only [Act.put, List.setIfInBounds_toArray, List.set_cons_zero, List.set_cons_succ]; rfl
  refine dtake 3 (some 16) rfl rfl (by kernel_rfl) (fun _ _ _ h => h) (by rfl) hS (v := ?_) (a' := ?_) ?_ ?_ ?_
  rotate_left 2
  · rintro w' ⟨s0,s1⟩; go_simp; with_reducible rfl
  · simp only [Act.put, List.setIfInBounds_toArray, List.set_cons_zero, List.set_cons_succ]; rfl
  refine dpure 4 (some 17) rfl rfl (by kernel_rfl) (fun _ _ _ h => h) (by rfl) (v := ?_) (a' := ?_) ?_ ?_ ?_
  rotate_left 2
  · intro w'; go_simp; with_reducible rfl
  · simp only [Act.put, List.setIfInBounds_toArray, List.set_cons_zero, List.set_cons_succ]; rfl
  refine dpure 5 (some 18) rfl rfl (by kernel_rfl) (fun _ _ _ h => h) (by rfl) (v := ?_) (a' := ?_) ?_ ?_ ?_
  rotate_left 2
  · intro w'; go_simp; with_reducible rfl
  · simp only [Act.put, List.setIfInBounds_toArray, List.set_cons_zero, List.set_cons_succ]; rfl
  refine dpure 6 (some 19) rfl rfl (by kernel_rfl) (fun _ _ _ h => h) (by rfl) (v := ?_) (a' := ?_) ?_ ?_ ?_
  rotate_left 2
  · intro w'; go_simp; with_reducible rfl
  · simp only [Act.put, List.setIfInBounds_toArray, List.set_cons_zero, List.set_cons_succ]; rfl
  refine dtake 7 (some 20) rfl rfl (by kernel_rfl) (fun _ _ _ h => h) (by rfl) hS (v := ?_) (a' := ?_) ?_ ?_ ?_
  rotate_left 2
  · rintro w' ⟨s0,s1⟩; go_simp; with_reducible rfl
  · simp only [Act.put, List.setIfInBounds_toArray, List.set_cons_zero, List.set_cons_succ]; rfl
  refine dpure 8 (some 21) rfl rfl (by kernel_rfl) (fun _ _ _ h => h) (by rfl) (v := ?_) (a' := ?_) ?_ ?_ ?_
  rotate_left 2
  · intro w'; go_simp; with_reducible rfl
  · simp only [Act.put, List.setIfInBounds_toArray, List.set_cons_zero, List.set_cons_succ]; rfl
  refine done1 9 (some 22) rfl rfl (by kernel_rfl) (by decide) (fun K hK => ?_)
  refine goes_ Try.func53 (by kernel_rfl) rfl #[.string s, .int .i64 a, .int .i64 n] (by rfl) rfl rfl (by kernel_rfl) ?_
  refine (get01_no HP.out _ (by have := HS.out; omega)).mono ?_
  rintro e w2 ⟨rfl, hb⟩
  refine ⟨_, rfl, ?_⟩
  have HR2 := Aside0.mk (St.below (w := w.drew) HR.out hb)
  have HO2 := Aside0.mk (HO.out.drew.trans (Only.of_below hb g))
  clear z0 z1 z2 hb
  refine hK.out _ _ ⟨HR2.out.c0, HR2.out.c1⟩ (fun hS => ?_)
  clear hK K
  refine norm_ (a' := ?_) ?_ ?_
  rotate_left
  · simp only [Act.put, List.setIfInBounds_toArray, List.set_cons_zero, List.set_cons_succ]; rfl
  refine dpure 10 (some 12) rfl rfl (by kernel_rfl) (fun _ _ _ h => h) (by rfl) (v := ?_) (a' := ?_) ?_ ?_ ?_
  rotate_left 2
  · intro w'; go_simp; with_reducible rfl
  · simp only [Act.put, List.setIfInBounds_toArray, List.set_cons_zero, List.set_cons_succ]; rfl
  refine dpure 11 (some 23) rfl rfl (by kernel_rfl) (fun _ _ _ h => h) (by rfl) (v := ?_) (a' := ?_) ?_ ?_ ?_
  rotate_left 2
  · intro w'; go_simp; with_reducible rfl
  · simp only [Act.put, List.setIfInBounds_toArray, List.set_cons_zero, List.set_cons_succ]; rfl
  refine dpure 12 (some 24) rfl rfl (by kernel_rfl) (fun _ _ _ h => h) (by rfl) (v := ?_) (a' := ?_) ?_ ?_ ?_
  rotate_left 2
  · intro w'; go_simp; with_reducible rfl
  · simp only [Act.put, List.setIfInBounds_toArray, List.set_cons_zero, List.set_cons_succ]; rfl
  refine dpure 13 (some 5) rfl rfl (by kernel_rfl) (fun _ _ _ h => h) (by rfl) (v := ?_) (a' := ?_) ?_ ?_ ?_
  rotate_left 2
  · intro w'; go_simp; with_reducible rfl
  · simp only [Act.put, List.setIfInBounds_toArray, List.set_cons_zero, List.set_cons_succ]; rfl
  refine dpure 14 (some 6) rfl rfl (by kernel_rfl) (fun _ _ _ h => h) (by rfl) (v := ?_) (a' := ?_) ?_ ?_ ?_
  rotate_left 2
  · intro w'; go_simp; with_reducible rfl
  · simp only [Act.put, List.setIfInBounds_toArray, List.set_cons_zero, List.set_cons_succ]; rfl
  refine done_ (by kernel_rfl) ?_
  have z0 := HR2.out.c0
  have z1 := HR2.out.c1
  have z2 := HR2.out.c2
  have f2 : w2.frozen? ⟨g, 2, none⟩ = false := blk_frozen HR2.out 2
  go_wp2_with fail
  go_ret
  exact ⟨rfl, HR2.out.set2 _, HO2.out.set 2 _⟩
set_option maxHeartbeats 2000000 in
set_option maxRecDepth 100000 in
theorem num6_yes {w : World} {g : Nat} {s : ByteArray} {a n t : Int} (h : St w g s a 0) (hs : s.size ≤ 1000000) (hp : getF s a n = some t) (ht : t ≤ 9223372036854775807) (ht0 : 0 ≤ t) :
    Calls Try.prog 38 #[.pointer (some ⟨g, 0, none⟩), .int .i64 n] w fun r w' => r = .returned (.int .i64 t) ∧ St w' g s (a + n) 0 ∧ Only g w w' := by
  have HP := Lib.hid hp
  have HS := Lib.hid hs
  obtain ⟨a0, n0, an⟩ := get_at hp
  have q1 : a + n ≤ 1000000 := by omega
  have q2 : 0 ≤ a + n := by omega
  have q3 : IntKind.i64.wrap t = t := by rw [IntKind.wrap_i64]; omega
  clear hp hs
  have e1 : ((0 : Int) != 0) = false := rfl
  have HR := Aside0.mk h
  have HO := Aside0.mk (Only.refl g w)
  have z0 := h.c0
  have z1 := h.c1
  have z2 := h.c2
  clear h
  go_enter Try.func38, Try.ntmps38
  go_wp2_with fail
  refine start_ (n := 15) (S := fun w' => w'.cell? ⟨g, 0, none⟩ = some (.string s) ∧ w'.cell? ⟨g, 1, none⟩ = some (.int .i64 a)) (ds := []) (Array.replicate 15 false) (by kernel_rfl) (by kernel_rfl) rfl ⟨z0, z1⟩ (fun hS => ?_)
  refine dpure 0 (some 13) rfl rfl (by kernel_rfl) (fun _ _ _ h => h) (by rfl) (v := ?_) (a' := ?_) ?_ ?_ ?_
  rotate_left 2
  · intro w'; go_simp; with_reducible rfl
  · simp only [Act.put, List.setIfInBounds_toArray, List.set_cons_zero, List.set_cons_succ]; rfl
  refine dpure 1 (some 14) rfl rfl (by kernel_rfl) (fun _ _ _ h => h) (by rfl) (v := ?_) (a' := ?_) ?_ ?_ ?_
  rotate_left 2
  · intro w'; go_simp; with_reducible rfl
  · simp only [Act.put, List.setIfInBounds_toArray, List.set_cons_zero, List.set_cons_succ]; rfl
  refine dpure 2 (some 15) rfl rfl (by kernel_rfl) (fun _ _ _ h => h) (by rfl) (v := ?_) (a' := ?_) ?_ ?_ ?_
  rotate_left 2
  · intro w'; go_simp; with_reducible rfl
  · simp only [Act.put, List.setIfInBounds_toArray, List.set_cons_zero, List.set_cons_succ]; rfl
  refine dtake 3 (some 16) rfl rfl (by kernel_rfl) (fun _ _ _ h => h) (by rfl) hS (v := ?_) (a' := ?_) ?_ ?_ ?_
  rotate_left 2
  · rintro w' ⟨s0,s1⟩; go_simp; with_reducible rfl
  · simp only [Act.put, List.setIfInBounds_toArray, List.set_cons_zero, List.set_cons_succ]; rfl
  refine dpure 4 (some 17) rfl rfl (by kernel_rfl) (fun _ _ _ h => h) (by rfl) (v := ?_) (a' := ?_) ?_ ?_ ?_
  rotate_left 2
  · intro w'; go_simp; with_reducible rfl
  · simp only [Act.put, List.setIfInBounds_toArray, List.set_cons_zero, List.set_cons_succ]; rfl
  refine dpure 5 (some 18) rfl rfl (by kernel_rfl) (fun _ _ _ h => h) (by rfl) (v := ?_) (a' := ?_) ?_ ?_ ?_
  rotate_left 2
  · intro w'; go_simp; with_reducible rfl
  · simp only [Act.put, List.setIfInBounds_toArray, List.set_cons_zero, List.set_cons_succ]; rfl
  refine dpure 6 (some 19) rfl rfl (by kernel_rfl) (fun _ _ _ h => h) (by rfl) (v := ?_) (a' := ?_) ?_ ?_ ?_
  rotate_left 2
  · intro w'; go_simp; with_reducible rfl
  · simp only [Act.put, List.setIfInBounds_toArray, List.set_cons_zero, List.set_cons_succ]; rfl
  refine dtake 7 (some 20) rfl rfl (by kernel_rfl) (fun _ _ _ h => h) (by rfl) hS (v := ?_) (a' := ?_) ?_ ?_ ?_
  rotate_left 2
  · rintro w' ⟨s0,s1⟩; go_simp; with_reducible rfl
  · simp only [Act.put, List.setIfInBounds_toArray, List.set_cons_zero, List.set_cons_succ]; rfl
  refine dpure 8 (some 21) rfl rfl (by kernel_rfl) (fun _ _ _ h => h) (by rfl) (v := ?_) (a' := ?_) ?_ ?_ ?_
  rotate_left 2
  · intro w'; go_simp; with_reducible rfl
  · simp only [Act.put, List.setIfInBounds_toArray, List.set_cons_zero, List.set_cons_succ]; rfl
  refine done1 9 (some 22) rfl rfl (by kernel_rfl) (by decide) (fun K hK => ?_)
  refine goes_ Try.func53 (by kernel_rfl) rfl #[.string s, .int .i64 a, .int .i64 n] (by rfl) rfl rfl (by kernel_rfl) ?_
  refine (get01_yes HP.out _ (by have := HS.out; omega)).mono ?_
  rintro e w2 ⟨rfl, hb⟩
  refine ⟨_, rfl, ?_⟩
  have HR2 := Aside0.mk (St.below (w := w.drew) HR.out hb)
  have HO2 := Aside0.mk (HO.out.drew.trans (Only.of_below hb g))
  clear z0 z1 z2 hb
  refine hK.out _ _ ⟨HR2.out.c0, HR2.out.c1⟩ (fun hS => ?_)
  clear hK K
  refine norm_ (a' := ?_) ?_ ?_
  rotate_left
  · simp only [Act.put, List.setIfInBounds_toArray, List.set_cons_zero, List.set_cons_succ]; rfl
  refine dpure 10 (some 12) rfl rfl (by kernel_rfl) (fun _ _ _ h => h) (by rfl) (v := ?_) (a' := ?_) ?_ ?_ ?_
  rotate_left 2
  · intro w'; go_simp; with_reducible rfl
  · simp only [Act.put, List.setIfInBounds_toArray, List.set_cons_zero, List.set_cons_succ]; rfl
  refine dpure 11 (some 23) rfl rfl (by kernel_rfl) (fun _ _ _ h => h) (by rfl) (v := ?_) (a' := ?_) ?_ ?_ ?_
  rotate_left 2
  · intro w'; go_simp; with_reducible rfl
  · simp only [Act.put, List.setIfInBounds_toArray, List.set_cons_zero, List.set_cons_succ]; rfl
  refine dpure 12 (some 24) rfl rfl (by kernel_rfl) (fun _ _ _ h => h) (by rfl) (v := ?_) (a' := ?_) ?_ ?_ ?_
  rotate_left 2
  · intro w'; go_simp; with_reducible rfl
  · simp only [Act.put, List.setIfInBounds_toArray, List.set_cons_zero, List.set_cons_succ]; rfl
  refine dpure 13 (some 5) rfl rfl (by kernel_rfl) (fun _ _ _ h => h) (by rfl) (v := ?_) (a' := ?_) ?_ ?_ ?_
  rotate_left 2
  · intro w'; go_simp; with_reducible rfl
  · simp only [Act.put, List.setIfInBounds_toArray, List.set_cons_zero, List.set_cons_succ]; rfl
  refine dpure 14 (some 6) rfl rfl (by kernel_rfl) (fun _ _ _ h => h) (by rfl) (v := ?_) (a' := ?_) ?_ ?_ ?_
  rotate_left 2
  · intro w'; go_simp; with_reducible rfl
  · simp only [Act.put, List.setIfInBounds_toArray, List.set_cons_zero, List.set_cons_succ]; rfl
  refine done_ (by kernel_rfl) ?_
  have z0 := HR2.out.c0
  have z1 := HR2.out.c1
  have z2 := HR2.out.c2
  have f1 : w2.frozen? ⟨g, 1, none⟩ = false := blk_frozen HR2.out 1
  go_wp2_with fail
  go_ret
  exact ⟨rfl, HR2.out.set1 _, HO2.out.set 1 _⟩
set_option maxHeartbeats 2000000 in
set_option maxRecDepth 100000 in
theorem name6_no {w : World} {g : Nat} {s : ByteArray} {a c : Int} (h : St w g s a 0) (hs : s.size ≤ 1000000) (a0 : 0 ≤ a) (a1 : a ≤ s.size) (hp : nameAt s a = .error c) :
    Calls Try.prog 39 #[.pointer (some ⟨g, 0, none⟩)] w fun r w' => r = .returned (.string ⟨#[]⟩) ∧ St w' g s 0 c ∧ Only g w w' := by
  have HP := Lib.hid hp
  have HS := Lib.hid hs
  have HA := Lib.hid (show -9223372036854775808 ≤ a ∧ a ≤ 9223372036854775807 by omega)
  clear hp hs a0 a1
  have e1 : ((0 : Int) != 0) = false := rfl
  have HR := Aside0.mk h
  have HO := Aside0.mk (Only.refl g w)
  have z0 := h.c0
  have z1 := h.c1
  have z2 := h.c2
  clear h
  go_enter Try.func39, Try.ntmps39
  go_wp2_with fail
  refine start_ (n := 16) (S := fun w' => w'.cell? ⟨g, 0, none⟩ = some (.string s) ∧ w'.cell? ⟨g, 1, none⟩ = some (.int .i64 a)) (ds := []) (Array.replicate 16 false) (by kernel_rfl) (by kernel_rfl) rfl ⟨z0, z1⟩ (fun hS => ?_)
  refine dpure 0 (some 12) rfl rfl (by kernel_rfl) (fun _ _ _ h => h) (by rfl) (v := ?_) (a' := ?_) ?_ ?_ ?_
  rotate_left 2
  · intro w'; go_simp; with_reducible rfl
  · simp only [Act.put, List.setIfInBounds_toArray, List.set_cons_zero, List.set_cons_succ]; rfl
  refine dpure 1 (some 13) rfl rfl (by kernel_rfl) (fun _ _ _ h => h) (by rfl) (v := ?_) (a' := ?_) ?_ ?_ ?_
  rotate_left 2
  · intro w'; go_simp; with_reducible rfl
  · simp only [Act.put, List.setIfInBounds_toArray, List.set_cons_zero, List.set_cons_succ]; rfl
  refine dpure 2 (some 14) rfl rfl (by kernel_rfl) (fun _ _ _ h => h) (by rfl) (v := ?_) (a' := ?_) ?_ ?_ ?_
  rotate_left 2
  · intro w'; go_simp; with_reducible rfl
  · simp only [Act.put, List.setIfInBounds_toArray, List.set_cons_zero, List.set_cons_succ]; rfl
  refine dtake 3 (some 15) rfl rfl (by kernel_rfl) (fun _ _ _ h => h) (by rfl) hS (v := ?_) (a' := ?_) ?_ ?_ ?_
  rotate_left 2
  · rintro w' ⟨s0,s1⟩; go_simp; with_reducible rfl
  · simp only [Act.put, List.setIfInBounds_toArray, List.set_cons_zero, List.set_cons_succ]; rfl
  refine dpure 4 (some 16) rfl rfl (by kernel_rfl) (fun _ _ _ h => h) (by rfl) (v := ?_) (a' := ?_) ?_ ?_ ?_
  rotate_left 2
  · intro w'; go_simp; with_reducible rfl
  · simp only [Act.put, List.setIfInBounds_toArray, List.set_cons_zero, List.set_cons_succ]; rfl
  refine dpure 5 (some 17) rfl rfl (by kernel_rfl) (fun _ _ _ h => h) (by rfl) (v := ?_) (a' := ?_) ?_ ?_ ?_
  rotate_left 2
  · intro w'; go_simp; with_reducible rfl
  · simp only [Act.put, List.setIfInBounds_toArray, List.set_cons_zero, List.set_cons_succ]; rfl
  refine dpure 6 (some 18) rfl rfl (by kernel_rfl) (fun _ _ _ h => h) (by rfl) (v := ?_) (a' := ?_) ?_ ?_ ?_
  rotate_left 2
  · intro w'; go_simp; with_reducible rfl
  · simp only [Act.put, List.setIfInBounds_toArray, List.set_cons_zero, List.set_cons_succ]; rfl
  refine dtake 7 (some 19) rfl rfl (by kernel_rfl) (fun _ _ _ h => h) (by rfl) hS (v := ?_) (a' := ?_) ?_ ?_ ?_
  rotate_left 2
  · rintro w' ⟨s0,s1⟩; go_simp; with_reducible rfl
  · simp only [Act.put, List.setIfInBounds_toArray, List.set_cons_zero, List.set_cons_succ]; rfl
  refine done1 8 (some 20) rfl rfl (by kernel_rfl) (by decide) (fun K hK => ?_)
  refine goes_ Try.func54 (by kernel_rfl) rfl #[.string s, .int .i64 a] (by rfl) rfl rfl (by kernel_rfl) ?_
  refine (refName_no HP.out _ HS.out HA.out).mono ?_
  rintro e w2 ⟨rfl, hb⟩
  refine ⟨_, rfl, ?_⟩
  have HR2 := Aside0.mk (St.below (w := w.drew) HR.out hb)
  have HO2 := Aside0.mk (HO.out.drew.trans (Only.of_below hb g))
  clear z0 z1 z2 hb
  refine hK.out _ _ ⟨HR2.out.c0, HR2.out.c1⟩ (fun hS => ?_)
  clear hK K
  refine norm_ (a' := ?_) ?_ ?_
  rotate_left
  · simp only [Act.put, List.setIfInBounds_toArray, List.set_cons_zero, List.set_cons_succ]; rfl
  refine dpure 9 (some 11) rfl rfl (by kernel_rfl) (fun _ _ _ h => h) (by rfl) (v := ?_) (a' := ?_) ?_ ?_ ?_
  rotate_left 2
  · intro w'; go_simp; with_reducible rfl
  · simp only [Act.put, List.setIfInBounds_toArray, List.set_cons_zero, List.set_cons_succ]; rfl
  refine dpure 10 (some 21) rfl rfl (by kernel_rfl) (fun _ _ _ h => h) (by rfl) (v := ?_) (a' := ?_) ?_ ?_ ?_
  rotate_left 2
  · intro w'; go_simp; with_reducible rfl
  · simp only [Act.put, List.setIfInBounds_toArray, List.set_cons_zero, List.set_cons_succ]; rfl
  refine dpure 11 (some 22) rfl rfl (by kernel_rfl) (fun _ _ _ h => h) (by rfl) (v := ?_) (a' := ?_) ?_ ?_ ?_
  rotate_left 2
  · intro w'; go_simp; with_reducible rfl
  · simp only [Act.put, List.setIfInBounds_toArray, List.set_cons_zero, List.set_cons_succ]; rfl
  refine dpure 12 (some 23) rfl rfl (by kernel_rfl) (fun _ _ _ h => h) (by rfl) (v := ?_) (a' := ?_) ?_ ?_ ?_
  rotate_left 2
  · intro w'; go_simp; with_reducible rfl
  · simp only [Act.put, List.setIfInBounds_toArray, List.set_cons_zero, List.set_cons_succ]; rfl
  refine dpure 13 (some 3) rfl rfl (by kernel_rfl) (fun _ _ _ h => h) (by rfl) (v := ?_) (a' := ?_) ?_ ?_ ?_
  rotate_left 2
  · intro w'; go_simp; with_reducible rfl
  · simp only [Act.put, List.setIfInBounds_toArray, List.set_cons_zero, List.set_cons_succ]; rfl
  refine dpure 14 (some 4) rfl rfl (by kernel_rfl) (fun _ _ _ h => h) (by rfl) (v := ?_) (a' := ?_) ?_ ?_ ?_
  rotate_left 2
  · intro w'; go_simp; with_reducible rfl
  · simp only [Act.put, List.setIfInBounds_toArray, List.set_cons_zero, List.set_cons_succ]; rfl
  refine dpure 15 (some 5) rfl rfl (by kernel_rfl) (fun _ _ _ h => h) (by rfl) (v := ?_) (a' := ?_) ?_ ?_ ?_
  rotate_left 2
  · intro w'; go_simp; with_reducible rfl
  · simp only [Act.put, List.setIfInBounds_toArray, List.set_cons_zero, List.set_cons_succ]; rfl
  refine done_ (by kernel_rfl) ?_
  have f2 : w2.frozen? ⟨g, 2, none⟩ = false := blk_frozen HR2.out 2
  have f1 : w2.frozen? ⟨g, 1, none⟩ = false := blk_frozen HR2.out 1
  have z0 := HR2.out.c0
  have z1 := HR2.out.c1
  have z2 := HR2.out.c2
  go_wp2_with fail
  go_ret
  exact ⟨rfl, (HR2.out.set2 _).set1 _, (HO2.out.set 2 _).set 1 _⟩
set_option maxHeartbeats 2000000 in
set_option maxRecDepth 100000 in
theorem name6_yes {w : World} {g : Nat} {s : ByteArray} {a nx : Int} {b : List Int} (h : St w g s a 0) (hs : s.size ≤ 1000000) (a0 : 0 ≤ a) (a1 : a ≤ s.size) (hp : nameAt s a = .ok (b, nx)) :
    Calls Try.prog 39 #[.pointer (some ⟨g, 0, none⟩)] w fun r w' => r = .returned (.string (strOfNums b)) ∧ St w' g s nx 0 ∧ Only g w w' := by
  have HP := Lib.hid hp
  have HS := Lib.hid hs
  have HA := Lib.hid (show -9223372036854775808 ≤ a ∧ a ≤ 9223372036854775807 by omega)
  clear hp hs a0 a1
  have e1 : ((0 : Int) != 0) = false := rfl
  have HR := Aside0.mk h
  have HO := Aside0.mk (Only.refl g w)
  have z0 := h.c0
  have z1 := h.c1
  have z2 := h.c2
  clear h
  go_enter Try.func39, Try.ntmps39
  go_wp2_with fail
  refine start_ (n := 16) (S := fun w' => w'.cell? ⟨g, 0, none⟩ = some (.string s) ∧ w'.cell? ⟨g, 1, none⟩ = some (.int .i64 a)) (ds := []) (Array.replicate 16 false) (by kernel_rfl) (by kernel_rfl) rfl ⟨z0, z1⟩ (fun hS => ?_)
  refine dpure 0 (some 12) rfl rfl (by kernel_rfl) (fun _ _ _ h => h) (by rfl) (v := ?_) (a' := ?_) ?_ ?_ ?_
  rotate_left 2
  · intro w'; go_simp; with_reducible rfl
  · simp only [Act.put, List.setIfInBounds_toArray, List.set_cons_zero, List.set_cons_succ]; rfl
  refine dpure 1 (some 13) rfl rfl (by kernel_rfl) (fun _ _ _ h => h) (by rfl) (v := ?_) (a' := ?_) ?_ ?_ ?_
  rotate_left 2
  · intro w'; go_simp; with_reducible rfl
  · simp only [Act.put, List.setIfInBounds_toArray, List.set_cons_zero, List.set_cons_succ]; rfl
  refine dpure 2 (some 14) rfl rfl (by kernel_rfl) (fun _ _ _ h => h) (by rfl) (v := ?_) (a' := ?_) ?_ ?_ ?_
  rotate_left 2
  · intro w'; go_simp; with_reducible rfl
  · simp only [Act.put, List.setIfInBounds_toArray, List.set_cons_zero, List.set_cons_succ]; rfl
  refine dtake 3 (some 15) rfl rfl (by kernel_rfl) (fun _ _ _ h => h) (by rfl) hS (v := ?_) (a' := ?_) ?_ ?_ ?_
  rotate_left 2
  · rintro w' ⟨s0,s1⟩; go_simp; with_reducible rfl
  · simp only [Act.put, List.setIfInBounds_toArray, List.set_cons_zero, List.set_cons_succ]; rfl
  refine dpure 4 (some 16) rfl rfl (by kernel_rfl) (fun _ _ _ h => h) (by rfl) (v := ?_) (a' := ?_) ?_ ?_ ?_
  rotate_left 2
  · intro w'; go_simp; with_reducible rfl
  · simp only [Act.put, List.setIfInBounds_toArray, List.set_cons_zero, List.set_cons_succ]; rfl
  refine dpure 5 (some 17) rfl rfl (by kernel_rfl) (fun _ _ _ h => h) (by rfl) (v := ?_) (a' := ?_) ?_ ?_ ?_
  rotate_left 2
  · intro w'; go_simp; with_reducible rfl
  · simp only [Act.put, List.setIfInBounds_toArray, List.set_cons_zero, List.set_cons_succ]; rfl
  refine dpure 6 (some 18) rfl rfl (by kernel_rfl) (fun _ _ _ h => h) (by rfl) (v := ?_) (a' := ?_) ?_ ?_ ?_
  rotate_left 2
  · intro w'; go_simp; with_reducible rfl
  · simp only [Act.put, List.setIfInBounds_toArray, List.set_cons_zero, List.set_cons_succ]; rfl
  refine dtake 7 (some 19) rfl rfl (by kernel_rfl) (fun _ _ _ h => h) (by rfl) hS (v := ?_) (a' := ?_) ?_ ?_ ?_
  rotate_left 2
  · rintro w' ⟨s0,s1⟩; go_simp; with_reducible rfl
  · simp only [Act.put, List.setIfInBounds_toArray, List.set_cons_zero, List.set_cons_succ]; rfl
  refine done1 8 (some 20) rfl rfl (by kernel_rfl) (by decide) (fun K hK => ?_)
  refine goes_ Try.func54 (by kernel_rfl) rfl #[.string s, .int .i64 a] (by rfl) rfl rfl (by kernel_rfl) ?_
  refine (refName_yes HP.out _ HS.out HA.out).mono ?_
  rintro e w2 ⟨rfl, hb⟩
  refine ⟨_, rfl, ?_⟩
  have HR2 := Aside0.mk (St.below (w := w.drew) HR.out hb)
  have HO2 := Aside0.mk (HO.out.drew.trans (Only.of_below hb g))
  clear z0 z1 z2 hb
  refine hK.out _ _ ⟨HR2.out.c0, HR2.out.c1⟩ (fun hS => ?_)
  clear hK K
  refine norm_ (a' := ?_) ?_ ?_
  rotate_left
  · simp only [Act.put, List.setIfInBounds_toArray, List.set_cons_zero, List.set_cons_succ]; rfl
  refine dpure 9 (some 11) rfl rfl (by kernel_rfl) (fun _ _ _ h => h) (by rfl) (v := ?_) (a' := ?_) ?_ ?_ ?_
  rotate_left 2
  · intro w'; go_simp; with_reducible rfl
  · simp only [Act.put, List.setIfInBounds_toArray, List.set_cons_zero, List.set_cons_succ]; rfl
  refine dpure 10 (some 21) rfl rfl (by kernel_rfl) (fun _ _ _ h => h) (by rfl) (v := ?_) (a' := ?_) ?_ ?_ ?_
  rotate_left 2
  · intro w'; go_simp; with_reducible rfl
  · simp only [Act.put, List.setIfInBounds_toArray, List.set_cons_zero, List.set_cons_succ]; rfl
  refine dpure 11 (some 22) rfl rfl (by kernel_rfl) (fun _ _ _ h => h) (by rfl) (v := ?_) (a' := ?_) ?_ ?_ ?_
  rotate_left 2
  · intro w'; go_simp; with_reducible rfl
  · simp only [Act.put, List.setIfInBounds_toArray, List.set_cons_zero, List.set_cons_succ]; rfl
  refine dpure 12 (some 23) rfl rfl (by kernel_rfl) (fun _ _ _ h => h) (by rfl) (v := ?_) (a' := ?_) ?_ ?_ ?_
  rotate_left 2
  · intro w'; go_simp; with_reducible rfl
  · simp only [Act.put, List.setIfInBounds_toArray, List.set_cons_zero, List.set_cons_succ]; rfl
  refine dpure 13 (some 3) rfl rfl (by kernel_rfl) (fun _ _ _ h => h) (by rfl) (v := ?_) (a' := ?_) ?_ ?_ ?_
  rotate_left 2
  · intro w'; go_simp; with_reducible rfl
  · simp only [Act.put, List.setIfInBounds_toArray, List.set_cons_zero, List.set_cons_succ]; rfl
  refine dpure 14 (some 4) rfl rfl (by kernel_rfl) (fun _ _ _ h => h) (by rfl) (v := ?_) (a' := ?_) ?_ ?_ ?_
  rotate_left 2
  · intro w'; go_simp; with_reducible rfl
  · simp only [Act.put, List.setIfInBounds_toArray, List.set_cons_zero, List.set_cons_succ]; rfl
  refine dpure 15 (some 5) rfl rfl (by kernel_rfl) (fun _ _ _ h => h) (by rfl) (v := ?_) (a' := ?_) ?_ ?_ ?_
  rotate_left 2
  · intro w'; go_simp; with_reducible rfl
  · simp only [Act.put, List.setIfInBounds_toArray, List.set_cons_zero, List.set_cons_succ]; rfl
  refine done_ (by kernel_rfl) ?_
  have f2 : w2.frozen? ⟨g, 2, none⟩ = false := blk_frozen HR2.out 2
  have f1 : w2.frozen? ⟨g, 1, none⟩ = false := blk_frozen HR2.out 1
  have z0 := HR2.out.c0
  have z1 := HR2.out.c1
  have z2 := HR2.out.c2
  go_wp2_with fail
  go_ret
  exact ⟨rfl, (HR2.out.set2 _).set1 _, (HO2.out.set 2 _).set 1 _⟩
end Go.Proofs.Ytfoflodgegehfaa.M
set_option linter.unusedVariables false
set_option linter.unusedSimpArgs false
namespace Go.Proofs.Ytfoflodgegehfaa.M
open Go.RowKit Go.Maps Go.Proofs.YtfoflodgegehfaaW.PrintWords Go.Proofs.YtfoflodgegehfaaW.PrintLast Go.Proofs.YtfoflodgegehfaaW.PrintMore
attribute [local go_sem] max2_int min2_int max_two min_two max_three min_three max_four min_four
attribute [local go_sem ↓] Go.wp_at_zero Go.wp_at_succ
def Ends6 {α : Type} (P : α → Value → World → Prop) (R : Except Int (α × Int)) (w : World) (g : Nat) (s : ByteArray) (r : Ending) (w' : World) : Prop :=
  Only g w w' ∧ ∃ (x : α) (v : Value) (a e : Int), r = .returned v ∧ P x v w' ∧ St w' g s a e ∧ ((R = .ok (x, a) ∧ e = 0) ∨ (R = .error e ∧ e ≠ 0))
theorem Ends6.ok {α : Type} {P : α → Value → World → Prop} {R : Except Int (α × Int)} {w w' : World} {g : Nat} {s : ByteArray} {x : α} {v : Value} {a : Int} (ho : Only g w w') (hp : P x v w') (hs : St w' g s a 0) (hr : R = .ok (x, a)) : Ends6 P R w g s (.returned v) w' :=
  ⟨ho, x, v, a, 0, rfl, hp, hs, .inl ⟨hr, rfl⟩⟩
theorem Ends6.err {α : Type} {P : α → Value → World → Prop} {R : Except Int (α × Int)} {w w' : World} {g : Nat} {s : ByteArray} {x : α} {v : Value} {a e : Int} (ho : Only g w w') (hp : P x v w') (hs : St w' g s a e) (hr : R = .error e) (he : e ≠ 0) : Ends6 P R w g s (.returned v) w' :=
  ⟨ho, x, v, a, e, rfl, hp, hs, .inr ⟨hr, he⟩⟩
theorem R_only6 {α : Type} {d : Kd α} {e base : Nat} {ok : Nat → Prop} {w w1 : World} {v : Value} {xs : List α} {g : Nat} {s : ByteArray} {a c : Int} (h : d.R e w base ok v xs) (hr : St w g s a c) (ht : ∀ q, q ∈ e :: d.E → q ≠ 78) (ho : Only g w w1) : d.R e w1 base ok v xs :=
  Kd.R_drop (Kd.R_grown (Kd.R_types h hr ht) ho.grown (fun k hk e => hk.2 (Option.some.inj e)))
set_option maxHeartbeats 4000000 in
set_option maxRecDepth 100000 in
theorem numbers6_calls {w : World} {g : Nat} {s : ByteArray} {a en : Int} {count z : Nat} (h : St w g s a 0) (hs : s.size ≤ 1000000) (h0 : 0 ≤ a) (ha : a ≤ s.size) (he : en ≤ s.size) (he0 : 0 ≤ en) (hc : count ≤ 10) (hz : z = 2 ∨ z = 4) :
    Calls Try.prog 72 #[.pointer (some ⟨g, 0, none⟩), .int .i64 count, .int .i64 z, .int .i64 en] w fun r w' => Ends6 (NumsP w.heap.size) (numsR s z en count [] a) w g s r w' := by
  obtain ⟨R, hR⟩ : ∃ R, numsR s z en count [] a = R := ⟨_, rfl⟩
  rw [hR]
  have HR := Aside0.mk h
  have HE := Aside0.mk (show numsR s z en count [] a = R ∧ 0 ≤ a ∧ a ≤ s.size from ⟨hR, h0, ha⟩)
  have HO := Aside0.mk (Only.refl g w)
  have HS := Lib.hid (show s.size ≤ 1000000 ∧ en ≤ s.size ∧ 0 ≤ en from ⟨hs, he, he0⟩)
  have HZ := Lib.hid hz
  have p1 : (count : Int) ≤ 10 := by omega
  have p2 : 0 ≤ en := he0
  have p3 : en ≤ 1000000 := by omega
  have HC := Lib.hid hc
  clear h hR hs hz h0 ha he he0 hc
  go_enter Try.func72, Try.ntmps72
  go_wp2_with fail
  go_loopg [9, 10] count (fun kq v9 v11 w' => ∃ (i : Nat) (out : List Int) (at' e : Int), v11 = .int .i64 i ∧ Aside0 ((e = 0 ∧ numsR s z en kq out at' = R ∧ 0 ≤ at' ∧ at' ≤ s.size) ∨ (e ≠ 0 ∧ R = .error e)) ∧ Aside0 (kq + i = count) ∧ Aside0 (out.length = i) ∧ Aside0 (St w' g s at' e) ∧ Aside0 (Only g w w') ∧ Aside0 (NumsP w.heap.size out v9 w'))
  case atStart => exact ⟨0, [], a, 0, rfl, ⟨.inl ⟨rfl, HE.out⟩⟩, ⟨rfl⟩, ⟨rfl⟩, HR, HO, ⟨Kd.R_nil _ _ _ _ _⟩⟩
  case round =>
    clear HE HO HR
    obtain ⟨i, out, at', e, rfl, HE, HK, HL, HR, HO, HB⟩ := hrel
    obtain ⟨A9, n9, c9, rfl⟩ := R_anyslice HB.out
    have z2 := HR.out.c2
    have z1 := HR.out.c1
    have he := HE.out
    clear HE
    have q0 : (i : Int) ≤ 10 := by have := HK.out; have := HC.out; omega
    cases gk with
    | zero =>
      obtain rfl : i = count := by have := HK.out; omega
      have HE := Aside0.mk he
      clear he
      go_wp2_with fail
      go_ret
      rcases HE.out with ⟨rfl, h1, -, -⟩ | ⟨h1, h2⟩
      · exact Ends6.ok HO.out HB.out HR.out h1.symm
      · exact Ends6.err HO.out HB.out HR.out h2 h1
    | succ k =>
      have q1 : (i : Int) < (count : Int) := by have := HK.out; omega
      rcases he with ⟨rfl, he, a0, a1⟩ | ⟨h1, h2⟩
      case inr =>
        have e1 : (e == 0) = false := beq_eq_false_iff_ne.mpr h1
        have HE := Lib.hid (And.intro h1 h2)
        clear h1 h2
        go_wp2_with fail
        go_ret
        exact Ends6.err HO.out HB.out HR.out HE.out.2 HE.out.1
      unfold numsR at he
      have e1 : ((0 : Int) == 0) = true := rfl
      have q2 : at' ≤ 1000000 := by have := HS.out.1; omega
      have q3 : (z : Int) ≤ 4 := by have := HZ.out; omega
      have f2 : wr.frozen? ⟨g, 2, none⟩ = false := blk_frozen HR.out 2
      by_cases c1 : en - at' < z
      · rw [if_pos c1] at he
        have HE := Lib.hid he
        have d1 : decide (en - at' < (z : Int)) = true := decide_eq_true c1
        clear he c1
        go_wp2_with fail
        go_ret
        exact Ends6.err (HO.out.set 2 _) (Kd.R_nil _ _ _ _ _) (HR.out.set2 _) HE.out.symm (by decide)
      rw [if_neg c1] at he
      have d1 : decide (en - at' < (z : Int)) = false := decide_eq_false c1
      have HL1 := Aside0.mk (show (out.length + 1) * 4 ≤ 140737488355328 by have := HL.out; have := HK.out; have := HC.out; omega)
      cases h1 : getF s at' z with
      | none =>
        rw [h1] at he
        have H1 := Lib.hid h1
        have HE := Aside0.mk he.symm
        clear he h1 c1
        go_wp2_with fail
        refine (num6_no HR.out HS.out.1 H1.out).mono ?_
        rintro r w2 ⟨rfl, hr, ho⟩
        have HR2 := Aside0.mk hr
        have HO2 := Aside0.mk (HO.out.trans ho)
        have HB2 := Aside0.mk (R_only6 HB.out HR.out (by decide) ho)
        clear hr ho z1 z2
        go_wp2_with (((with_reducible refine gate_builtin (b := .append) (xs := #[.tmp 34, .tmp 39]) rfl ?_); at_builtin; go_must (refine app32 rfl (.tmp 34) (.tmp 39) rfl rfl (by first | rfl | (go_simp; done)) HB2.out (Below.refl _ _) (fun _ _ _ => trivial) HO2.out.size HL1.out ?_; intro va wa hoa hba hga hata)); go_must (have HR4 := Aside0.mk (blk_grown HR2.out hga (Kd.R_ne HB2.out HR2.out (by decide))); have HO4 := Aside0.mk (HO2.out.of_grown hga (Kd.R_base HB2.out)); have HB4 := Aside0.mk hoa; clear hoa hba hga hata))
        go_roundg k
        case measure => omega
        case rel => exact ⟨i + 1, _, at', 2, by go_num, ⟨.inr ⟨by decide, HE.out⟩⟩, ⟨by have := HK.out; omega⟩, ⟨by have := HL.out; rw [List.length_append, List.length_singleton]; omega⟩, HR4, HO4, HB4⟩
      | some n =>
        rw [h1] at he
        simp only [] at he
        have H1 := Lib.hid h1
        obtain ⟨n0, n1⟩ := get_bound h1
        have hn32 : n < 4294967296 := by
          rcases HZ.out with hz | hz
          · rw [hz] at n1; omega
          · rw [hz] at n1; omega
        have hw : IntKind.u32.wrap n = n := by rw [IntKind.wrap_u32]; omega
        have ga := get_at h1
        have HE := Aside0.mk (show numsR s z en k (out ++ [n]) (at' + z) = R ∧ 0 ≤ at' + (z : Int) ∧ at' + (z : Int) ≤ s.size from ⟨he, by omega, by omega⟩)
        have HN := Lib.hid (show n ≤ 9223372036854775807 ∧ 0 ≤ n by omega)
        clear h1 c1 he n1 ga
        go_wp2_with fail
        refine (num6_yes HR.out HS.out.1 H1.out HN.out.1 HN.out.2).mono ?_
        rintro r w2 ⟨rfl, hr, ho⟩
        have HR2 := Aside0.mk hr
        have HO2 := Aside0.mk (HO.out.trans ho)
        have HB2 := Aside0.mk (R_only6 HB.out HR.out (by decide) ho)
        clear hr ho z1 z2
        go_wp2_with (((with_reducible refine gate_builtin (b := .append) (xs := #[.tmp 34, .tmp 39]) rfl ?_); at_builtin; go_must (refine app32 rfl (.tmp 34) (.tmp 39) rfl rfl (by first | rfl | (go_simp; done)) HB2.out (Below.refl _ _) (fun _ _ _ => trivial) HO2.out.size HL1.out ?_; intro va wa hoa hba hga hata)); go_must (have HR4 := Aside0.mk (blk_grown HR2.out hga (Kd.R_ne HB2.out HR2.out (by decide))); have HO4 := Aside0.mk (HO2.out.of_grown hga (Kd.R_base HB2.out)); have HB4 := Aside0.mk hoa; clear hoa hba hga hata))
        go_roundg k
        case measure => omega
        case rel => exact ⟨i + 1, _, at' + z, 0, by go_num, ⟨.inl ⟨rfl, HE.out⟩⟩, ⟨by have := HK.out; omega⟩, ⟨by have := HL.out; rw [List.length_append, List.length_singleton]; omega⟩, HR4, HO4, HB4⟩
end Go.Proofs.Ytfoflodgegehfaa.M
set_option linter.unusedVariables false
set_option linter.unusedSimpArgs false
namespace Go.Proofs.Ytfoflodgegehfaa.M
open Go.RowKit Go.Maps Go.Proofs.YtfoflodgegehfaaW.PrintWords Go.Proofs.YtfoflodgegehfaaW.PrintLast Go.Proofs.YtfoflodgegehfaaW.PrintMore
attribute [local go_sem] max2_int min2_int max_two min_two max_three min_three max_four min_four
attribute [local go_sem ↓] Go.wp_at_zero Go.wp_at_succ
def StrsP (B : Nat) (l : List ByteArray) (v : Value) (w' : World) : Prop := Kd.R Kd.string 9 w' B (fun _ => True) v l
theorem refBare_no {s : ByteArray} {a en c : Int} (h : bareAt s a = .error c) (w : World) (hs : s.size ≤ 1000000) (h0 : 0 ≤ a) (ha : a ≤ s.size) (he : en ≤ s.size) (hen : endsF s a en = true) :
    Calls Try.prog 85 #[.string s, .int .i64 a] w fun e w' => e = .returned (.tuple #[.string ⟨#[]⟩, .int .i64 0, .int .i64 c]) ∧ Below w.heap.size w w' :=
  (refBare_calls s a en w hs h0 ha he hen).mono fun e w' ⟨h1, h2⟩ => ⟨by rw [h1, h]; rfl, h2⟩
theorem refBare_yes {s : ByteArray} {a en nx : Int} {b : List Int} (h : bareAt s a = .ok (b, nx)) (w : World) (hs : s.size ≤ 1000000) (h0 : 0 ≤ a) (ha : a ≤ s.size) (he : en ≤ s.size) (hen : endsF s a en = true) :
    Calls Try.prog 85 #[.string s, .int .i64 a] w fun e w' => e = .returned (.tuple #[.string (strOfNums b), .int .i64 nx, .int .i64 0]) ∧ Below w.heap.size w w' :=
  (refBare_calls s a en w hs h0 ha he hen).mono fun e w' ⟨h1, h2⟩ => ⟨by rw [h1, h]; rfl, h2⟩
theorem strs_set {B : Nat} {l : List ByteArray} {v : Value} {w : World} {g : Nat} {s : ByteArray} {a c : Int} (h : StrsP B l v w) (hr : St w g s a c) (j : Nat) (u : Value) : StrsP B l v (w.setCell ⟨g, j, none⟩ u) :=
  Kd.R_set h hr (by intro q hq; rw [show q = 9 by simpa [Kd.string, Kd.scalar] using hq]; decide) j u
set_option maxHeartbeats 4000000 in
set_option maxRecDepth 100000 in
theorem names6_calls {w : World} {g : Nat} {s : ByteArray} {a en kind : Int} {count : Nat} (h : St w g s a 0) (hs : s.size ≤ 1000000) (h0 : 0 ≤ a) (ha : a ≤ s.size) (he : en ≤ s.size) (he0 : 0 ≤ en) (hc : count ≤ 10) :
    Calls Try.prog 73 #[.pointer (some ⟨g, 0, none⟩), .int .u16 kind, .int .i64 count, .int .i64 en] w fun r w' => Ends6 (StrsP w.heap.size) (namesR s kind en count [] a) w g s r w' := by
  obtain ⟨R, hR⟩ : ∃ R, namesR s kind en count [] a = R := ⟨_, rfl⟩
  rw [hR]
  have HR := Aside0.mk h
  have HE := Aside0.mk (show namesR s kind en count [] a = R ∧ 0 ≤ a ∧ a ≤ s.size from ⟨hR, h0, ha⟩)
  have HO := Aside0.mk (Only.refl g w)
  have HS := Lib.hid (show s.size ≤ 1000000 ∧ en ≤ s.size ∧ 0 ≤ en from ⟨hs, he, he0⟩)
  have p1 : (count : Int) ≤ 10 := by omega
  have HC := Lib.hid hc
  clear h hR hs h0 ha he he0 hc
  go_enter Try.func73, Try.ntmps73
  go_wp2_with fail
  go_loopg [9, 10] count (fun kq v9 v11 w' => ∃ (i : Nat) (out : List ByteArray) (at' e : Int), v11 = .int .i64 i ∧ Aside0 ((e = 0 ∧ namesR s kind en kq out at' = R ∧ 0 ≤ at' ∧ at' ≤ s.size) ∨ (e ≠ 0 ∧ R = .error e)) ∧ Aside0 (kq + i = count) ∧ Aside0 (out.length = i) ∧ Aside0 (St w' g s at' e) ∧ Aside0 (Only g w w') ∧ Aside0 (StrsP w.heap.size out v9 w'))
  case atStart => exact ⟨0, [], a, 0, rfl, ⟨.inl ⟨rfl, HE.out⟩⟩, ⟨rfl⟩, ⟨rfl⟩, HR, HO, ⟨Kd.R_nil _ _ _ _ _⟩⟩
  case round =>
    clear HE HO HR
    obtain ⟨i, out, at', e, rfl, HE, HK, HL, HR, HO, HB⟩ := hrel
    obtain ⟨A9, n9, c9, rfl⟩ := R_anyslice HB.out
    have z2 := HR.out.c2
    have z1 := HR.out.c1
    have z0 := HR.out.c0
    have he := HE.out
    clear HE
    have q0 : (i : Int) ≤ 10 := by have := HK.out; have := HC.out; omega
    cases gk with
    | zero =>
      obtain rfl : i = count := by have := HK.out; omega
      have HE := Aside0.mk he
      clear he
      go_wp2_with fail
      go_ret
      rcases HE.out with ⟨rfl, h1, -, -⟩ | ⟨h1, h2⟩
      · exact Ends6.ok HO.out HB.out HR.out h1.symm
      · exact Ends6.err HO.out HB.out HR.out h2 h1
    | succ k =>
      have q1 : (i : Int) < (count : Int) := by have := HK.out; omega
      rcases he with ⟨rfl, he, a0, a1⟩ | ⟨h1, h2⟩
      case inr =>
        have e1 : (e == 0) = false := beq_eq_false_iff_ne.mpr h1
        have HE := Lib.hid (And.intro h1 h2)
        clear h1 h2
        go_wp2_with fail
        go_ret
        exact Ends6.err HO.out HB.out HR.out HE.out.2 HE.out.1
      have HA := Lib.hid (show 0 ≤ at' ∧ at' ≤ s.size from ⟨a0, a1⟩)
      unfold namesR withinF at he
      have e1 : ((0 : Int) == 0) = true := rfl
      have f2 : wr.frozen? ⟨g, 2, none⟩ = false := blk_frozen HR.out 2
      have f1 : wr.frozen? ⟨g, 1, none⟩ = false := blk_frozen HR.out 1
      have HL1 := Aside0.mk (show (out.length + 1) * 16 ≤ 140737488355328 by have := HL.out; have := HK.out; have := HC.out; omega)
      clear a0 a1
      by_cases c1 : endsF s at' en = false
      · rw [if_pos c1] at he
        have HE := Lib.hid he
        have HEn := Lib.hid c1
        clear he c1
        go_wp2_with fail
        refine start_ (n := 11) (S := fun w' => w'.cell? ⟨g, 0, none⟩ = some (.string s) ∧ w'.cell? ⟨g, 1, none⟩ = some (.int .i64 at')) (ds := []) (Array.replicate 11 false) (by kernel_rfl) (by kernel_rfl) rfl ⟨z0, z1⟩ (fun hS => ?_)
        refine dpure 0 (some 26) rfl rfl (by kernel_rfl) (fun _ _ _ h => h) (by rfl) (v := ?_) (a' := ?_) ?_ ?_ ?_
        rotate_left 2
        · intro w'; go_simp; with_reducible rfl
        · simp only [Act.put, List.setIfInBounds_toArray, List.set_cons_zero, List.set_cons_succ]; rfl
        refine dpure 1 (some 27) rfl rfl (by kernel_rfl) (fun _ _ _ h => h) (by rfl) (v := ?_) (a' := ?_) ?_ ?_ ?_
        rotate_left 2
        · intro w'; go_simp; with_reducible rfl
        · simp only [Act.put, List.setIfInBounds_toArray, List.set_cons_zero, List.set_cons_succ]; rfl
        refine dpure 2 (some 28) rfl rfl (by kernel_rfl) (fun _ _ _ h => h) (by rfl) (v := ?_) (a' := ?_) ?_ ?_ ?_
        rotate_left 2
        · intro w'; go_simp; with_reducible rfl
        · simp only [Act.put, List.setIfInBounds_toArray, List.set_cons_zero, List.set_cons_succ]; rfl
        refine dtake 3 (some 29) rfl rfl (by kernel_rfl) (fun _ _ _ h => h) (by rfl) hS (v := ?_) (a' := ?_) ?_ ?_ ?_
        rotate_left 2
        · rintro w' ⟨s0,s1⟩; go_simp; with_reducible rfl
        · simp only [Act.put, List.setIfInBounds_toArray, List.set_cons_zero, List.set_cons_succ]; rfl
        refine dpure 4 (some 30) rfl rfl (by kernel_rfl) (fun _ _ _ h => h) (by rfl) (v := ?_) (a' := ?_) ?_ ?_ ?_
        rotate_left 2
        · intro w'; go_simp; with_reducible rfl
        · simp only [Act.put, List.setIfInBounds_toArray, List.set_cons_zero, List.set_cons_succ]; rfl
        refine dpure 5 (some 31) rfl rfl (by kernel_rfl) (fun _ _ _ h => h) (by rfl) (v := ?_) (a' := ?_) ?_ ?_ ?_
        rotate_left 2
        · intro w'; go_simp; with_reducible rfl
        · simp only [Act.put, List.setIfInBounds_toArray, List.set_cons_zero, List.set_cons_succ]; rfl
        refine dpure 6 (some 32) rfl rfl (by kernel_rfl) (fun _ _ _ h => h) (by rfl) (v := ?_) (a' := ?_) ?_ ?_ ?_
        rotate_left 2
        · intro w'; go_simp; with_reducible rfl
        · simp only [Act.put, List.setIfInBounds_toArray, List.set_cons_zero, List.set_cons_succ]; rfl
        refine dtake 7 (some 33) rfl rfl (by kernel_rfl) (fun _ _ _ h => h) (by rfl) hS (v := ?_) (a' := ?_) ?_ ?_ ?_
        rotate_left 2
        · rintro w' ⟨s0,s1⟩; go_simp; with_reducible rfl
        · simp only [Act.put, List.setIfInBounds_toArray, List.set_cons_zero, List.set_cons_succ]; rfl
        refine dpure 8 (some 34) rfl rfl (by kernel_rfl) (fun _ _ _ h => h) (by rfl) (v := ?_) (a' := ?_) ?_ ?_ ?_
        rotate_left 2
        · intro w'; go_simp; with_reducible rfl
        · simp only [Act.put, List.setIfInBounds_toArray, List.set_cons_zero, List.set_cons_succ]; rfl
        refine done1 9 (some 35) rfl rfl (by kernel_rfl) (by decide) (fun K hK => ?_)
        refine goes_ Try.func84 (by kernel_rfl) rfl #[.string s, .int .i64 at', .int .i64 en] (by rfl) rfl rfl (by kernel_rfl) ?_
        refine (refEnds_calls HS.out.1 HA.out.1 HA.out.2 HS.out.2.1 HS.out.2.2).mono ?_
        rintro e w2 ⟨rfl, hb⟩
        refine ⟨_, rfl, ?_⟩
        rw [HEn.out]
        have HR2 := Aside0.mk (St.below (w := wr.drew) HR.out hb)
        have ho2 := Only.of_below hb g
        have HO2 := Aside0.mk (HO.out.drew.trans ho2)
        have HB2 := Aside0.mk (R_only6 (w := wr.drew) (Kd.R_drew HB.out) HR.out (by decide) ho2)
        clear z0 z1 z2 f1 f2 hb ho2
        refine hK.out _ _ ⟨HR2.out.c0, HR2.out.c1⟩ (fun hS => ?_)
        clear hK K
        refine norm_ (a' := ?_) ?_ ?_
        rotate_left
        · simp only [Act.put, List.setIfInBounds_toArray, List.set_cons_zero, List.set_cons_succ]; rfl
        refine dpure 10 (some 36) rfl rfl (by kernel_rfl) (fun _ _ _ h => h) (by rfl) (v := ?_) (a' := ?_) ?_ ?_ ?_
        rotate_left 2
        · intro w'; go_simp; with_reducible rfl
        · simp only [Act.put, List.setIfInBounds_toArray, List.set_cons_zero, List.set_cons_succ]; rfl
        refine done_ (by kernel_rfl) ?_
        have f2 : w2.frozen? ⟨g, 2, none⟩ = false := blk_frozen HR2.out 2
        have f1 : w2.frozen? ⟨g, 1, none⟩ = false := blk_frozen HR2.out 1
        have z0 := HR2.out.c0
        have z1 := HR2.out.c1
        have z2 := HR2.out.c2
        go_wp2_with fail
        go_ret
        exact Ends6.err (HO2.out.set 2 _) (Kd.R_nil _ _ _ _ _) (HR2.out.set2 _) HE.out.symm (by decide)
      rw [if_neg c1] at he
      have HEn := Lib.hid (show endsF s at' en = true by simpa using c1)
      clear c1
      by_cases c2 : kind = 33
      · rw [if_pos c2] at he
        subst c2
        have e2 : ((33 : Int) == 33) = true := rfl
        cases h1 : bareAt s at' with
        | error c =>
          rw [h1] at he
          have H1 := Lib.hid h1
          have HE := Aside0.mk (show c ≠ 0 ∧ R = .error c from ⟨bareR_err _ h1, he.symm⟩)
          clear he h1
          go_wp2_with fail
          refine start_ (n := 11) (S := fun w' => w'.cell? ⟨g, 0, none⟩ = some (.string s) ∧ w'.cell? ⟨g, 1, none⟩ = some (.int .i64 at')) (ds := []) (Array.replicate 11 false) (by kernel_rfl) (by kernel_rfl) rfl ⟨z0, z1⟩ (fun hS => ?_)
          refine dpure 0 (some 26) rfl rfl (by kernel_rfl) (fun _ _ _ h => h) (by rfl) (v := ?_) (a' := ?_) ?_ ?_ ?_
          rotate_left 2
          · intro w'; go_simp; with_reducible rfl
          · simp only [Act.put, List.setIfInBounds_toArray, List.set_cons_zero, List.set_cons_succ]; rfl
          refine dpure 1 (some 27) rfl rfl (by kernel_rfl) (fun _ _ _ h => h) (by rfl) (v := ?_) (a' := ?_) ?_ ?_ ?_
          rotate_left 2
          · intro w'; go_simp; with_reducible rfl
          · simp only [Act.put, List.setIfInBounds_toArray, List.set_cons_zero, List.set_cons_succ]; rfl
          refine dpure 2 (some 28) rfl rfl (by kernel_rfl) (fun _ _ _ h => h) (by rfl) (v := ?_) (a' := ?_) ?_ ?_ ?_
          rotate_left 2
          · intro w'; go_simp; with_reducible rfl
          · simp only [Act.put, List.setIfInBounds_toArray, List.set_cons_zero, List.set_cons_succ]; rfl
          refine dtake 3 (some 29) rfl rfl (by kernel_rfl) (fun _ _ _ h => h) (by rfl) hS (v := ?_) (a' := ?_) ?_ ?_ ?_
          rotate_left 2
          · rintro w' ⟨s0,s1⟩; go_simp; with_reducible rfl
          · simp only [Act.put, List.setIfInBounds_toArray, List.set_cons_zero, List.set_cons_succ]; rfl
          refine dpure 4 (some 30) rfl rfl (by kernel_rfl) (fun _ _ _ h => h) (by rfl) (v := ?_) (a' := ?_) ?_ ?_ ?_
          rotate_left 2
          · intro w'; go_simp; with_reducible rfl
          · simp only [Act.put, List.setIfInBounds_toArray, List.set_cons_zero, List.set_cons_succ]; rfl
          refine dpure 5 (some 31) rfl rfl (by kernel_rfl) (fun _ _ _ h => h) (by rfl) (v := ?_) (a' := ?_) ?_ ?_ ?_
          rotate_left 2
          · intro w'; go_simp; with_reducible rfl
          · simp only [Act.put, List.setIfInBounds_toArray, List.set_cons_zero, List.set_cons_succ]; rfl
          refine dpure 6 (some 32) rfl rfl (by kernel_rfl) (fun _ _ _ h => h) (by rfl) (v := ?_) (a' := ?_) ?_ ?_ ?_
          rotate_left 2
          · intro w'; go_simp; with_reducible rfl
          · simp only [Act.put, List.setIfInBounds_toArray, List.set_cons_zero, List.set_cons_succ]; rfl
          refine dtake 7 (some 33) rfl rfl (by kernel_rfl) (fun _ _ _ h => h) (by rfl) hS (v := ?_) (a' := ?_) ?_ ?_ ?_
          rotate_left 2
          · rintro w' ⟨s0,s1⟩; go_simp; with_reducible rfl
          · simp only [Act.put, List.setIfInBounds_toArray, List.set_cons_zero, List.set_cons_succ]; rfl
          refine dpure 8 (some 34) rfl rfl (by kernel_rfl) (fun _ _ _ h => h) (by rfl) (v := ?_) (a' := ?_) ?_ ?_ ?_
          rotate_left 2
          · intro w'; go_simp; with_reducible rfl
          · simp only [Act.put, List.setIfInBounds_toArray, List.set_cons_zero, List.set_cons_succ]; rfl
          refine done1 9 (some 35) rfl rfl (by kernel_rfl) (by decide) (fun K hK => ?_)
          refine goes_ Try.func84 (by kernel_rfl) rfl #[.string s, .int .i64 at', .int .i64 en] (by rfl) rfl rfl (by kernel_rfl) ?_
          refine (refEnds_calls HS.out.1 HA.out.1 HA.out.2 HS.out.2.1 HS.out.2.2).mono ?_
          rintro e w2 ⟨rfl, hb⟩
          refine ⟨_, rfl, ?_⟩
          rw [HEn.out]
          have HR2 := Aside0.mk (St.below (w := wr.drew) HR.out hb)
          have ho2 := Only.of_below hb g
          have HO2 := Aside0.mk (HO.out.drew.trans ho2)
          have HB2 := Aside0.mk (R_only6 (w := wr.drew) (Kd.R_drew HB.out) HR.out (by decide) ho2)
          clear z0 z1 z2 f1 f2 hb ho2
          refine hK.out _ _ ⟨HR2.out.c0, HR2.out.c1⟩ (fun hS => ?_)
          clear hK K
          refine norm_ (a' := ?_) ?_ ?_
          rotate_left
          · simp only [Act.put, List.setIfInBounds_toArray, List.set_cons_zero, List.set_cons_succ]; rfl
          refine dpure 10 (some 36) rfl rfl (by kernel_rfl) (fun _ _ _ h => h) (by rfl) (v := ?_) (a' := ?_) ?_ ?_ ?_
          rotate_left 2
          · intro w'; go_simp; with_reducible rfl
          · simp only [Act.put, List.setIfInBounds_toArray, List.set_cons_zero, List.set_cons_succ]; rfl
          refine done_ (by kernel_rfl) ?_
          have f2 : w2.frozen? ⟨g, 2, none⟩ = false := blk_frozen HR2.out 2
          have f1 : w2.frozen? ⟨g, 1, none⟩ = false := blk_frozen HR2.out 1
          have z0 := HR2.out.c0
          have z1 := HR2.out.c1
          have z2 := HR2.out.c2
          go_wp2_with fail
          refine start_ (n := 16) (S := fun w' => w'.cell? ⟨g, 0, none⟩ = some (.string s) ∧ w'.cell? ⟨g, 1, none⟩ = some (.int .i64 at')) (ds := []) (Array.replicate 16 false) (by kernel_rfl) (by kernel_rfl) rfl ⟨z0, z1⟩ (fun hS => ?_)
          refine dpure 0 (some 43) rfl rfl (by kernel_rfl) (fun _ _ _ h => h) (by rfl) (v := ?_) (a' := ?_) ?_ ?_ ?_
          rotate_left 2
          · intro w'; go_simp; with_reducible rfl
          · simp only [Act.put, List.setIfInBounds_toArray, List.set_cons_zero, List.set_cons_succ]; rfl
          refine dpure 1 (some 44) rfl rfl (by kernel_rfl) (fun _ _ _ h => h) (by rfl) (v := ?_) (a' := ?_) ?_ ?_ ?_
          rotate_left 2
          · intro w'; go_simp; with_reducible rfl
          · simp only [Act.put, List.setIfInBounds_toArray, List.set_cons_zero, List.set_cons_succ]; rfl
          refine dpure 2 (some 45) rfl rfl (by kernel_rfl) (fun _ _ _ h => h) (by rfl) (v := ?_) (a' := ?_) ?_ ?_ ?_
          rotate_left 2
          · intro w'; go_simp; with_reducible rfl
          · simp only [Act.put, List.setIfInBounds_toArray, List.set_cons_zero, List.set_cons_succ]; rfl
          refine dtake 3 (some 46) rfl rfl (by kernel_rfl) (fun _ _ _ h => h) (by rfl) hS (v := ?_) (a' := ?_) ?_ ?_ ?_
          rotate_left 2
          · rintro w' ⟨s0,s1⟩; go_simp; with_reducible rfl
          · simp only [Act.put, List.setIfInBounds_toArray, List.set_cons_zero, List.set_cons_succ]; rfl
          refine dpure 4 (some 47) rfl rfl (by kernel_rfl) (fun _ _ _ h => h) (by rfl) (v := ?_) (a' := ?_) ?_ ?_ ?_
          rotate_left 2
          · intro w'; go_simp; with_reducible rfl
          · simp only [Act.put, List.setIfInBounds_toArray, List.set_cons_zero, List.set_cons_succ]; rfl
          refine dpure 5 (some 48) rfl rfl (by kernel_rfl) (fun _ _ _ h => h) (by rfl) (v := ?_) (a' := ?_) ?_ ?_ ?_
          rotate_left 2
          · intro w'; go_simp; with_reducible rfl
          · simp only [Act.put, List.setIfInBounds_toArray, List.set_cons_zero, List.set_cons_succ]; rfl
          refine dpure 6 (some 49) rfl rfl (by kernel_rfl) (fun _ _ _ h => h) (by rfl) (v := ?_) (a' := ?_) ?_ ?_ ?_
          rotate_left 2
          · intro w'; go_simp; with_reducible rfl
          · simp only [Act.put, List.setIfInBounds_toArray, List.set_cons_zero, List.set_cons_succ]; rfl
          refine dtake 7 (some 50) rfl rfl (by kernel_rfl) (fun _ _ _ h => h) (by rfl) hS (v := ?_) (a' := ?_) ?_ ?_ ?_
          rotate_left 2
          · rintro w' ⟨s0,s1⟩; go_simp; with_reducible rfl
          · simp only [Act.put, List.setIfInBounds_toArray, List.set_cons_zero, List.set_cons_succ]; rfl
          refine done1 8 (some 51) rfl rfl (by kernel_rfl) (by decide) (fun K hK => ?_)
          refine goes_ Try.func85 (by kernel_rfl) rfl #[.string s, .int .i64 at'] (by rfl) rfl rfl (by kernel_rfl) ?_
          refine (refBare_no H1.out _ HS.out.1 HA.out.1 HA.out.2 HS.out.2.1 HEn.out).mono ?_
          rintro e w3 ⟨rfl, hb⟩
          refine ⟨_, rfl, ?_⟩
          have HR3 := Aside0.mk (St.below (w := w2.drew) HR2.out hb)
          have ho3 := Only.of_below hb g
          have HO3 := Aside0.mk (HO2.out.drew.trans ho3)
          have HB3 := Aside0.mk (R_only6 (w := w2.drew) (Kd.R_drew HB2.out) HR2.out (by decide) ho3)
          clear z0 z1 z2 f1 f2 hb ho3
          refine hK.out _ _ ⟨HR3.out.c0, HR3.out.c1⟩ (fun hS => ?_)
          clear hK K
          refine norm_ (a' := ?_) ?_ ?_
          rotate_left
          · simp only [Act.put, List.setIfInBounds_toArray, List.set_cons_zero, List.set_cons_succ]; rfl
          refine dpure 9 (some 42) rfl rfl (by kernel_rfl) (fun _ _ _ h => h) (by rfl) (v := ?_) (a' := ?_) ?_ ?_ ?_
          rotate_left 2
          · intro w'; go_simp; with_reducible rfl
          · simp only [Act.put, List.setIfInBounds_toArray, List.set_cons_zero, List.set_cons_succ]; rfl
          refine dpure 10 (some 52) rfl rfl (by kernel_rfl) (fun _ _ _ h => h) (by rfl) (v := ?_) (a' := ?_) ?_ ?_ ?_
          rotate_left 2
          · intro w'; go_simp; with_reducible rfl
          · simp only [Act.put, List.setIfInBounds_toArray, List.set_cons_zero, List.set_cons_succ]; rfl
          refine dpure 11 (some 53) rfl rfl (by kernel_rfl) (fun _ _ _ h => h) (by rfl) (v := ?_) (a' := ?_) ?_ ?_ ?_
          rotate_left 2
          · intro w'; go_simp; with_reducible rfl
          · simp only [Act.put, List.setIfInBounds_toArray, List.set_cons_zero, List.set_cons_succ]; rfl
          refine dpure 12 (some 54) rfl rfl (by kernel_rfl) (fun _ _ _ h => h) (by rfl) (v := ?_) (a' := ?_) ?_ ?_ ?_
          rotate_left 2
          · intro w'; go_simp; with_reducible rfl
          · simp only [Act.put, List.setIfInBounds_toArray, List.set_cons_zero, List.set_cons_succ]; rfl
          refine dpure 13 (some 11) rfl rfl (by kernel_rfl) (fun _ _ _ h => h) (by rfl) (v := ?_) (a' := ?_) ?_ ?_ ?_
          rotate_left 2
          · intro w'; go_simp; with_reducible rfl
          · simp only [Act.put, List.setIfInBounds_toArray, List.set_cons_zero, List.set_cons_succ]; rfl
          refine dpure 14 (some 12) rfl rfl (by kernel_rfl) (fun _ _ _ h => h) (by rfl) (v := ?_) (a' := ?_) ?_ ?_ ?_
          rotate_left 2
          · intro w'; go_simp; with_reducible rfl
          · simp only [Act.put, List.setIfInBounds_toArray, List.set_cons_zero, List.set_cons_succ]; rfl
          refine dpure 15 (some 13) rfl rfl (by kernel_rfl) (fun _ _ _ h => h) (by rfl) (v := ?_) (a' := ?_) ?_ ?_ ?_
          rotate_left 2
          · intro w'; go_simp; with_reducible rfl
          · simp only [Act.put, List.setIfInBounds_toArray, List.set_cons_zero, List.set_cons_succ]; rfl
          refine done_ (by kernel_rfl) ?_
          have f2 : w3.frozen? ⟨g, 2, none⟩ = false := blk_frozen HR3.out 2
          have f1 : w3.frozen? ⟨g, 1, none⟩ = false := blk_frozen HR3.out 1
          have z0 := HR3.out.c0
          have z1 := HR3.out.c1
          have z2 := HR3.out.c2
          have HR5 := Aside0.mk ((HR3.out.set2 c).set1 0)
          have HO5 := Aside0.mk ((HO3.out.set 2 (.int .i64 c)).set 1 (.int .i64 0))
          have HB5 := Aside0.mk (strs_set (strs_set HB3.out HR3.out 2 (.int .i64 c)) (HR3.out.set2 c) 1 (.int .i64 0))
          go_wp2_with (((with_reducible refine gate_builtin (b := .append) (xs := #[.tmp 63, .tmp 65]) rfl ?_); at_builtin; go_must (refine appS rfl (.tmp 63) (.tmp 65) rfl rfl (by first | rfl | (go_simp; done)) HB5.out (Below.refl _ _) (fun _ _ _ => trivial) HO5.out.size HL1.out ?_; intro va wa hoa hba hga hata)); go_must (have HR4 := Aside0.mk (blk_grown HR5.out hga (Kd.R_ne HB5.out HR5.out (by decide))); have HO4 := Aside0.mk (HO5.out.of_grown hga (Kd.R_base HB5.out)); have HB4 := Aside0.mk hoa; clear hoa hba hga hata))
          go_roundg k
          case measure => omega
          case rel => exact ⟨i + 1, _, 0, c, by go_num, ⟨.inr HE.out⟩, ⟨by have := HK.out; omega⟩, ⟨by have := HL.out; rw [List.length_append, List.length_singleton]; omega⟩, HR4, HO4, HB4⟩
        | ok x =>
          obtain ⟨b, nx⟩ := x
          rw [h1] at he
          simp only [] at he
          have H1 := Lib.hid h1
          have hx := bareR_at _ h1
          have HE := Aside0.mk (show namesR s 33 en k (out ++ [strOfNums b]) nx = R ∧ 0 ≤ nx ∧ nx ≤ s.size from ⟨he, hx⟩)
          clear he h1 hx
          go_wp2_with fail
          refine start_ (n := 11) (S := fun w' => w'.cell? ⟨g, 0, none⟩ = some (.string s) ∧ w'.cell? ⟨g, 1, none⟩ = some (.int .i64 at')) (ds := []) (Array.replicate 11 false) (by kernel_rfl) (by kernel_rfl) rfl ⟨z0, z1⟩ (fun hS => ?_)
          refine dpure 0 (some 26) rfl rfl (by kernel_rfl) (fun _ _ _ h => h) (by rfl) (v := ?_) (a' := ?_) ?_ ?_ ?_
          rotate_left 2
          · intro w'; go_simp; with_reducible rfl
          · simp only [Act.put, List.setIfInBounds_toArray, List.set_cons_zero, List.set_cons_succ]; rfl
          refine dpure 1 (some 27) rfl rfl (by kernel_rfl) (fun _ _ _ h => h) (by rfl) (v := ?_) (a' := ?_) ?_ ?_ ?_
          rotate_left 2
          · intro w'; go_simp; with_reducible rfl
          · simp only [Act.put, List.setIfInBounds_toArray, List.set_cons_zero, List.set_cons_succ]; rfl
          refine dpure 2 (some 28) rfl rfl (by kernel_rfl) (fun _ _ _ h => h) (by rfl) (v := ?_) (a' := ?_) ?_ ?_ ?_
          rotate_left 2
          · intro w'; go_simp; with_reducible rfl
          · simp only [Act.put, List.setIfInBounds_toArray, List.set_cons_zero, List.set_cons_succ]; rfl
          refine dtake 3 (some 29) rfl rfl (by kernel_rfl) (fun _ _ _ h => h) (by rfl) hS (v := ?_) (a' := ?_) ?_ ?_ ?_
          rotate_left 2
          · rintro w' ⟨s0,s1⟩; go_simp; with_reducible rfl
          · simp only [Act.put, List.setIfInBounds_toArray, List.set_cons_zero, List.set_cons_succ]; rfl
          refine dpure 4 (some 30) rfl rfl (by kernel_rfl) (fun _ _ _ h => h) (by rfl) (v := ?_) (a' := ?_) ?_ ?_ ?_
          rotate_left 2
          · intro w'; go_simp; with_reducible rfl
          · simp only [Act.put, List.setIfInBounds_toArray, List.set_cons_zero, List.set_cons_succ]; rfl
          refine dpure 5 (some 31) rfl rfl (by kernel_rfl) (fun _ _ _ h => h) (by rfl) (v := ?_) (a' := ?_) ?_ ?_ ?_
          rotate_left 2
          · intro w'; go_simp; with_reducible rfl
          · simp only [Act.put, List.setIfInBounds_toArray, List.set_cons_zero, List.set_cons_succ]; rfl
          refine dpure 6 (some 32) rfl rfl (by kernel_rfl) (fun _ _ _ h => h) (by rfl) (v := ?_) (a' := ?_) ?_ ?_ ?_
          rotate_left 2
          · intro w'; go_simp; with_reducible rfl
          · simp only [Act.put, List.setIfInBounds_toArray, List.set_cons_zero, List.set_cons_succ]; rfl
          refine dtake 7 (some 33) rfl rfl (by kernel_rfl) (fun _ _ _ h => h) (by rfl) hS (v := ?_) (a' := ?_) ?_ ?_ ?_
          rotate_left 2
          · rintro w' ⟨s0,s1⟩; go_simp; with_reducible rfl
          · simp only [Act.put, List.setIfInBounds_toArray, List.set_cons_zero, List.set_cons_succ]; rfl
          refine dpure 8 (some 34) rfl rfl (by kernel_rfl) (fun _ _ _ h => h) (by rfl) (v := ?_) (a' := ?_) ?_ ?_ ?_
          rotate_left 2
          · intro w'; go_simp; with_reducible rfl
          · simp only [Act.put, List.setIfInBounds_toArray, List.set_cons_zero, List.set_cons_succ]; rfl
          refine done1 9 (some 35) rfl rfl (by kernel_rfl) (by decide) (fun K hK => ?_)
          refine goes_ Try.func84 (by kernel_rfl) rfl #[.string s, .int .i64 at', .int .i64 en] (by rfl) rfl rfl (by kernel_rfl) ?_
          refine (refEnds_calls HS.out.1 HA.out.1 HA.out.2 HS.out.2.1 HS.out.2.2).mono ?_
          rintro e w2 ⟨rfl, hb⟩
          refine ⟨_, rfl, ?_⟩
          rw [HEn.out]
          have HR2 := Aside0.mk (St.below (w := wr.drew) HR.out hb)
          have ho2 := Only.of_below hb g
          have HO2 := Aside0.mk (HO.out.drew.trans ho2)
          have HB2 := Aside0.mk (R_only6 (w := wr.drew) (Kd.R_drew HB.out) HR.out (by decide) ho2)
          clear z0 z1 z2 f1 f2 hb ho2
          refine hK.out _ _ ⟨HR2.out.c0, HR2.out.c1⟩ (fun hS => ?_)
          clear hK K
          refine norm_ (a' := ?_) ?_ ?_
          rotate_left
          · simp only [Act.put, List.setIfInBounds_toArray, List.set_cons_zero, List.set_cons_succ]; rfl
          refine dpure 10 (some 36) rfl rfl (by kernel_rfl) (fun _ _ _ h => h) (by rfl) (v := ?_) (a' := ?_) ?_ ?_ ?_
          rotate_left 2
          · intro w'; go_simp; with_reducible rfl
          · simp only [Act.put, List.setIfInBounds_toArray, List.set_cons_zero, List.set_cons_succ]; rfl
          refine done_ (by kernel_rfl) ?_
          have f2 : w2.frozen? ⟨g, 2, none⟩ = false := blk_frozen HR2.out 2
          have f1 : w2.frozen? ⟨g, 1, none⟩ = false := blk_frozen HR2.out 1
          have z0 := HR2.out.c0
          have z1 := HR2.out.c1
          have z2 := HR2.out.c2
          go_wp2_with fail
          refine start_ (n := 16) (S := fun w' => w'.cell? ⟨g, 0, none⟩ = some (.string s) ∧ w'.cell? ⟨g, 1, none⟩ = some (.int .i64 at')) (ds := []) (Array.replicate 16 false) (by kernel_rfl) (by kernel_rfl) rfl ⟨z0, z1⟩ (fun hS => ?_)
          refine dpure 0 (some 43) rfl rfl (by kernel_rfl) (fun _ _ _ h => h) (by rfl) (v := ?_) (a' := ?_) ?_ ?_ ?_
          rotate_left 2
          · intro w'; go_simp; with_reducible rfl
          · simp only [Act.put, List.setIfInBounds_toArray, List.set_cons_zero, List.set_cons_succ]; rfl
          refine dpure 1 (some 44) rfl rfl (by kernel_rfl) (fun _ _ _ h => h) (by rfl) (v := ?_) (a' := ?_) ?_ ?_ ?_
          rotate_left 2
          · intro w'; go_simp; with_reducible rfl
          · simp only [Act.put, List.setIfInBounds_toArray, List.set_cons_zero, List.set_cons_succ]; rfl
          refine dpure 2 (some 45) rfl rfl (by kernel_rfl) (fun _ _ _ h => h) (by rfl) (v := ?_) (a' := ?_) ?_ ?_ ?_
          rotate_left 2
          · intro w'; go_simp; with_reducible rfl
          · simp only [Act.put, List.setIfInBounds_toArray, List.set_cons_zero, List.set_cons_succ]; rfl
          refine dtake 3 (some 46) rfl rfl (by kernel_rfl) (fun _ _ _ h => h) (by rfl) hS (v := ?_) (a' := ?_) ?_ ?_ ?_
          rotate_left 2
          · rintro w' ⟨s0,s1⟩; go_simp; with_reducible rfl
          · simp only [Act.put, List.setIfInBounds_toArray, List.set_cons_zero, List.set_cons_succ]; rfl
          refine dpure 4 (some 47) rfl rfl (by kernel_rfl) (fun _ _ _ h => h) (by rfl) (v := ?_) (a' := ?_) ?_ ?_ ?_
          rotate_left 2
          · intro w'; go_simp; with_reducible rfl
          · simp only [Act.put, List.setIfInBounds_toArray, List.set_cons_zero, List.set_cons_succ]; rfl
          refine dpure 5 (some 48) rfl rfl (by kernel_rfl) (fun _ _ _ h => h) (by rfl) (v := ?_) (a' := ?_) ?_ ?_ ?_
          rotate_left 2
          · intro w'; go_simp; with_reducible rfl
          · simp only [Act.put, List.setIfInBounds_toArray, List.set_cons_zero, List.set_cons_succ]; rfl
          refine dpure 6 (some 49) rfl rfl (by kernel_rfl) (fun _ _ _ h => h) (by rfl) (v := ?_) (a' := ?_) ?_ ?_ ?_
          rotate_left 2
          · intro w'; go_simp; with_reducible rfl
          · simp only [Act.put, List.setIfInBounds_toArray, List.set_cons_zero, List.set_cons_succ]; rfl
          refine dtake 7 (some 50) rfl rfl (by kernel_rfl) (fun _ _ _ h => h) (by rfl) hS (v := ?_) (a' := ?_) ?_ ?_ ?_
          rotate_left 2
          · rintro w' ⟨s0,s1⟩; go_simp; with_reducible rfl
          · simp only [Act.put, List.setIfInBounds_toArray, List.set_cons_zero, List.set_cons_succ]; rfl
          refine done1 8 (some 51) rfl rfl (by kernel_rfl) (by decide) (fun K hK => ?_)
          refine goes_ Try.func85 (by kernel_rfl) rfl #[.string s, .int .i64 at'] (by rfl) rfl rfl (by kernel_rfl) ?_
          refine (refBare_yes H1.out _ HS.out.1 HA.out.1 HA.out.2 HS.out.2.1 HEn.out).mono ?_
          rintro e w3 ⟨rfl, hb⟩
          refine ⟨_, rfl, ?_⟩
          have HR3 := Aside0.mk (St.below (w := w2.drew) HR2.out hb)
          have ho3 := Only.of_below hb g
          have HO3 := Aside0.mk (HO2.out.drew.trans ho3)
          have HB3 := Aside0.mk (R_only6 (w := w2.drew) (Kd.R_drew HB2.out) HR2.out (by decide) ho3)
          clear z0 z1 z2 f1 f2 hb ho3
          refine hK.out _ _ ⟨HR3.out.c0, HR3.out.c1⟩ (fun hS => ?_)
          clear hK K
          refine norm_ (a' := ?_) ?_ ?_
          rotate_left
          · simp only [Act.put, List.setIfInBounds_toArray, List.set_cons_zero, List.set_cons_succ]; rfl
          refine dpure 9 (some 42) rfl rfl (by kernel_rfl) (fun _ _ _ h => h) (by rfl) (v := ?_) (a' := ?_) ?_ ?_ ?_
          rotate_left 2
          · intro w'; go_simp; with_reducible rfl
          · simp only [Act.put, List.setIfInBounds_toArray, List.set_cons_zero, List.set_cons_succ]; rfl
          refine dpure 10 (some 52) rfl rfl (by kernel_rfl) (fun _ _ _ h => h) (by rfl) (v := ?_) (a' := ?_) ?_ ?_ ?_
          rotate_left 2
          · intro w'; go_simp; with_reducible rfl
          · simp only [Act.put, List.setIfInBounds_toArray, List.set_cons_zero, List.set_cons_succ]; rfl
          refine dpure 11 (some 53) rfl rfl (by kernel_rfl) (fun _ _ _ h => h) (by rfl) (v := ?_) (a' := ?_) ?_ ?_ ?_
          rotate_left 2
          · intro w'; go_simp; with_reducible rfl
          · simp only [Act.put, List.setIfInBounds_toArray, List.set_cons_zero, List.set_cons_succ]; rfl
          refine dpure 12 (some 54) rfl rfl (by kernel_rfl) (fun _ _ _ h => h) (by rfl) (v := ?_) (a' := ?_) ?_ ?_ ?_
          rotate_left 2
          · intro w'; go_simp; with_reducible rfl
          · simp only [Act.put, List.setIfInBounds_toArray, List.set_cons_zero, List.set_cons_succ]; rfl
          refine dpure 13 (some 11) rfl rfl (by kernel_rfl) (fun _ _ _ h => h) (by rfl) (v := ?_) (a' := ?_) ?_ ?_ ?_
          rotate_left 2
          · intro w'; go_simp; with_reducible rfl
          · simp only [Act.put, List.setIfInBounds_toArray, List.set_cons_zero, List.set_cons_succ]; rfl
          refine dpure 14 (some 12) rfl rfl (by kernel_rfl) (fun _ _ _ h => h) (by rfl) (v := ?_) (a' := ?_) ?_ ?_ ?_
          rotate_left 2
          · intro w'; go_simp; with_reducible rfl
          · simp only [Act.put, List.setIfInBounds_toArray, List.set_cons_zero, List.set_cons_succ]; rfl
          refine dpure 15 (some 13) rfl rfl (by kernel_rfl) (fun _ _ _ h => h) (by rfl) (v := ?_) (a' := ?_) ?_ ?_ ?_
          rotate_left 2
          · intro w'; go_simp; with_reducible rfl
          · simp only [Act.put, List.setIfInBounds_toArray, List.set_cons_zero, List.set_cons_succ]; rfl
          refine done_ (by kernel_rfl) ?_
          have f2 : w3.frozen? ⟨g, 2, none⟩ = false := blk_frozen HR3.out 2
          have f1 : w3.frozen? ⟨g, 1, none⟩ = false := blk_frozen HR3.out 1
          have z0 := HR3.out.c0
          have z1 := HR3.out.c1
          have z2 := HR3.out.c2
          have HR5 := Aside0.mk ((HR3.out.set2 0).set1 nx)
          have HO5 := Aside0.mk ((HO3.out.set 2 (.int .i64 0)).set 1 (.int .i64 nx))
          have HB5 := Aside0.mk (strs_set (strs_set HB3.out HR3.out 2 (.int .i64 0)) (HR3.out.set2 0) 1 (.int .i64 nx))
          go_wp2_with (((with_reducible refine gate_builtin (b := .append) (xs := #[.tmp 63, .tmp 65]) rfl ?_); at_builtin; go_must (refine appS rfl (.tmp 63) (.tmp 65) rfl rfl (by first | rfl | (go_simp; done)) HB5.out (Below.refl _ _) (fun _ _ _ => trivial) HO5.out.size HL1.out ?_; intro va wa hoa hba hga hata)); go_must (have HR4 := Aside0.mk (blk_grown HR5.out hga (Kd.R_ne HB5.out HR5.out (by decide))); have HO4 := Aside0.mk (HO5.out.of_grown hga (Kd.R_base HB5.out)); have HB4 := Aside0.mk hoa; clear hoa hba hga hata))
          go_roundg k
          case measure => omega
          case rel => exact ⟨i + 1, _, nx, 0, by go_num, ⟨.inl ⟨rfl, HE.out⟩⟩, ⟨by have := HK.out; omega⟩, ⟨by have := HL.out; rw [List.length_append, List.length_singleton]; omega⟩, HR4, HO4, HB4⟩
      · rw [if_neg c2] at he
        have e2 : (kind == 33) = false := beq_eq_false_iff_ne.mpr c2
        clear c2
        cases h1 : nameAt s at' with
        | error c =>
          rw [h1] at he
          have H1 := Lib.hid h1
          have HE := Aside0.mk (show c ≠ 0 ∧ R = .error c from ⟨nameR_err _ h1, he.symm⟩)
          clear he h1
          go_wp2_with fail
          refine start_ (n := 11) (S := fun w' => w'.cell? ⟨g, 0, none⟩ = some (.string s) ∧ w'.cell? ⟨g, 1, none⟩ = some (.int .i64 at')) (ds := []) (Array.replicate 11 false) (by kernel_rfl) (by kernel_rfl) rfl ⟨z0, z1⟩ (fun hS => ?_)
          refine dpure 0 (some 26) rfl rfl (by kernel_rfl) (fun _ _ _ h => h) (by rfl) (v := ?_) (a' := ?_) ?_ ?_ ?_
          rotate_left 2
          · intro w'; go_simp; with_reducible rfl
          · simp only [Act.put, List.setIfInBounds_toArray, List.set_cons_zero, List.set_cons_succ]; rfl
          refine dpure 1 (some 27) rfl rfl (by kernel_rfl) (fun _ _ _ h => h) (by rfl) (v := ?_) (a' := ?_) ?_ ?_ ?_
          rotate_left 2
          · intro w'; go_simp; with_reducible rfl
          · simp only [Act.put, List.setIfInBounds_toArray, List.set_cons_zero, List.set_cons_succ]; rfl
          refine dpure 2 (some 28) rfl rfl (by kernel_rfl) (fun _ _ _ h => h) (by rfl) (v := ?_) (a' := ?_) ?_ ?_ ?_
          rotate_left 2
          · intro w'; go_simp; with_reducible rfl
          · simp only [Act.put, List.setIfInBounds_toArray, List.set_cons_zero, List.set_cons_succ]; rfl
          refine dtake 3 (some 29) rfl rfl (by kernel_rfl) (fun _ _ _ h => h) (by rfl) hS (v := ?_) (a' := ?_) ?_ ?_ ?_
          rotate_left 2
          · rintro w' ⟨s0,s1⟩; go_simp; with_reducible rfl
          · simp only [Act.put, List.setIfInBounds_toArray, List.set_cons_zero, List.set_cons_succ]; rfl
          refine dpure 4 (some 30) rfl rfl (by kernel_rfl) (fun _ _ _ h => h) (by rfl) (v := ?_) (a' := ?_) ?_ ?_ ?_
          rotate_left 2
          · intro w'; go_simp; with_reducible rfl
          · simp only [Act.put, List.setIfInBounds_toArray, List.set_cons_zero, List.set_cons_succ]; rfl
          refine dpure 5 (some 31) rfl rfl (by kernel_rfl) (fun _ _ _ h => h) (by rfl) (v := ?_) (a' := ?_) ?_ ?_ ?_
          rotate_left 2
          · intro w'; go_simp; with_reducible rfl
          · simp only [Act.put, List.setIfInBounds_toArray, List.set_cons_zero, List.set_cons_succ]; rfl
          refine dpure 6 (some 32) rfl rfl (by kernel_rfl) (fun _ _ _ h => h) (by rfl) (v := ?_) (a' := ?_) ?_ ?_ ?_
          rotate_left 2
          · intro w'; go_simp; with_reducible rfl
          · simp only [Act.put, List.setIfInBounds_toArray, List.set_cons_zero, List.set_cons_succ]; rfl
          refine dtake 7 (some 33) rfl rfl (by kernel_rfl) (fun _ _ _ h => h) (by rfl) hS (v := ?_) (a' := ?_) ?_ ?_ ?_
          rotate_left 2
          · rintro w' ⟨s0,s1⟩; go_simp; with_reducible rfl
          · simp only [Act.put, List.setIfInBounds_toArray, List.set_cons_zero, List.set_cons_succ]; rfl
          refine dpure 8 (some 34) rfl rfl (by kernel_rfl) (fun _ _ _ h => h) (by rfl) (v := ?_) (a' := ?_) ?_ ?_ ?_
          rotate_left 2
          · intro w'; go_simp; with_reducible rfl
          · simp only [Act.put, List.setIfInBounds_toArray, List.set_cons_zero, List.set_cons_succ]; rfl
          refine done1 9 (some 35) rfl rfl (by kernel_rfl) (by decide) (fun K hK => ?_)
          refine goes_ Try.func84 (by kernel_rfl) rfl #[.string s, .int .i64 at', .int .i64 en] (by rfl) rfl rfl (by kernel_rfl) ?_
          refine (refEnds_calls HS.out.1 HA.out.1 HA.out.2 HS.out.2.1 HS.out.2.2).mono ?_
          rintro e w2 ⟨rfl, hb⟩
          refine ⟨_, rfl, ?_⟩
          rw [HEn.out]
          have HR2 := Aside0.mk (St.below (w := wr.drew) HR.out hb)
          have ho2 := Only.of_below hb g
          have HO2 := Aside0.mk (HO.out.drew.trans ho2)
          have HB2 := Aside0.mk (R_only6 (w := wr.drew) (Kd.R_drew HB.out) HR.out (by decide) ho2)
          clear z0 z1 z2 f1 f2 hb ho2
          refine hK.out _ _ ⟨HR2.out.c0, HR2.out.c1⟩ (fun hS => ?_)
          clear hK K
          refine norm_ (a' := ?_) ?_ ?_
          rotate_left
          · simp only [Act.put, List.setIfInBounds_toArray, List.set_cons_zero, List.set_cons_succ]; rfl
          refine dpure 10 (some 36) rfl rfl (by kernel_rfl) (fun _ _ _ h => h) (by rfl) (v := ?_) (a' := ?_) ?_ ?_ ?_
          rotate_left 2
          · intro w'; go_simp; with_reducible rfl
          · simp only [Act.put, List.setIfInBounds_toArray, List.set_cons_zero, List.set_cons_succ]; rfl
          refine done_ (by kernel_rfl) ?_
          have f2 : w2.frozen? ⟨g, 2, none⟩ = false := blk_frozen HR2.out 2
          have f1 : w2.frozen? ⟨g, 1, none⟩ = false := blk_frozen HR2.out 1
          have z0 := HR2.out.c0
          have z1 := HR2.out.c1
          have z2 := HR2.out.c2
          go_wp2_with fail
          refine (name6_no HR2.out HS.out.1 HA.out.1 HA.out.2 H1.out).mono ?_
          rintro r w3 ⟨rfl, hr, ho⟩
          have HR3 := Aside0.mk hr
          have HO3 := Aside0.mk (HO2.out.trans ho)
          have HB3 := Aside0.mk (R_only6 HB2.out HR2.out (by decide) ho)
          clear hr ho z0 z1 z2 f1 f2
          go_wp2_with (((with_reducible refine gate_builtin (b := .append) (xs := #[.tmp 67, .tmp 70]) rfl ?_); at_builtin; go_must (refine appS rfl (.tmp 67) (.tmp 70) rfl rfl (by first | rfl | (go_simp; done)) HB3.out (Below.refl _ _) (fun _ _ _ => trivial) HO3.out.size HL1.out ?_; intro va wa hoa hba hga hata)); go_must (have HR4 := Aside0.mk (blk_grown HR3.out hga (Kd.R_ne HB3.out HR3.out (by decide))); have HO4 := Aside0.mk (HO3.out.of_grown hga (Kd.R_base HB3.out)); have HB4 := Aside0.mk hoa; clear hoa hba hga hata))
          go_roundg k
          case measure => omega
          case rel => exact ⟨i + 1, _, 0, c, by go_num, ⟨.inr HE.out⟩, ⟨by have := HK.out; omega⟩, ⟨by have := HL.out; rw [List.length_append, List.length_singleton]; omega⟩, HR4, HO4, HB4⟩
        | ok x =>
          obtain ⟨b, nx⟩ := x
          rw [h1] at he
          simp only [] at he
          have H1 := Lib.hid h1
          have hx := nameR_at _ h1 (by omega)
          have HE := Aside0.mk (show namesR s kind en k (out ++ [strOfNums b]) nx = R ∧ 0 ≤ nx ∧ nx ≤ s.size from ⟨he, hx⟩)
          clear he h1 hx
          go_wp2_with fail
          refine start_ (n := 11) (S := fun w' => w'.cell? ⟨g, 0, none⟩ = some (.string s) ∧ w'.cell? ⟨g, 1, none⟩ = some (.int .i64 at')) (ds := []) (Array.replicate 11 false) (by kernel_rfl) (by kernel_rfl) rfl ⟨z0, z1⟩ (fun hS => ?_)
          refine dpure 0 (some 26) rfl rfl (by kernel_rfl) (fun _ _ _ h => h) (by rfl) (v := ?_) (a' := ?_) ?_ ?_ ?_
          rotate_left 2
          · intro w'; go_simp; with_reducible rfl
          · simp only [Act.put, List.setIfInBounds_toArray, List.set_cons_zero, List.set_cons_succ]; rfl
          refine dpure 1 (some 27) rfl rfl (by kernel_rfl) (fun _ _ _ h => h) (by rfl) (v := ?_) (a' := ?_) ?_ ?_ ?_
          rotate_left 2
          · intro w'; go_simp; with_reducible rfl
          · simp only [Act.put, List.setIfInBounds_toArray, List.set_cons_zero, List.set_cons_succ]; rfl
          refine dpure 2 (some 28) rfl rfl (by kernel_rfl) (fun _ _ _ h => h) (by rfl) (v := ?_) (a' := ?_) ?_ ?_ ?_
          rotate_left 2
          · intro w'; go_simp; with_reducible rfl
          · simp only [Act.put, List.setIfInBounds_toArray, List.set_cons_zero, List.set_cons_succ]; rfl
          refine dtake 3 (some 29) rfl rfl (by kernel_rfl) (fun _ _ _ h => h) (by rfl) hS (v := ?_) (a' := ?_) ?_ ?_ ?_
          rotate_left 2
          · rintro w' ⟨s0,s1⟩; go_simp; with_reducible rfl
          · simp only [Act.put, List.setIfInBounds_toArray, List.set_cons_zero, List.set_cons_succ]; rfl
          refine dpure 4 (some 30) rfl rfl (by kernel_rfl) (fun _ _ _ h => h) (by rfl) (v := ?_) (a' := ?_) ?_ ?_ ?_
          rotate_left 2
          · intro w'; go_simp; with_reducible rfl
          · simp only [Act.put, List.setIfInBounds_toArray, List.set_cons_zero, List.set_cons_succ]; rfl
          refine dpure 5 (some 31) rfl rfl (by kernel_rfl) (fun _ _ _ h => h) (by rfl) (v := ?_) (a' := ?_) ?_ ?_ ?_
          rotate_left 2
          · intro w'; go_simp; with_reducible rfl
          · simp only [Act.put, List.setIfInBounds_toArray, List.set_cons_zero, List.set_cons_succ]; rfl
          refine dpure 6 (some 32) rfl rfl (by kernel_rfl) (fun _ _ _ h => h) (by rfl) (v := ?_) (a' := ?_) ?_ ?_ ?_
          rotate_left 2
          · intro w'; go_simp; with_reducible rfl
          · simp only [Act.put, List.setIfInBounds_toArray, List.set_cons_zero, List.set_cons_succ]; rfl
          refine dtake 7 (some 33) rfl rfl (by kernel_rfl) (fun _ _ _ h => h) (by rfl) hS (v := ?_) (a' := ?_) ?_ ?_ ?_
          rotate_left 2
          · rintro w' ⟨s0,s1⟩; go_simp; with_reducible rfl
          · simp only [Act.put, List.setIfInBounds_toArray, List.set_cons_zero, List.set_cons_succ]; rfl
          refine dpure 8 (some 34) rfl rfl (by kernel_rfl) (fun _ _ _ h => h) (by rfl) (v := ?_) (a' := ?_) ?_ ?_ ?_
          rotate_left 2
          · intro w'; go_simp; with_reducible rfl
          · simp only [Act.put, List.setIfInBounds_toArray, List.set_cons_zero, List.set_cons_succ]; rfl
          refine done1 9 (some 35) rfl rfl (by kernel_rfl) (by decide) (fun K hK => ?_)
          refine goes_ Try.func84 (by kernel_rfl) rfl #[.string s, .int .i64 at', .int .i64 en] (by rfl) rfl rfl (by kernel_rfl) ?_
          refine (refEnds_calls HS.out.1 HA.out.1 HA.out.2 HS.out.2.1 HS.out.2.2).mono ?_
          rintro e w2 ⟨rfl, hb⟩
          refine ⟨_, rfl, ?_⟩
          rw [HEn.out]
          have HR2 := Aside0.mk (St.below (w := wr.drew) HR.out hb)
          have ho2 := Only.of_below hb g
          have HO2 := Aside0.mk (HO.out.drew.trans ho2)
          have HB2 := Aside0.mk (R_only6 (w := wr.drew) (Kd.R_drew HB.out) HR.out (by decide) ho2)
          clear z0 z1 z2 f1 f2 hb ho2
          refine hK.out _ _ ⟨HR2.out.c0, HR2.out.c1⟩ (fun hS => ?_)
          clear hK K
          refine norm_ (a' := ?_) ?_ ?_
          rotate_left
          · simp only [Act.put, List.setIfInBounds_toArray, List.set_cons_zero, List.set_cons_succ]; rfl
          refine dpure 10 (some 36) rfl rfl (by kernel_rfl) (fun _ _ _ h => h) (by rfl) (v := ?_) (a' := ?_) ?_ ?_ ?_
          rotate_left 2
          · intro w'; go_simp; with_reducible rfl
          · simp only [Act.put, List.setIfInBounds_toArray, List.set_cons_zero, List.set_cons_succ]; rfl
          refine done_ (by kernel_rfl) ?_
          have f2 : w2.frozen? ⟨g, 2, none⟩ = false := blk_frozen HR2.out 2
          have f1 : w2.frozen? ⟨g, 1, none⟩ = false := blk_frozen HR2.out 1
          have z0 := HR2.out.c0
          have z1 := HR2.out.c1
          have z2 := HR2.out.c2
          go_wp2_with fail
          refine (name6_yes HR2.out HS.out.1 HA.out.1 HA.out.2 H1.out).mono ?_
          rintro r w3 ⟨rfl, hr, ho⟩
          have HR3 := Aside0.mk hr
          have HO3 := Aside0.mk (HO2.out.trans ho)
          have HB3 := Aside0.mk (R_only6 HB2.out HR2.out (by decide) ho)
          clear hr ho z0 z1 z2 f1 f2
          go_wp2_with (((with_reducible refine gate_builtin (b := .append) (xs := #[.tmp 67, .tmp 70]) rfl ?_); at_builtin; go_must (refine appS rfl (.tmp 67) (.tmp 70) rfl rfl (by first | rfl | (go_simp; done)) HB3.out (Below.refl _ _) (fun _ _ _ => trivial) HO3.out.size HL1.out ?_; intro va wa hoa hba hga hata)); go_must (have HR4 := Aside0.mk (blk_grown HR3.out hga (Kd.R_ne HB3.out HR3.out (by decide))); have HO4 := Aside0.mk (HO3.out.of_grown hga (Kd.R_base HB3.out)); have HB4 := Aside0.mk hoa; clear hoa hba hga hata))
          go_roundg k
          case measure => omega
          case rel => exact ⟨i + 1, _, nx, 0, by go_num, ⟨.inl ⟨rfl, HE.out⟩⟩, ⟨by have := HK.out; omega⟩, ⟨by have := HL.out; rw [List.length_append, List.length_singleton]; omega⟩, HR4, HO4, HB4⟩
end Go.Proofs.Ytfoflodgegehfaa.M
set_option linter.unusedVariables false
set_option linter.unusedSimpArgs false
namespace Go.Proofs.Ytfoflodgegehfaa.M
open Go.RowKit Go.Maps Go.Proofs.YtfoflodgegehfaaW.PrintWords Go.Proofs.YtfoflodgegehfaaW.PrintLast Go.Proofs.YtfoflodgegehfaaW.PrintMore
attribute [local go_sem] max2_int min2_int max_two min_two max_three min_three max_four min_four
attribute [local go_sem ↓] Go.wp_at_zero Go.wp_at_succ
set_option maxHeartbeats 2000000 in
set_option maxRecDepth 100000 in
theorem numbers6_off {w : World} {g : Nat} {s : ByteArray} {a e en z : Int} {count : Nat} (h : St w g s a e) (he : e ≠ 0) (hc : count ≤ 10) :
    Calls Try.prog 72 #[.pointer (some ⟨g, 0, none⟩), .int .i64 count, .int .i64 z, .int .i64 en] w fun r w' => r = .returned (.slice none 0 0) ∧ St w' g s a e ∧ Only g w w' := by
  have HR := Aside0.mk h
  have HO := Aside0.mk (Only.refl g w)
  have e1 : (e == 0) = false := beq_eq_false_iff_ne.mpr he
  have z2 := h.c2
  have p1 : (count : Int) ≤ 10 := by omega
  clear h he hc
  go_enter Try.func72, Try.ntmps72
  go_wp2_with fail
  go_loopg [9, 10] 1 (fun kq v9 v10 w' => v9 = .slice none 0 0 ∧ v10 = .int .i64 0 ∧ Aside0 (kq = 1) ∧ w = w')
  case atStart => exact ⟨rfl, rfl, ⟨rfl⟩, rfl⟩
  case round =>
    obtain ⟨rfl, rfl, HK, rfl⟩ := hrel
    by_cases hc : count = 0
    · subst hc
      go_wp2_with fail
      go_ret
      exact ⟨rfl, HR.out, HO.out⟩
    · have q1 : (0 : Int) < (count : Int) := by omega
      clear hc
      go_wp2_with fail
      go_ret
      exact ⟨rfl, HR.out, HO.out⟩
set_option maxHeartbeats 2000000 in
set_option maxRecDepth 100000 in
theorem names6_off {w : World} {g : Nat} {s : ByteArray} {a e en kind : Int} {count : Nat} (h : St w g s a e) (he : e ≠ 0) (hc : count ≤ 10) :
    Calls Try.prog 73 #[.pointer (some ⟨g, 0, none⟩), .int .u16 kind, .int .i64 count, .int .i64 en] w fun r w' => r = .returned (.slice none 0 0) ∧ St w' g s a e ∧ Only g w w' := by
  have HR := Aside0.mk h
  have HO := Aside0.mk (Only.refl g w)
  have e1 : (e == 0) = false := beq_eq_false_iff_ne.mpr he
  have z2 := h.c2
  have p1 : (count : Int) ≤ 10 := by omega
  clear h he hc
  go_enter Try.func73, Try.ntmps73
  go_wp2_with fail
  go_loopg [9, 10] 1 (fun kq v9 v10 w' => v9 = .slice none 0 0 ∧ v10 = .int .i64 0 ∧ Aside0 (kq = 1) ∧ w = w')
  case atStart => exact ⟨rfl, rfl, ⟨rfl⟩, rfl⟩
  case round =>
    obtain ⟨rfl, rfl, HK, rfl⟩ := hrel
    by_cases hc : count = 0
    · subst hc
      go_wp2_with fail
      go_ret
      exact ⟨rfl, HR.out, HO.out⟩
    · have q1 : (0 : Int) < (count : Int) := by omega
      clear hc
      go_wp2_with fail
      go_ret
      exact ⟨rfl, HR.out, HO.out⟩
end Go.Proofs.Ytfoflodgegehfaa.M
set_option linter.unusedVariables false
set_option linter.unusedSimpArgs false
namespace Go.Proofs.Ytfoflodgegehfaa.M
open Go.RowKit Go.Maps Go.Proofs.YtfoflodgegehfaaW.PrintWords Go.Proofs.YtfoflodgegehfaaW.PrintLast Go.Proofs.YtfoflodgegehfaaW.PrintMore
def after6 {α : Type} (e : Int) (R : Except Int (α × Int)) : Except Int (α × Int) := if e = 0 then R else .error e
theorem after6_ok {α : Type} (R : Except Int (α × Int)) : after6 0 R = R := if_pos rfl
theorem after6_err {α : Type} {e : Int} (he : e ≠ 0) (R : Except Int (α × Int)) : after6 e R = .error e := if_neg he
def numR (s : ByteArray) (a z : Int) : Except Int (Int × Int) := match getF s a z with
  | none => .error 2
  | some t => .ok (t, a + z)
def txtR (s : ByteArray) (a : Int) : Except Int (ByteArray × Int) := match nameAt s a with
  | .error c => .error c
  | .ok (b, nx) => .ok (strOfNums b, nx)
def TxtP (x : ByteArray) (v : Value) (w : World) : Prop := v = .string x ∧ x.size ≤ 255
theorem numbers6_any {w : World} {g : Nat} {s : ByteArray} {a e en : Int} {count z : Nat} (h : St w g s a e) (hs : s.size ≤ 1000000) (h0 : e = 0 → 0 ≤ a ∧ a ≤ s.size) (he : en ≤ s.size) (he0 : 0 ≤ en) (hc : count ≤ 10) (hz : z = 2 ∨ z = 4) :
    Calls Try.prog 72 #[.pointer (some ⟨g, 0, none⟩), .int .i64 count, .int .i64 z, .int .i64 en] w fun r w' => Ends6 (NumsP w.heap.size) (after6 e (numsR s z en count [] a)) w g s r w' := by
  by_cases c : e = 0
  · subst c
    rw [after6_ok]
    exact numbers6_calls h hs (h0 rfl).1 (h0 rfl).2 he he0 hc hz
  · rw [after6_err c]
    exact (numbers6_off h c hc).mono fun r w' ⟨h1, h2, h3⟩ => by rw [h1]; exact Ends6.err (x := []) h3 (Kd.R_nil _ _ _ _ _) h2 rfl c
theorem names6_any {w : World} {g : Nat} {s : ByteArray} {a e en kind : Int} {count : Nat} (h : St w g s a e) (hs : s.size ≤ 1000000) (h0 : e = 0 → 0 ≤ a ∧ a ≤ s.size) (he : en ≤ s.size) (he0 : 0 ≤ en) (hc : count ≤ 10) :
    Calls Try.prog 73 #[.pointer (some ⟨g, 0, none⟩), .int .u16 kind, .int .i64 count, .int .i64 en] w fun r w' => Ends6 (StrsP w.heap.size) (after6 e (namesR s kind en count [] a)) w g s r w' := by
  by_cases c : e = 0
  · subst c
    rw [after6_ok]
    exact names6_calls h hs (h0 rfl).1 (h0 rfl).2 he he0 hc
  · rw [after6_err c]
    exact (names6_off h c hc).mono fun r w' ⟨h1, h2, h3⟩ => by rw [h1]; exact Ends6.err (x := []) h3 (Kd.R_nil _ _ _ _ _) h2 rfl c
theorem name6_any {w : World} {g : Nat} {s : ByteArray} {a e : Int} (h : St w g s a e) (hs : s.size ≤ 1000000) (h0 : e = 0 → 0 ≤ a ∧ a ≤ s.size) :
    Calls Try.prog 39 #[.pointer (some ⟨g, 0, none⟩)] w fun r w' => Ends6 TxtP (after6 e (txtR s a)) w g s r w' := by
  have hz : (⟨#[]⟩ : ByteArray).size ≤ 255 := by decide
  by_cases c : e = 0
  · subst c
    rw [after6_ok]
    unfold txtR
    cases h1 : nameAt s a with
    | error d => exact (name6_no h hs (h0 rfl).1 (h0 rfl).2 h1).mono fun r w' ⟨k1, k2, k3⟩ => by rw [k1]; exact Ends6.err (x := ⟨#[]⟩) k3 ⟨rfl, hz⟩ k2 rfl (nameR_err _ h1)
    | ok x =>
      obtain ⟨b, nx⟩ := x
      exact (name6_yes h hs (h0 rfl).1 (h0 rfl).2 h1).mono fun r w' ⟨k1, k2, k3⟩ => by rw [k1]; exact Ends6.ok (x := strOfNums b) k3 ⟨rfl, name_len h1⟩ k2 rfl
  · rw [after6_err c]
    exact (name6_off h c).mono fun r w' ⟨h1, h2, h3⟩ => by rw [h1]; exact Ends6.err (x := ⟨#[]⟩) h3 ⟨rfl, hz⟩ h2 rfl c
end Go.Proofs.Ytfoflodgegehfaa.M
set_option linter.unusedVariables false
set_option linter.unusedSimpArgs false
namespace Go.Proofs.Ytfoflodgegehfaa.M
open Go.RowKit Go.Maps Go.Proofs.YtfoflodgegehfaaW.PrintWords Go.Proofs.YtfoflodgegehfaaW.PrintLast Go.Proofs.YtfoflodgegehfaaW.PrintMore
attribute [local go_sem] max2_int min2_int max_two min_two max_three min_three max_four min_four
attribute [local go_sem ↓] Go.wp_at_zero Go.wp_at_succ
def PartP6 (w : World) (f0 : ByteArray) (k c t : Int) (x : Parts) (v : Value) (w' : World) : Prop := RecP w.heap.size ⟨f0, k, c, t, x.1, x.2.1, x.2.2⟩ v w'
structure D6 (w0 w : World) (g h q B6 : Nat) (s f0 : ByteArray) (k c t a e : Int) (v4 v5 v6 : Value) (names : List ByteArray) (nums : List Int) (texts : List ByteArray) : Prop where
  o : Only g w0 w
  st : St w g s a e
  x : SAt w h #[.string f0, .int .u16 k, .int .u16 c, .int .u32 t, v4, v5, v6] 85
  z : SAt w q #[.string ⟨#[]⟩, .int .u16 0, .int .u16 0, .int .u32 0, .slice none 0 0, .slice none 0 0, .slice none 0 0] 85
  hb : w0.heap.size ≤ h
  qb : w0.heap.size ≤ q
  ne : h ≠ q
  b6 : w0.heap.size ≤ B6
  b7 : B6 ≤ w.heap.size
  r4 : Kd.R Kd.string 9 w w0.heap.size (fun k => k < B6) v4 names
  r5 : Kd.R (Kd.int .u32) 81 w w0.heap.size (fun _ => True) v5 nums
  r6 : Kd.R Kd.string 9 w B6 (fun _ => True) v6 texts
theorem SAt.ne6 {w : World} {h g : Nat} {cs : Array Value} {T : Nat} {s : ByteArray} {a e : Int} (hx : SAt w h cs T) (hr : St w g s a e) (hT : T ≠ 78) : h ≠ g := blk_ne hx hr hT
theorem St.far {w : World} {g h : Nat} {s : ByteArray} {a e : Int} (hr : St w g s a e) (hne : g ≠ h) (j : Nat) (u : Value) : St (w.setCell ⟨h, j, none⟩ u) g s a e := (Below.heap_setCell w _ u g hne).trans hr
section
variable {w0 w w1 : World} {g h q B6 : Nat} {s f0 : ByteArray} {k c t a e a' e' : Int} {v4 v5 v6 u : Value} {names texts l : List ByteArray} {nums ns : List Int}
theorem D6.go (d : D6 w0 w g h q B6 s f0 k c t a e v4 v5 v6 names nums texts) (ho : Only g w w1) (hs : St w1 g s a' e') : D6 w0 w1 g h q B6 s f0 k c t a' e' v4 v5 v6 names nums texts :=
  ⟨d.o.trans ho, hs, ho.at_ d.x (d.x.ne6 d.st (by decide)), ho.at_ d.z (d.z.ne6 d.st (by decide)), d.hb, d.qb, d.ne, d.b6, Nat.le_trans d.b7 ho.size, R_only6 d.r4 d.st (by decide) ho, R_only6 d.r5 d.st (by intro q hq; rw [show q = 81 by simpa [Kd.int, Kd.scalar] using hq]; decide) ho, R_only6 d.r6 d.st (by decide) ho⟩
theorem D6.drew (d : D6 w0 w g h q B6 s f0 k c t a e v4 v5 v6 names nums texts) : D6 w0 w.drew g h q B6 s f0 k c t a e v4 v5 v6 names nums texts := d.go (Only.drew (Only.refl g w)) d.st
theorem D6.putN (d : D6 w0 w g h q B6 s f0 k c t a e v4 v5 v6 names nums texts) {B : Nat} (hB : w0.heap.size ≤ B) (hr : Kd.R (Kd.int .u32) 81 w B (fun _ => True) u ns) : D6 w0 (w.setCell ⟨h, 5, none⟩ u) g h q B6 s f0 k c t a e v4 u v6 names ns texts :=
  ⟨d.o.setNew d.hb 5 u, d.st.far (Ne.symm (d.x.ne6 d.st (by decide))) 5 u, d.x.set 5 u, d.z.far (Ne.symm d.ne) 5 u, d.hb, d.qb, d.ne, d.b6, by simpa using d.b7, Kd.R_set d.r4 d.x (by decide) 5 u, Kd.R_set (Kd.R_lower hr hB) d.x (by intro q hq; rw [show q = 81 by simpa [Kd.int, Kd.scalar] using hq]; decide) 5 u, Kd.R_set d.r6 d.x (by decide) 5 u⟩
theorem D6.putL (d : D6 w0 w g h q B6 s f0 k c t a e v4 v5 (.slice none 0 0) names nums []) {B : Nat} (hB : w0.heap.size ≤ B) (hr : Kd.R Kd.string 9 w B (fun _ => True) u l) : D6 w0 (w.setCell ⟨h, 4, none⟩ u) g h q w.heap.size s f0 k c t a e u v5 (.slice none 0 0) l nums [] :=
  ⟨d.o.setNew d.hb 4 u, d.st.far (Ne.symm (d.x.ne6 d.st (by decide))) 4 u, d.x.set 4 u, d.z.far (Ne.symm d.ne) 4 u, d.hb, d.qb, d.ne, d.o.size, by simp, Kd.R_set (Kd.R_mono (Kd.R_bound (Kd.R_lower hr hB)) (fun _ hk => hk.2.2.1)) d.x (by decide) 4 u, Kd.R_set d.r5 d.x (by intro q hq; rw [show q = 81 by simpa [Kd.int, Kd.scalar] using hq]; decide) 4 u, Kd.R_nil _ _ _ _ _⟩
theorem D6.tgrown (d : D6 w0 w g h q B6 s f0 k c t a e v4 v5 v6 names nums texts) (hr : Kd.R Kd.string 9 w1 B6 (fun _ => True) u l) {row : Option Nat} (hg : w.grownBy w1 row) (hrow : ∀ k, row = some k → B6 ≤ k ∧ k ≠ g ∧ k ≠ h ∧ k ≠ q ∧ ∀ cs, w.heap[k]? ≠ some (.cells cs 81 (0, 0))) :
    D6 w0 (w1.setCell ⟨h, 6, none⟩ u) g h q B6 s f0 k c t a e v4 v5 u names nums l := by
  have ne0 : ∀ k, k = g ∨ k = h ∨ k = q → some k ≠ row := fun k hk he => by
    have := hrow k he.symm
    omega
  have hx1 := blk_grown d.x hg (ne0 h (by simp))
  have hz1 := blk_grown d.z hg (ne0 q (by simp))
  have hs1 := blk_grown d.st hg (ne0 g (by simp))
  have h4 := Kd.R_grown d.r4 hg (fun k hk he => by have := hrow k he.symm; omega)
  have h5 := Kd.R_drop (Kd.R_grown (Kd.R_mono (Kd.R_bound d.r5) (ok' := fun k => True ∧ some k ≠ row) (fun k hk => ⟨trivial, fun he => by
    obtain ⟨q', hq', cs, hc⟩ := hk.2.2.2
    rw [show q' = 81 by simpa [Kd.int, Kd.scalar] using hq'] at hc
    exact (hrow k he.symm).2.2.2.2 cs hc⟩)) hg (fun k hk => hk.2))
  exact ⟨(d.o.of_grown hg (fun k hk => Nat.le_trans d.b6 (hrow k hk).1)).setNew d.hb 6 u, St.far hs1 (Ne.symm (d.x.ne6 d.st (by decide))) 6 u, SAt.set hx1 6 u, SAt.far hz1 (Ne.symm d.ne) 6 u, d.hb, d.qb, d.ne, d.b6, by have := hg.size; have := d.b7; simp; omega, Kd.R_set h4 hx1 (by decide) 6 u, Kd.R_set h5 hx1 (by intro q hq; rw [show q = 81 by simpa [Kd.int, Kd.scalar] using hq]; decide) 6 u, Kd.R_set hr hx1 (by decide) 6 u⟩
theorem D6.app (d : D6 w0 w g h q B6 s f0 k c t a e v4 v5 v6 names nums texts) (hr : Kd.R Kd.string 9 w1 B6 (fun _ => True) u l) (hg : w.grownBy w1 v6.ownBlock) : D6 w0 (w1.setCell ⟨h, 6, none⟩ u) g h q B6 s f0 k c t a e v4 v5 u names nums l :=
  d.tgrown hr hg (fun j hj => ⟨Kd.R_base d.r6 j hj, fun he => Kd.R_ne d.r6 d.st (by decide) (by rw [hj, he]), fun he => Kd.R_ne d.r6 d.x (by decide) (by rw [hj, he]), fun he => Kd.R_ne d.r6 d.z (by decide) (by rw [hj, he]), fun cs hc => Kd.R_ne d.r6 hc (by decide) hj.symm⟩)
theorem D6.lit (d : D6 w0 w g h q B6 s f0 k c t a e v4 v5 v6 names nums texts) (hr : Kd.R Kd.string 9 w1 B6 (fun _ => True) u l) (hg : w.grownBy w1 none) : D6 w0 (w1.setCell ⟨h, 6, none⟩ u) g h q B6 s f0 k c t a e v4 v5 u names nums l :=
  d.tgrown hr hg (fun j hj => by cases hj)
theorem D6.seta (d : D6 w0 w g h q B6 s f0 k c t a e v4 v5 v6 names nums texts) (b : Int) : D6 w0 (w.setCell ⟨g, 1, none⟩ (.int .i64 b)) g h q B6 s f0 k c t b e v4 v5 v6 names nums texts := d.go (Only.set (Only.refl g w) 1 _) (d.st.set1 b)
theorem D6.sete (d : D6 w0 w g h q B6 s f0 k c t a e v4 v5 v6 names nums texts) (b : Int) : D6 w0 (w.setCell ⟨g, 2, none⟩ (.int .i64 b)) g h q B6 s f0 k c t a b v4 v5 v6 names nums texts := d.go (Only.set (Only.refl g w) 2 _) (d.st.set2 b)
theorem D6.l0 (d : D6 w0 w g h q B6 s f0 k c t a e v4 v5 v6 names nums texts) : w.cell? ⟨h, 0, none⟩ = some (.string f0) := d.x.is 0 rfl
theorem D6.l1 (d : D6 w0 w g h q B6 s f0 k c t a e v4 v5 v6 names nums texts) : w.cell? ⟨h, 1, none⟩ = some (.int .u16 k) := d.x.is 1 rfl
theorem D6.l2 (d : D6 w0 w g h q B6 s f0 k c t a e v4 v5 v6 names nums texts) : w.cell? ⟨h, 2, none⟩ = some (.int .u16 c) := d.x.is 2 rfl
theorem D6.l3 (d : D6 w0 w g h q B6 s f0 k c t a e v4 v5 v6 names nums texts) : w.cell? ⟨h, 3, none⟩ = some (.int .u32 t) := d.x.is 3 rfl
theorem D6.l4 (d : D6 w0 w g h q B6 s f0 k c t a e v4 v5 v6 names nums texts) : w.cell? ⟨h, 4, none⟩ = some (v4) := d.x.is 4 rfl
theorem D6.l5 (d : D6 w0 w g h q B6 s f0 k c t a e v4 v5 v6 names nums texts) : w.cell? ⟨h, 5, none⟩ = some (v5) := d.x.is 5 rfl
theorem D6.l6 (d : D6 w0 w g h q B6 s f0 k c t a e v4 v5 v6 names nums texts) : w.cell? ⟨h, 6, none⟩ = some (v6) := d.x.is 6 rfl
theorem D6.y0 (d : D6 w0 w g h q B6 s f0 k c t a e v4 v5 v6 names nums texts) : w.cell? ⟨q, 0, none⟩ = some (.string ⟨#[]⟩) := d.z.is 0 rfl
theorem D6.y1 (d : D6 w0 w g h q B6 s f0 k c t a e v4 v5 v6 names nums texts) : w.cell? ⟨q, 1, none⟩ = some (.int .u16 0) := d.z.is 1 rfl
theorem D6.y2 (d : D6 w0 w g h q B6 s f0 k c t a e v4 v5 v6 names nums texts) : w.cell? ⟨q, 2, none⟩ = some (.int .u16 0) := d.z.is 2 rfl
theorem D6.y3 (d : D6 w0 w g h q B6 s f0 k c t a e v4 v5 v6 names nums texts) : w.cell? ⟨q, 3, none⟩ = some (.int .u32 0) := d.z.is 3 rfl
theorem D6.y4 (d : D6 w0 w g h q B6 s f0 k c t a e v4 v5 v6 names nums texts) : w.cell? ⟨q, 4, none⟩ = some (.slice none 0 0) := d.z.is 4 rfl
theorem D6.y5 (d : D6 w0 w g h q B6 s f0 k c t a e v4 v5 v6 names nums texts) : w.cell? ⟨q, 5, none⟩ = some (.slice none 0 0) := d.z.is 5 rfl
theorem D6.y6 (d : D6 w0 w g h q B6 s f0 k c t a e v4 v5 v6 names nums texts) : w.cell? ⟨q, 6, none⟩ = some (.slice none 0 0) := d.z.is 6 rfl
structure Laid6 (w0 w : World) (g q : Nat) (s : ByteArray) (a e : Int) (cs : Array Value) : Prop where
  o : Only g w0 w
  st : St w g s a e
  z : SAt w q cs 85
  qb : w0.heap.size ≤ q
theorem Laid6.set {cs : Array Value} (d : Laid6 w0 w g q s a e cs) (j : Nat) (u : Value) : Laid6 w0 (w.setCell ⟨q, j, none⟩ u) g q s a e (cs.setIfInBounds j u) :=
  ⟨d.o.setNew d.qb j u, d.st.far (Ne.symm (d.z.ne6 d.st (by decide))) j u, d.z.set j u, d.qb⟩
theorem D6.laid (d : D6 w0 w g h q B6 s f0 k c t a e v4 v5 v6 names nums texts) :
    ∃ w9, w9 = ((((((w.setCell ⟨q, 0, none⟩ (.string f0)).setCell ⟨q, 1, none⟩ (.int .u16 k)).setCell ⟨q, 2, none⟩ (.int .u16 c)).setCell ⟨q, 3, none⟩ (.int .u32 t)).setCell ⟨q, 4, none⟩ v4).setCell ⟨q, 5, none⟩ v5).setCell ⟨q, 6, none⟩ v6 ∧
      Laid6 w0 w9 g q s a e #[.string f0, .int .u16 k, .int .u16 c, .int .u32 t, v4, v5, v6] ∧ PartP6 w0 f0 k c t (names, nums, texts) (.agg #[.string f0, .int .u16 k, .int .u16 c, .int .u32 t, v4, v5, v6]) w9 := by
  have L0 : Laid6 w0 w g q s a e #[.string ⟨#[]⟩, .int .u16 0, .int .u16 0, .int .u32 0, .slice none 0 0, .slice none 0 0, .slice none 0 0] := ⟨d.o, d.st, d.z, d.qb⟩
  have L1 := L0.set 0 (.string f0)
  have L2 := L1.set 1 (.int .u16 k)
  have L3 := L2.set 2 (.int .u16 c)
  have L4 := L3.set 3 (.int .u32 t)
  have L5 := L4.set 4 v4
  have L6 := L5.set 5 v5
  have L7 := L6.set 6 v6
  have hp : RecP w0.heap.size ⟨f0, k, c, t, names, nums, texts⟩ (.agg #[.string f0, .int .u16 k, .int .u16 c, .int .u32 t, v4, v5, v6]) w := ⟨v4, v5, v6, rfl, Kd.R_mono d.r4 (fun _ _ => trivial), d.r5, Kd.R_lower d.r6 d.b6⟩
  exact ⟨_, rfl, L7, ((((((hp.set L0.z 0 (.string f0)).set L1.z 1 (.int .u16 k)).set L2.z 2 (.int .u16 c)).set L3.z 3 (.int .u32 t)).set L4.z 4 v4).set L5.z 5 v5).set L6.z 6 v6⟩
theorem D6.start (hr : St w g s a e) : D6 w ((w.alloc (.cells #[.string f0, .int .u16 k, .int .u16 c, .int .u32 t, (.slice none 0 0), (.slice none 0 0), (.slice none 0 0)] 85 (0, 0))).alloc (.cells #[.string ⟨#[]⟩, .int .u16 0, .int .u16 0, .int .u32 0, .slice none 0 0, .slice none 0 0, .slice none 0 0] 85 (0, 0))) g w.heap.size (w.heap.size + 1) w.heap.size s f0 k c t a e (.slice none 0 0) (.slice none 0 0) (.slice none 0 0) [] [] [] := by
  have hx := SAt.new w #[.string f0, .int .u16 k, .int .u16 c, .int .u32 t, (.slice none 0 0), (.slice none 0 0), (.slice none 0 0)] 85
  have hb1 := below_alloc (Below.refl w.heap.size w) (.cells #[.string f0, .int .u16 k, .int .u16 c, .int .u32 t, (.slice none 0 0), (.slice none 0 0), (.slice none 0 0)] 85 (0, 0))
  have hz := SAt.new (w.alloc (.cells #[.string f0, .int .u16 k, .int .u16 c, .int .u32 t, (.slice none 0 0), (.slice none 0 0), (.slice none 0 0)] 85 (0, 0))) #[.string ⟨#[]⟩, .int .u16 0, .int .u16 0, .int .u32 0, .slice none 0 0, .slice none 0 0, .slice none 0 0] 85
  have hb2 := below_alloc (Below.refl (w.alloc (.cells #[.string f0, .int .u16 k, .int .u16 c, .int .u32 t, (.slice none 0 0), (.slice none 0 0), (.slice none 0 0)] 85 (0, 0))).heap.size _) (.cells #[.string ⟨#[]⟩, .int .u16 0, .int .u16 0, .int .u32 0, .slice none 0 0, .slice none 0 0, .slice none 0 0] 85 (0, 0))
  have hsz : (w.alloc (.cells #[.string f0, .int .u16 k, .int .u16 c, .int .u32 t, (.slice none 0 0), (.slice none 0 0), (.slice none 0 0)] 85 (0, 0))).heap.size = w.heap.size + 1 := by simp
  rw [hsz] at hz
  exact ⟨((Only.refl g w).alloc _).alloc _, (hr.below hb1).below hb2, hx.below hb2, hz, Nat.le_refl _, by omega, by omega, Nat.le_refl _, by simp; omega, Kd.R_nil _ _ _ _ _, Kd.R_nil _ _ _ _ _, Kd.R_nil _ _ _ _ _⟩
end
theorem getF_in {s : ByteArray} {a : Int} (h0 : 0 ≤ a) (h1 : a < s.size) : getF s a 1 ≠ none := by
  unfold getF partF
  rw [if_neg (by omega), if_neg (by omega)]
  simp
theorem partF_in {s : ByteArray} {a n : Int} (h0 : 0 ≤ a) (h1 : 0 ≤ n) (h2 : a + n ≤ s.size) : partF s a n = some (s.extract a.toNat (a + n).toNat) := by
  unfold partF
  rw [if_neg (by omega)]
theorem shapeOf_tx (k : Int) : (shapeOf k).2.2 = if (shapeOf k).1 + (shapeOf k).2.1 = 0 then 1 else 0 := by
  unfold shapeOf
  (repeat' split) <;> simp_all
def Met6 {α : Type} (R : Except Int (α × Int)) (x : α) (a e : Int) : Prop := (R = .ok (x, a) ∧ e = 0) ∨ (R = .error e ∧ e ≠ 0)
section
variable {s : ByteArray} {k en a a1 a2 e1 e2 : Int} {x1 : List Int} {x2 : List ByteArray}
theorem data6_two (h6 : ¬ k = 6) (h1 : Met6 (numsR s 2 en (shapeOf k).2.1 [] a) x1 a1 e1) (h2 : Met6 (after6 e1 (namesR s k en (shapeOf k).1 [] a1)) x2 a2 e2) :
    (e2 = 0 ∧ dataR s k en a = dataT s k en x2 x1 a2) ∨ (e2 ≠ 0 ∧ dataR s k en a = .error e2) := by
  unfold dataR
  rw [if_neg h6]
  rcases h1 with ⟨h1, rfl⟩ | ⟨h1, he⟩
  · rw [h1]
    rw [after6_ok] at h2
    simp only [dataM]
    rcases h2 with ⟨h2, rfl⟩ | ⟨h2, he⟩
    · rw [h2]
      exact .inl ⟨rfl, dataN_not h6⟩
    · rw [h2]
      exact .inr ⟨he, rfl⟩
  · rw [h1]
    rw [after6_err he] at h2
    rcases h2 with ⟨h2, -⟩ | ⟨h2, he2⟩
    · exact absurd h2 (by simp)
    · exact .inr ⟨he2, by rw [← Except.error.inj h2]⟩
theorem data6_six (hk : k = 6) (h1 : Met6 (namesR s k en 2 [] a) x2 a1 e1) (h2 : Met6 (after6 e1 (numsR s 4 en 5 [] a1)) x1 a2 e2) :
    (e2 = 0 ∧ dataR s k en a = dataE en x2 x1 ([], a2)) ∨ (e2 ≠ 0 ∧ dataR s k en a = .error e2) := by
  subst hk
  have hd : dataR s 6 en a = dataM s 6 en ([], a) := if_pos rfl
  rw [hd]
  have hm : dataM s 6 en ([], a) = (match namesR s 6 en 2 [] a with | .error c => .error c | .ok x => dataN s 6 en [] x) := rfl
  rw [hm]
  rcases h1 with ⟨h1, rfl⟩ | ⟨h1, he⟩
  · rw [h1]
    rw [after6_ok] at h2
    simp only []
    rw [dataN_six rfl, show (shapeOf 6).2.1 = 5 from rfl]
    rcases h2 with ⟨h2, rfl⟩ | ⟨h2, he⟩
    · rw [h2]
      exact .inl ⟨rfl, dataT_none (by decide) (by decide)⟩
    · rw [h2]
      exact .inr ⟨he, rfl⟩
  · rw [h1]
    rw [after6_err he] at h2
    rcases h2 with ⟨h2, -⟩ | ⟨h2, he2⟩
    · exact absurd h2 (by simp)
    · exact .inr ⟨he2, by rw [← Except.error.inj h2]⟩
theorem nums6_at {z : Int} {n : Nat} (h1 : Met6 (numsR s z en n [] a) x1 a1 e1) (ha : 0 ≤ a ∧ a ≤ s.size) : e1 = 0 → 0 ≤ a1 ∧ a1 ≤ s.size := by
  intro he
  rcases h1 with ⟨h1, -⟩ | ⟨-, h⟩
  · exact numsR_at _ h1 ha
  · exact absurd he h
theorem names6_at {n : Nat} (h1 : Met6 (after6 e1 (namesR s k en n [] a1)) x2 a2 e2) (ha : e1 = 0 → 0 ≤ a1 ∧ a1 ≤ s.size) : e2 = 0 → 0 ≤ a2 ∧ a2 ≤ s.size := by
  intro he
  rcases h1 with ⟨h1, -⟩ | ⟨-, h⟩
  · by_cases h : e1 = 0
    · subst h
      rw [after6_ok] at h1
      exact namesR_at n h1 (ha rfl)
    · rw [after6_err h] at h1
      exact absurd h1 (by simp)
  · exact absurd he h
end
set_option maxHeartbeats 8000000 in
set_option maxRecDepth 100000 in
theorem data6_calls {w : World} {g : Nat} {s f0 : ByteArray} {k c t a en : Int} (hr : St w g s a 0) (hs : s.size ≤ 1000000) (h0 : 0 ≤ a) (hae : a ≤ en) (he : en ≤ s.size) :
    Calls Try.prog 55 #[.pointer (some ⟨g, 0, none⟩), .agg #[.string f0, .int .u16 k, .int .u16 c, .int .u32 t, (.slice none 0 0), (.slice none 0 0), (.slice none 0 0)], .int .i64 en] w fun r w' => Ends6 (PartP6 w f0 k c t) (dataR s k en a) w g s r w' := by
  obtain ⟨R, hR⟩ : ∃ R, dataR s k en a = R := ⟨_, rfl⟩
  rw [hR]
  have HD := Aside0.mk (D6.start (f0 := f0) (k := k) (c := c) (t := t) hr)
  have HS := Lib.hid (show s.size ≤ 1000000 ∧ en ≤ s.size ∧ 0 ≤ en from ⟨hs, he, by omega⟩)
  have HA := Lib.hid (show 0 ≤ a ∧ a ≤ en ∧ a ≤ s.size by omega)
  obtain ⟨⟨n, m, tx⟩, hsh⟩ : ∃ x, shapeOf k = x := ⟨_, rfl⟩
  obtain ⟨s1, s2, s3⟩ := shapeOf_le k
  have e1 : (shapeOf k).1 = n := by rw [hsh]
  have e2 : (shapeOf k).2.1 = m := by rw [hsh]
  have e3 : (shapeOf k).2.2 = tx := by rw [hsh]
  have e4 := shapeOf_tx k
  rw [e1] at s1 e4
  rw [e2] at s2 e4
  rw [e3] at s3 e4
  have HSh := Lib.hid hsh
  have HNM := Lib.hid (show (shapeOf k).1 = n ∧ (shapeOf k).2.1 = m ∧ tx = (if n + m = 0 then 1 else 0) ∧ n ≤ 10 ∧ m ≤ 10 from ⟨e1, e2, e4, by omega, by omega⟩)
  have HRR := Lib.hid hR
  have p1 : (n : Int) ≤ 2 := by omega
  have p2 : (m : Int) ≤ 5 := by omega
  have p3 : en ≤ 1000000 := by omega
  have p4 : 0 ≤ en := by omega
  clear hr hs h0 hae he hsh s1 s2 s3 e1 e2 e3 e4 hR
  go_enter Try.func55, Try.ntmps55
  go_wp2_with fail
  refine (Shape5_calls k _).mono ?_
  rw [HSh.out]
  rintro e w1 ⟨rfl, rfl⟩
  generalize hW : (w.alloc _).alloc _ = w1 at *
  obtain ⟨q, hq⟩ : ∃ q, w.heap.size + 1 = q := ⟨_, rfl⟩
  obtain ⟨h, hh⟩ : ∃ h, w.heap.size = h := ⟨_, rfl⟩
  have hd := HD.out
  rw [hq, hh] at hd
  simp only [hq]
  simp only [hh]
  have HD := Aside0.mk hd
  clear hq hh hW hd
  have l0 := HD.out.l0
  have l1 := HD.out.l1
  have l2 := HD.out.l2
  have l3 := HD.out.l3
  have l4 := HD.out.l4
  have l5 := HD.out.l5
  have l6 := HD.out.l6
  have f4 := HD.out.x.frozen 4
  have f5 := HD.out.x.frozen 5
  have f6 := HD.out.x.frozen 6
  have z0 := HD.out.st.c0
  have z1 := HD.out.st.c1
  have z2 := HD.out.st.c2
  have k1 : w1.frozen? ⟨g, 1, none⟩ = false := blk_frozen HD.out.st 1
  have k2 : w1.frozen? ⟨g, 2, none⟩ = false := blk_frozen HD.out.st 2
  by_cases k6 : k = 6
  · obtain ⟨rfl, rfl⟩ : n = 2 ∧ m = 5 := by have := HNM.out; rw [k6] at this; exact ⟨this.1.symm, this.2.1.symm⟩
    have d6 : (k != 6) = false := by rw [bne_eq_false_iff_eq]; exact k6
    have d7 : (k == 6) = true := beq_iff_eq.mpr k6
    have d8 : (k == 16) = false := beq_eq_false_iff_ne.mpr (by omega)
    have d9 : (k != 16) = true := by rw [bne_iff_ne]; omega
    obtain rfl : tx = 0 := HNM.out.2.2.1
    have K6 := Lib.hid k6
    clear k6
    go_wp2_with fail
    refine (names6_any (count := 2) HD.out.st HS.out.1 (fun _ => ⟨HA.out.1, HA.out.2.2⟩) HS.out.2.1 HS.out.2.2 (by decide)).mono ?_
    rintro r w2 ⟨ho, x2, v, a1, e1, rfl, hp, hs, hm⟩
    rw [after6_ok] at hm
    obtain ⟨A4, n4, c4, rfl⟩ := R_anyslice hp
    have HM1 := Aside0.mk (show Met6 (namesR s k en 2 [] a) x2 a1 e1 from hm)
    have HD2 := Aside0.mk ((HD.out.go ho hs).putL (Nat.le_trans HD.out.o.size (Nat.le_refl _)) hp)
    have HI := Aside0.mk (names6_at (e1 := 0) (a1 := a) (s := s) (show Met6 (after6 0 (namesR s k en 2 [] a)) x2 a1 e1 by rw [after6_ok]; exact hm) (fun _ => ⟨HA.out.1, HA.out.2.2⟩))
    have HD1 := Aside0.mk (HD.out.go ho hs)
    clear l0 l1 l2 l3 l4 l5 l6 f4 f5 f6 z0 z1 z2 k1 k2
    clear ho hp hs hm HD
    have l0 := HD1.out.l0
    have l1 := HD1.out.l1
    have l2 := HD1.out.l2
    have l3 := HD1.out.l3
    have l4 := HD1.out.l4
    have l5 := HD1.out.l5
    have l6 := HD1.out.l6
    have f4 := HD1.out.x.frozen 4
    have f5 := HD1.out.x.frozen 5
    have f6 := HD1.out.x.frozen 6
    have z0 := HD1.out.st.c0
    have z1 := HD1.out.st.c1
    have z2 := HD1.out.st.c2
    have k1 : w2.frozen? ⟨g, 1, none⟩ = false := blk_frozen HD1.out.st 1
    have k2 : w2.frozen? ⟨g, 2, none⟩ = false := blk_frozen HD1.out.st 2
    go_wp2_with fail
    generalize hW : w2.setCell ⟨h, 4, none⟩ (.slice A4 n4 c4) = w3 at *
    clear l0 l1 l2 l3 l4 l5 l6 f4 f5 f6 z0 z1 z2 k1 k2
    clear HD1 hW
    refine (numbers6_any (count := 5) (z := 4) HD2.out.st HS.out.1 HI.out HS.out.2.1 HS.out.2.2 (by decide) (.inr rfl)).mono ?_
    rintro r w4 ⟨ho, x1, v, a', e, rfl, hp, hs, hm⟩
    obtain ⟨A5, n5, c5, rfl⟩ := R_anyslice hp
    have hF := data6_six K6.out HM1.out hm
    rw [HRR.out] at hF
    have HF : Aside0 ((e = 0 ∧ dataE en x2 x1 ([], a') = R) ∨ (e ≠ 0 ∧ R = .error e)) := ⟨hF.imp (fun h => ⟨h.1, h.2.symm⟩) id⟩
    have HD4 := Aside0.mk ((HD2.out.go ho hs).putN (Nat.le_trans HD2.out.o.size (Nat.le_refl _)) hp)
    have HD3 := Aside0.mk (HD2.out.go ho hs)
    clear hF hp hs hm ho HD2 HM1 HI
    have l0 := HD3.out.l0
    have l1 := HD3.out.l1
    have l2 := HD3.out.l2
    have l3 := HD3.out.l3
    have l4 := HD3.out.l4
    have l5 := HD3.out.l5
    have l6 := HD3.out.l6
    have f4 := HD3.out.x.frozen 4
    have f5 := HD3.out.x.frozen 5
    have f6 := HD3.out.x.frozen 6
    have z0 := HD3.out.st.c0
    have z1 := HD3.out.st.c1
    have z2 := HD3.out.st.c2
    have k1 : w4.frozen? ⟨g, 1, none⟩ = false := blk_frozen HD3.out.st 1
    have k2 : w4.frozen? ⟨g, 2, none⟩ = false := blk_frozen HD3.out.st 2
    go_wp2_with fail
    generalize hW : w4.setCell ⟨h, 5, none⟩ (.slice A5 n5 c5) = w5 at *
    clear l0 l1 l2 l3 l4 l5 l6 f4 f5 f6 z0 z1 z2 k1 k2
    clear HD3 hW
    have l0 := HD4.out.l0
    have l1 := HD4.out.l1
    have l2 := HD4.out.l2
    have l3 := HD4.out.l3
    have l4 := HD4.out.l4
    have l5 := HD4.out.l5
    have l6 := HD4.out.l6
    have f4 := HD4.out.x.frozen 4
    have f5 := HD4.out.x.frozen 5
    have f6 := HD4.out.x.frozen 6
    have z0 := HD4.out.st.c0
    have z1 := HD4.out.st.c1
    have z2 := HD4.out.st.c2
    have k1 : w5.frozen? ⟨g, 1, none⟩ = false := blk_frozen HD4.out.st 1
    have k2 : w5.frozen? ⟨g, 2, none⟩ = false := blk_frozen HD4.out.st 2
    by_cases c0 : e = 0
    · have hF := (HF.out.resolve_right (fun h => h.1 c0)).2
      subst c0
      have e1 : ((0 : Int) == 0) = true := rfl
      rw [dataE_eq] at hF
      by_cases c1 : a' = en
      · rw [if_pos c1] at hF
        have HG := Lib.hid hF
        have d1 : (a' != en) = false := by rw [bne_eq_false_iff_eq]; exact c1
        clear c1 hF
        refine wp_loop_once ?_
        have y0 := HD4.out.y0
        have y1 := HD4.out.y1
        have y2 := HD4.out.y2
        have y3 := HD4.out.y3
        have y4 := HD4.out.y4
        have y5 := HD4.out.y5
        have y6 := HD4.out.y6
        have g0 := HD4.out.z.frozen 0
        have g1 := HD4.out.z.frozen 1
        have g2 := HD4.out.z.frozen 2
        have g3 := HD4.out.z.frozen 3
        have g4 := HD4.out.z.frozen 4
        have g5 := HD4.out.z.frozen 5
        have g6 := HD4.out.z.frozen 6
        have nhq := HD4.out.ne
        have nqh := Ne.symm nhq
        have ngq := HD4.out.z.ne6 HD4.out.st (by decide)
        have nqg := Ne.symm ngq
        have nhg := HD4.out.x.ne6 HD4.out.st (by decide)
        have ngh := Ne.symm nhg
        go_wp2_with fail
        obtain ⟨w9, hw9, hl, hp⟩ := HD4.out.laid
        rw [← hw9]
        have r0 := hl.z.is 0 rfl
        have r1 := hl.z.is 1 rfl
        have r2 := hl.z.is 2 rfl
        have r3 := hl.z.is 3 rfl
        have r4 := hl.z.is 4 rfl
        have r5 := hl.z.is 5 rfl
        have r6 := hl.z.is 6 rfl
        refine bodyPost_ret (v := .agg #[.string f0, .int .u16 k, .int .u16 c, .int .u32 t, (.slice A4 n4 c4), (.slice A5 n5 c5), (.slice none 0 0)]) (by simp [results, Try.results55, go_sem, r0, r1, r2, r3, r4, r5, r6]) rfl ?_
        exact Ends6.ok (P := PartP6 w f0 k c t) hl.o hp hl.st HG.out.symm
      · rw [if_neg c1] at hF
        have HG := Lib.hid hF
        have d1 : (a' != en) = true := by rw [bne_iff_ne]; exact c1
        have HD2 := Aside0.mk (HD4.out.sete 50)
        clear c1 hF
        refine wp_loop_once ?_
        have y0 := HD4.out.y0
        have y1 := HD4.out.y1
        have y2 := HD4.out.y2
        have y3 := HD4.out.y3
        have y4 := HD4.out.y4
        have y5 := HD4.out.y5
        have y6 := HD4.out.y6
        have g0 := HD4.out.z.frozen 0
        have g1 := HD4.out.z.frozen 1
        have g2 := HD4.out.z.frozen 2
        have g3 := HD4.out.z.frozen 3
        have g4 := HD4.out.z.frozen 4
        have g5 := HD4.out.z.frozen 5
        have g6 := HD4.out.z.frozen 6
        have nhq := HD4.out.ne
        have nqh := Ne.symm nhq
        have ngq := HD4.out.z.ne6 HD4.out.st (by decide)
        have nqg := Ne.symm ngq
        have nhg := HD4.out.x.ne6 HD4.out.st (by decide)
        have ngh := Ne.symm nhg
        go_wp2_with fail
        obtain ⟨w9, hw9, hl, hp⟩ := HD2.out.laid
        rw [← hw9]
        have r0 := hl.z.is 0 rfl
        have r1 := hl.z.is 1 rfl
        have r2 := hl.z.is 2 rfl
        have r3 := hl.z.is 3 rfl
        have r4 := hl.z.is 4 rfl
        have r5 := hl.z.is 5 rfl
        have r6 := hl.z.is 6 rfl
        refine bodyPost_ret (v := .agg #[.string f0, .int .u16 k, .int .u16 c, .int .u32 t, (.slice A4 n4 c4), (.slice A5 n5 c5), (.slice none 0 0)]) (by simp [results, Try.results55, go_sem, r0, r1, r2, r3, r4, r5, r6]) rfl ?_
        exact Ends6.err (P := PartP6 w f0 k c t) hl.o hp hl.st HG.out.symm (by decide)
    · have hF := (HF.out.resolve_left (fun h => c0 h.1)).2
      have e1 : (e == 0) = false := beq_eq_false_iff_ne.mpr c0
      have HG := Lib.hid (And.intro hF c0)
      clear c0 hF
      refine wp_loop_once ?_
      have y0 := HD4.out.y0
      have y1 := HD4.out.y1
      have y2 := HD4.out.y2
      have y3 := HD4.out.y3
      have y4 := HD4.out.y4
      have y5 := HD4.out.y5
      have y6 := HD4.out.y6
      have g0 := HD4.out.z.frozen 0
      have g1 := HD4.out.z.frozen 1
      have g2 := HD4.out.z.frozen 2
      have g3 := HD4.out.z.frozen 3
      have g4 := HD4.out.z.frozen 4
      have g5 := HD4.out.z.frozen 5
      have g6 := HD4.out.z.frozen 6
      have nhq := HD4.out.ne
      have nqh := Ne.symm nhq
      have ngq := HD4.out.z.ne6 HD4.out.st (by decide)
      have nqg := Ne.symm ngq
      have nhg := HD4.out.x.ne6 HD4.out.st (by decide)
      have ngh := Ne.symm nhg
      go_wp2_with fail
      obtain ⟨w9, hw9, hl, hp⟩ := HD4.out.laid
      rw [← hw9]
      have r0 := hl.z.is 0 rfl
      have r1 := hl.z.is 1 rfl
      have r2 := hl.z.is 2 rfl
      have r3 := hl.z.is 3 rfl
      have r4 := hl.z.is 4 rfl
      have r5 := hl.z.is 5 rfl
      have r6 := hl.z.is 6 rfl
      refine bodyPost_ret (v := .agg #[.string f0, .int .u16 k, .int .u16 c, .int .u32 t, (.slice A4 n4 c4), (.slice A5 n5 c5), (.slice none 0 0)]) (by simp [results, Try.results55, go_sem, r0, r1, r2, r3, r4, r5, r6]) rfl ?_
      exact Ends6.err (P := PartP6 w f0 k c t) hl.o hp hl.st HG.out.1 HG.out.2
  · have d6 : (k != 6) = true := by rw [bne_iff_ne]; exact k6
    have d7 : (k == 6) = false := beq_eq_false_iff_ne.mpr k6
    have K6 := Lib.hid k6
    clear k6
    go_wp2_with fail
    refine (numbers6_any (count := m) (z := 2) HD.out.st HS.out.1 (fun _ => ⟨HA.out.1, HA.out.2.2⟩) HS.out.2.1 HS.out.2.2 HNM.out.2.2.2.2 (.inl rfl)).mono ?_
    rintro r w2 ⟨ho, x1, v, a1, e1, rfl, hp, hs, hm⟩
    rw [after6_ok] at hm
    obtain ⟨A5, n5, c5, rfl⟩ := R_anyslice hp
    have HM1 := Aside0.mk (show Met6 (numsR s 2 en m [] a) x1 a1 e1 from hm)
    have HI := Aside0.mk (nums6_at HM1.out ⟨HA.out.1, HA.out.2.2⟩)
    have HD2 := Aside0.mk ((HD.out.go ho hs).putN (Nat.le_trans HD.out.o.size (Nat.le_refl _)) hp)
    have HD1 := Aside0.mk (HD.out.go ho hs)
    clear l0 l1 l2 l3 l4 l5 l6 f4 f5 f6 z0 z1 z2 k1 k2
    clear ho hp hs hm HD
    have l0 := HD1.out.l0
    have l1 := HD1.out.l1
    have l2 := HD1.out.l2
    have l3 := HD1.out.l3
    have l4 := HD1.out.l4
    have l5 := HD1.out.l5
    have l6 := HD1.out.l6
    have f4 := HD1.out.x.frozen 4
    have f5 := HD1.out.x.frozen 5
    have f6 := HD1.out.x.frozen 6
    have z0 := HD1.out.st.c0
    have z1 := HD1.out.st.c1
    have z2 := HD1.out.st.c2
    have k1 : w2.frozen? ⟨g, 1, none⟩ = false := blk_frozen HD1.out.st 1
    have k2 : w2.frozen? ⟨g, 2, none⟩ = false := blk_frozen HD1.out.st 2
    go_wp2_with fail
    generalize hW : w2.setCell ⟨h, 5, none⟩ (.slice A5 n5 c5) = w3 at *
    clear l0 l1 l2 l3 l4 l5 l6 f4 f5 f6 z0 z1 z2 k1 k2
    clear HD1 hW
    have l0 := HD2.out.l0
    have l1 := HD2.out.l1
    have l2 := HD2.out.l2
    have l3 := HD2.out.l3
    have l4 := HD2.out.l4
    have l5 := HD2.out.l5
    have l6 := HD2.out.l6
    have f4 := HD2.out.x.frozen 4
    have f5 := HD2.out.x.frozen 5
    have f6 := HD2.out.x.frozen 6
    have z0 := HD2.out.st.c0
    have z1 := HD2.out.st.c1
    have z2 := HD2.out.st.c2
    have k1 : w3.frozen? ⟨g, 1, none⟩ = false := blk_frozen HD2.out.st 1
    have k2 : w3.frozen? ⟨g, 2, none⟩ = false := blk_frozen HD2.out.st 2
    go_wp2_with fail
    refine (names6_any (count := n) HD2.out.st HS.out.1 HI.out HS.out.2.1 HS.out.2.2 HNM.out.2.2.2.1).mono ?_
    rintro r w4 ⟨ho, x2, v, a', e, rfl, hp, hs, hm⟩
    obtain ⟨A4, n4, c4, rfl⟩ := R_anyslice hp
    have hI := names6_at hm HI.out
    have hF := data6_two K6.out (by rw [HNM.out.2.1]; exact HM1.out) (by rw [HNM.out.1]; exact hm)
    rw [HRR.out] at hF
    have HF := Aside0.mk hF
    have HM2 := Aside0.mk hm
    have HI2 := Aside0.mk hI
    have HD4 := Aside0.mk ((HD2.out.go ho hs).putL (Nat.le_trans HD2.out.o.size (Nat.le_refl _)) hp)
    have HD3 := Aside0.mk (HD2.out.go ho hs)
    clear l0 l1 l2 l3 l4 l5 l6 f4 f5 f6 z0 z1 z2 k1 k2
    clear hF hp hs hm ho hI HD2 HI
    have l0 := HD3.out.l0
    have l1 := HD3.out.l1
    have l2 := HD3.out.l2
    have l3 := HD3.out.l3
    have l4 := HD3.out.l4
    have l5 := HD3.out.l5
    have l6 := HD3.out.l6
    have f4 := HD3.out.x.frozen 4
    have f5 := HD3.out.x.frozen 5
    have f6 := HD3.out.x.frozen 6
    have z0 := HD3.out.st.c0
    have z1 := HD3.out.st.c1
    have z2 := HD3.out.st.c2
    have k1 : w4.frozen? ⟨g, 1, none⟩ = false := blk_frozen HD3.out.st 1
    have k2 : w4.frozen? ⟨g, 2, none⟩ = false := blk_frozen HD3.out.st 2
    go_wp2_with fail
    generalize hW : w4.setCell ⟨h, 4, none⟩ (.slice A4 n4 c4) = w5 at *
    clear l0 l1 l2 l3 l4 l5 l6 f4 f5 f6 z0 z1 z2 k1 k2
    clear HD3 hW
    by_cases k0 : n + m = 0
    · obtain ⟨rfl, rfl⟩ : n = 0 ∧ m = 0 := ⟨by omega, by omega⟩
      obtain ⟨rfl, rfl, rfl⟩ : x1 = [] ∧ a1 = a ∧ e1 = 0 := by
        rcases HM1.out with ⟨h1, h2⟩ | ⟨h1, -⟩
        · have := Except.ok.inj h1
          exact ⟨(Prod.mk.inj this).1.symm, (Prod.mk.inj this).2.symm, h2⟩
        · exact absurd h1 (by simp [numsR])
      obtain ⟨rfl, rfl, rfl⟩ : x2 = [] ∧ a' = a1 ∧ e = 0 := by
        rcases HM2.out with ⟨h1, h2⟩ | ⟨h1, -⟩
        · rw [after6_ok] at h1
          have := Except.ok.inj h1
          exact ⟨(Prod.mk.inj this).1.symm, (Prod.mk.inj this).2.symm, h2⟩
        · exact absurd h1 (by simp [namesR, after6])
      obtain rfl : tx = 1 := HNM.out.2.2.1
      have hF := (HF.out.resolve_right (fun h => h.1 rfl)).2
      have e0 : ((0 : Int) == 0) = true := rfl
      clear HF HM1 HM2 HI2
      by_cases k16 : k = 16
      · rw [dataT_txt k16] at hF
        have d8 : (k == 16) = true := beq_iff_eq.mpr k16
        have d9 : (k != 16) = false := by rw [bne_eq_false_iff_eq]; exact k16
        obtain ⟨RT, hRT⟩ : ∃ RT, textsR s en ((en - a').toNat + 1) [] a' = RT := ⟨_, rfl⟩
        rw [hRT] at hF
        have HF := Lib.hid hF
        have HL := Aside0.mk hRT
        clear hF hRT k16
        go_loopg [10] ((en - a').toNat + 1) (fun kq v10 w' => ∃ (txt : List ByteArray) (p : Int) (v6 : Value), Aside0 (textsR s en kq txt p = RT) ∧ Aside0 ((en - p).toNat < kq) ∧ Aside0 (0 ≤ p ∧ p ≤ en ∧ p ≤ s.size) ∧ Aside0 ((txt.length : Int) ≤ p) ∧ Aside0 (D6 w w' g h q w4.heap.size s f0 k c t p 0 (.slice A4 n4 c4) (.slice A5 n5 c5) v6 [] [] txt))
        case atStart => exact ⟨[], a', (.slice none 0 0), HL, ⟨Nat.lt_succ_self _⟩, ⟨HA.out⟩, ⟨by have := HA.out; simp; omega⟩, HD4⟩
        case round =>
          clear HL HD4 HA
          obtain ⟨txt, p, v6, HL, HK2, HA, HTl, HD4⟩ := hrel
          obtain ⟨gk, rfl⟩ : ∃ q, gk = q + 1 := ⟨gk - 1, by have := HK2.out; omega⟩
          have hl := HL.out
          unfold textsR at hl
          clear HL
          obtain ⟨A6, n6, c6, rfl⟩ := R_anyslice HD4.out.r6
          have q9 : p ≤ 1000000 := by have := HA.out; have := HS.out.1; omega
          have q8 : 0 ≤ p := HA.out.1
          have e0 : ((0 : Int) == 0) = true := rfl
          have l0 := HD4.out.l0
          have l1 := HD4.out.l1
          have l2 := HD4.out.l2
          have l3 := HD4.out.l3
          have l4 := HD4.out.l4
          have l5 := HD4.out.l5
          have l6 := HD4.out.l6
          have f4 := HD4.out.x.frozen 4
          have f5 := HD4.out.x.frozen 5
          have f6 := HD4.out.x.frozen 6
          have z0 := HD4.out.st.c0
          have z1 := HD4.out.st.c1
          have z2 := HD4.out.st.c2
          have k1 : wr.frozen? ⟨g, 1, none⟩ = false := blk_frozen HD4.out.st 1
          have k2 : wr.frozen? ⟨g, 2, none⟩ = false := blk_frozen HD4.out.st 2
          by_cases c1 : p < en
          · rw [if_pos c1] at hl
            have d1 : decide (p < en) = true := decide_eq_true c1
            obtain ⟨m1, h1⟩ : ∃ m1, getF s p 1 = some m1 := Option.ne_none_iff_exists'.1 (getF_in q8 (by have := HS.out.2.1; omega))
            rw [h1] at hl
            simp only [] at hl
            have H1 := Lib.hid h1
            obtain ⟨m10, m11, m12, m13⟩ := get1 h1
            clear h1
            go_wp2_with fail
            refine (num6_yes HD4.out.st HS.out.1 H1.out (by omega) m10).mono ?_
            rintro r w6 ⟨rfl, hs, ho⟩
            have HD5 := Aside0.mk (HD4.out.go ho hs)
            clear l0 l1 l2 l3 l4 l5 l6 f4 f5 f6 z0 z1 z2 k1 k2
            clear hs ho HD4
            have l0 := HD5.out.l0
            have l1 := HD5.out.l1
            have l2 := HD5.out.l2
            have l3 := HD5.out.l3
            have l4 := HD5.out.l4
            have l5 := HD5.out.l5
            have l6 := HD5.out.l6
            have f4 := HD5.out.x.frozen 4
            have f5 := HD5.out.x.frozen 5
            have f6 := HD5.out.x.frozen 6
            have z0 := HD5.out.st.c0
            have z1 := HD5.out.st.c1
            have z2 := HD5.out.st.c2
            have k1 : w6.frozen? ⟨g, 1, none⟩ = false := blk_frozen HD5.out.st 1
            have k2 : w6.frozen? ⟨g, 2, none⟩ = false := blk_frozen HD5.out.st 2
            by_cases c2 : en - (p + 1) < m1
            · rw [if_pos c2] at hl
              have d2 : decide (en - (p + 1) < m1) = true := decide_eq_true c2
              have hF := HF.out
              rw [← hl] at hF
              have HG := Lib.hid hF
              have HD6 := Aside0.mk (HD5.out.sete 50)
              clear hF hl c1 c2
              have y0 := HD5.out.y0
              have y1 := HD5.out.y1
              have y2 := HD5.out.y2
              have y3 := HD5.out.y3
              have y4 := HD5.out.y4
              have y5 := HD5.out.y5
              have y6 := HD5.out.y6
              have g0 := HD5.out.z.frozen 0
              have g1 := HD5.out.z.frozen 1
              have g2 := HD5.out.z.frozen 2
              have g3 := HD5.out.z.frozen 3
              have g4 := HD5.out.z.frozen 4
              have g5 := HD5.out.z.frozen 5
              have g6 := HD5.out.z.frozen 6
              have nhq := HD5.out.ne
              have nqh := Ne.symm nhq
              have ngq := HD5.out.z.ne6 HD5.out.st (by decide)
              have nqg := Ne.symm ngq
              have nhg := HD5.out.x.ne6 HD5.out.st (by decide)
              have ngh := Ne.symm nhg
              go_wp2_with fail
              obtain ⟨w9, hw9, hl, hp⟩ := HD6.out.laid
              rw [← hw9]
              have r0 := hl.z.is 0 rfl
              have r1 := hl.z.is 1 rfl
              have r2 := hl.z.is 2 rfl
              have r3 := hl.z.is 3 rfl
              have r4 := hl.z.is 4 rfl
              have r5 := hl.z.is 5 rfl
              have r6 := hl.z.is 6 rfl
              refine bodyPost_ret (v := .agg #[.string f0, .int .u16 k, .int .u16 c, .int .u32 t, (.slice A4 n4 c4), (.slice A5 n5 c5), (.slice A6 n6 c6)]) (by simp [results, Try.results55, go_sem, r0, r1, r2, r3, r4, r5, r6]) rfl ?_
              exact Ends6.err (P := PartP6 w f0 k c t) hl.o hp hl.st HG.out (by decide)
            · rw [if_neg c2] at hl
              have d2 : decide (en - (p + 1) < m1) = false := decide_eq_false c2
              have b1 : p + 1 + m1 ≤ s.size := by have := HS.out.2.1; omega
              rw [partF_in (by omega) m10 b1] at hl
              simp only [] at hl
              obtain ⟨tt, htt⟩ : ∃ tt, s.extract (p + 1).toNat (p + 1 + m1).toNat = tt := ⟨_, rfl⟩
              rw [htt] at hl
              have HL := Aside0.mk hl
              have hw1 : IntKind.i64.wrap (p + 1 + m1) = p + 1 + m1 := by rw [IntKind.wrap_i64]; have := HS.out.1; omega
              have b2 : p + 1 ≤ p + 1 + m1 := by omega
              have b3 : 0 ≤ p + 1 := by omega
              have b4 : 0 ≤ p + 1 + m1 := by omega
              have b5 : p + 1 + m1 ≤ 1000000 := by have := HS.out.1; omega
              have b6 : p + 1 + m1 ≤ en := by omega
              have HL1 := Lib.hid (show (txt.length + 1) * 16 ≤ 140737488355328 by have := HTl.out; omega)
              clear hl c2
              go_wp2_with fail
              refine dr_start (fun w' => w'.cell? ⟨h, 6, none⟩ = some (.slice A6 n6 c6) ∧ w'.cell? ⟨g, 0, none⟩ = some (.string s) ∧ w'.cell? ⟨g, 1, none⟩ = some (.int .i64 (p + 1))) [20] (by kernel_rfl) ⟨l6, z0, z1⟩ (fun hS => ?_)
              repeat (first | (refine dr_pure (by kernel_rfl) (by rfl) (fun _ _ _ h => h) (v := ?_) (a' := ?_) ?_ ?_ ?_; rotate_left 2; (focus (intro w'; go_simp; with_reducible rfl)); (focus (simp only [Act.put, List.setIfInBounds_toArray, List.set_cons_zero, List.set_cons_succ]; rfl))) | (refine dr_take (by kernel_rfl) (by rfl) (fun _ _ _ h => h) hS (v := ?_) (a' := ?_) ?_ ?_ ?_; rotate_left 2; (focus (intro w' hS'; go_simp; with_reducible rfl)); (focus (simp only [Act.put, List.setIfInBounds_toArray, List.set_cons_zero, List.set_cons_succ]; rfl))) | (refine dr_off (by kernel_rfl) (by rfl) (fun _ _ _ h => h) (a' := ?_) ?_ ?_; rotate_left; (focus (simp only [Act.put, List.setIfInBounds_toArray, List.set_cons_zero, List.set_cons_succ]; rfl))))
              have hb1 := below_alloc (Below.refl w6.drew.heap.size w6.drew) (.cells #[.string tt] 9 (0, 0))
              refine dr_val (.slice (some ⟨w6.drew.heap.size, 0, none⟩) 1 1) (w6.drew.alloc (.cells #[.string tt] 9)) (by kernel_rfl) (by kernel_rfl) (by rfl) (by go_simp; done) ⟨(SAt.below (w := w6.drew) HD5.out.x hb1).is 6 rfl, (St.below (w := w6.drew) HD5.out.st hb1).c0, (St.below (w := w6.drew) HD5.out.st hb1).c1⟩ (by simp only [Act.put, List.setIfInBounds_toArray, List.set_cons_zero, List.set_cons_succ]; rfl) (fun hS => ?_)
              refine dr_one (by kernel_rfl) (by kernel_rfl) (fun K hK => ?_)
              refine Kd.R_append_step Kd.string (w0 := w6.drew) w4.heap.size (by kernel_rfl) (.tmp 74) (.tmp 90) 82 9 (.string ⟨#[]⟩) 16 (by rfl) Try.underlying82 infoS rfl (by decide) (by decide) (.slice A6 n6 c6) txt tt [.string tt] (fun _ => True) (fun _ => False) (by rfl) (by rfl) rfl (fun _ hk => hk.elim) (fun _ _ => trivial) (Kd.R_drew HD5.out.r6) (Below.refl _ _) HD5.out.b7 HL1.out ?_
              intro v7 w7 ho3 hb3 hg3 _
              obtain ⟨A7, n7, c7, rfl⟩ := R_anyslice ho3
              have HD6 := Aside0.mk (HD5.out.drew.app ho3 hg3)
              have hst : St w7 g s (p + 1) 0 := blk_grown (w := w6.drew) HD5.out.st hg3 (Kd.R_ne (Kd.R_drew HD5.out.r6) (w := w6.drew) HD5.out.st (by decide))
              have hx : SAt w7 h _ _ := blk_grown (w := w6.drew) HD5.out.x hg3 (Kd.R_ne (Kd.R_drew HD5.out.r6) (w := w6.drew) HD5.out.x (by decide))
              have m6 : w7.cell? ⟨h, 6, none⟩ = some (.slice A6 n6 c6) := hx.is 6 rfl
              have f6' := hx.frozen 6
              refine hK.out _ _ ⟨m6, hst.c0, hst.c1⟩ (fun hS => ?_)
              clear hK K
              refine dr_norm (a' := ?_) ?_ ?_
              rotate_left
              · simp only [Act.put, List.setIfInBounds_toArray, List.set_cons_zero, List.set_cons_succ]; rfl
              repeat (first | (refine dr_pure (by kernel_rfl) (by rfl) (fun _ _ _ h => h) (v := ?_) (a' := ?_) ?_ ?_ ?_; rotate_left 2; (focus (intro w'; go_simp; with_reducible rfl)); (focus (simp only [Act.put, List.setIfInBounds_toArray, List.set_cons_zero, List.set_cons_succ]; rfl))) | (refine dr_take (by kernel_rfl) (by rfl) (fun _ _ _ h => h) hS (v := ?_) (a' := ?_) ?_ ?_ ?_; rotate_left 2; (focus (intro w' hS'; go_simp; with_reducible rfl)); (focus (simp only [Act.put, List.setIfInBounds_toArray, List.set_cons_zero, List.set_cons_succ]; rfl))) | (refine dr_off (by kernel_rfl) (by rfl) (fun _ _ _ h => h) (a' := ?_) ?_ ?_; rotate_left; (focus (simp only [Act.put, List.setIfInBounds_toArray, List.set_cons_zero, List.set_cons_succ]; rfl))))
              refine dr_store (w7.setCell ⟨h, 6, none⟩ (.slice A7 n7 c7)) (by kernel_rfl) (by kernel_rfl) (by rfl) rfl ⟨by go_simp; done⟩ ?_
              refine dr_done (by kernel_rfl) ?_
              generalize hW : w7.setCell ⟨h, 6, none⟩ (.slice A7 n7 c7) = w8 at *
              clear l0 l1 l2 l3 l4 l5 l6 f4 f5 f6 z0 z1 z2 k1 k2
              clear HD5 m6 f6' hx hst hS ho3 hb3 hg3 hW hb1
              have l0 := HD6.out.l0
              have l1 := HD6.out.l1
              have l2 := HD6.out.l2
              have l3 := HD6.out.l3
              have l4 := HD6.out.l4
              have l5 := HD6.out.l5
              have l6 := HD6.out.l6
              have f4 := HD6.out.x.frozen 4
              have f5 := HD6.out.x.frozen 5
              have f6 := HD6.out.x.frozen 6
              have z0 := HD6.out.st.c0
              have z1 := HD6.out.st.c1
              have z2 := HD6.out.st.c2
              have k1 : w8.frozen? ⟨g, 1, none⟩ = false := blk_frozen HD6.out.st 1
              have k2 : w8.frozen? ⟨g, 2, none⟩ = false := blk_frozen HD6.out.st 2
              have HD7 := Aside0.mk (HD6.out.seta (p + 1 + m1))
              go_wp2_with fail
              go_roundg gk
              case measure => omega
              case rel => exact ⟨_, p + 1 + m1, _, HL, ⟨by have := HK2.out; omega⟩, ⟨by omega⟩, ⟨by have := HTl.out; rw [List.length_append, List.length_singleton]; omega⟩, HD7⟩
          · rw [if_neg c1] at hl
            have d1 : decide (p < en) = false := decide_eq_false c1
            have hF := HF.out
            rw [← hl] at hF
            simp only [dataE_eq] at hF
            have c3 : p = en := by have := HA.out; omega
            rw [if_pos c3] at hF
            have d3 : (p != en) = false := by rw [bne_eq_false_iff_eq]; exact c3
            have HG := Lib.hid hF
            clear hF hl c1 c3
            have y0 := HD4.out.y0
            have y1 := HD4.out.y1
            have y2 := HD4.out.y2
            have y3 := HD4.out.y3
            have y4 := HD4.out.y4
            have y5 := HD4.out.y5
            have y6 := HD4.out.y6
            have g0 := HD4.out.z.frozen 0
            have g1 := HD4.out.z.frozen 1
            have g2 := HD4.out.z.frozen 2
            have g3 := HD4.out.z.frozen 3
            have g4 := HD4.out.z.frozen 4
            have g5 := HD4.out.z.frozen 5
            have g6 := HD4.out.z.frozen 6
            have nhq := HD4.out.ne
            have nqh := Ne.symm nhq
            have ngq := HD4.out.z.ne6 HD4.out.st (by decide)
            have nqg := Ne.symm ngq
            have nhg := HD4.out.x.ne6 HD4.out.st (by decide)
            have ngh := Ne.symm nhg
            go_wp2_with fail
            obtain ⟨w9, hw9, hl, hp⟩ := HD4.out.laid
            rw [← hw9]
            have r0 := hl.z.is 0 rfl
            have r1 := hl.z.is 1 rfl
            have r2 := hl.z.is 2 rfl
            have r3 := hl.z.is 3 rfl
            have r4 := hl.z.is 4 rfl
            have r5 := hl.z.is 5 rfl
            have r6 := hl.z.is 6 rfl
            refine bodyPost_ret (v := .agg #[.string f0, .int .u16 k, .int .u16 c, .int .u32 t, (.slice A4 n4 c4), (.slice A5 n5 c5), (.slice A6 n6 c6)]) (by simp [results, Try.results55, go_sem, r0, r1, r2, r3, r4, r5, r6]) rfl ?_
            exact Ends6.ok (P := PartP6 w f0 k c t) hl.o hp hl.st HG.out
      · rw [dataT_free k16 (by rw [HNM.out.1, HNM.out.2.1]), partF_in (by have := HA.out; omega) (by have := HA.out; omega) (by have := HS.out; omega)] at hF
        have d8 : (k == 16) = false := beq_eq_false_iff_ne.mpr k16
        have d9 : (k != 16) = true := by rw [bne_iff_ne]; exact k16
        obtain ⟨tt, htt⟩ : ∃ tt, s.extract a'.toNat (a' + (en - a')).toNat = tt := ⟨_, rfl⟩
        rw [htt] at hF
        simp only [] at hF
        rw [dataE_eq, if_pos rfl] at hF
        have HF := Lib.hid hF
        rw [show a' + (en - a') = en by omega] at htt
        have q1 : a' ≤ en := HA.out.2.1
        have q2 : 0 ≤ a' := HA.out.1
        have q3 : en ≤ (s.size : Int) := HS.out.2.1
        clear hF k16
        have l0 := HD4.out.l0
        have l1 := HD4.out.l1
        have l2 := HD4.out.l2
        have l3 := HD4.out.l3
        have l4 := HD4.out.l4
        have l5 := HD4.out.l5
        have l6 := HD4.out.l6
        have f4 := HD4.out.x.frozen 4
        have f5 := HD4.out.x.frozen 5
        have f6 := HD4.out.x.frozen 6
        have z0 := HD4.out.st.c0
        have z1 := HD4.out.st.c1
        have z2 := HD4.out.st.c2
        have k1 : w5.frozen? ⟨g, 1, none⟩ = false := blk_frozen HD4.out.st 1
        have k2 : w5.frozen? ⟨g, 2, none⟩ = false := blk_frozen HD4.out.st 2
        refine wp_loop_once ?_
        go_wp2_with fail
        refine dr_start (fun w' => w'.cell? ⟨g, 0, none⟩ = some (.string s) ∧ w'.cell? ⟨g, 1, none⟩ = some (.int .i64 a')) [12] (by kernel_rfl) ⟨z0, z1⟩ (fun hS => ?_)
        repeat (first | (refine dr_pure (by kernel_rfl) (by rfl) (fun _ _ _ h => h) (v := ?_) (a' := ?_) ?_ ?_ ?_; rotate_left 2; (focus (intro w'; go_simp; with_reducible rfl)); (focus (simp only [Act.put, List.setIfInBounds_toArray, List.set_cons_zero, List.set_cons_succ]; rfl))) | (refine dr_take (by kernel_rfl) (by rfl) (fun _ _ _ h => h) hS (v := ?_) (a' := ?_) ?_ ?_ ?_; rotate_left 2; (focus (intro w' hS'; go_simp; with_reducible rfl)); (focus (simp only [Act.put, List.setIfInBounds_toArray, List.set_cons_zero, List.set_cons_succ]; rfl))) | (refine dr_off (by kernel_rfl) (by rfl) (fun _ _ _ h => h) (a' := ?_) ?_ ?_; rotate_left; (focus (simp only [Act.put, List.setIfInBounds_toArray, List.set_cons_zero, List.set_cons_succ]; rfl))))
        refine dr_one (by kernel_rfl) (by kernel_rfl) (fun K hK => ?_)
        refine Kd.R_lit_step Kd.string (w0 := w5.drew) w4.heap.size 9 (by kernel_rfl) (N := 126) rfl (xs := [tt]) (inner := [.string tt]) (ok := fun _ => True) (okp := fun _ => False) (by go_simp; done) (Reps.snoc (Reps.none _ _) rfl rfl) (fun _ hk => hk.elim) trivial (Below.refl _ _) HD4.out.b7 (by simp) ?_
        intro v6 w6 ho3 hb3 hg3 _
        obtain ⟨A6, n6, c6, rfl⟩ := R_anyslice ho3
        have HD5 := Aside0.mk ((HD4.out.drew).lit ho3 hg3)
        have hst : St w6 g s a' 0 := blk_grown (w := w5.drew) HD4.out.st hg3 (by simp)
        have hx : SAt w6 h _ _ := blk_grown (w := w5.drew) HD4.out.x hg3 (by simp)
        refine hK.out _ _ ⟨hst.c0, hst.c1⟩ (fun hS => ?_)
        clear hK K
        refine dr_norm (a' := ?_) ?_ ?_
        rotate_left
        · simp only [Act.put, List.setIfInBounds_toArray, List.set_cons_zero, List.set_cons_succ]; rfl
        repeat (first | (refine dr_pure (by kernel_rfl) (by rfl) (fun _ _ _ h => h) (v := ?_) (a' := ?_) ?_ ?_ ?_; rotate_left 2; (focus (intro w'; go_simp; with_reducible rfl)); (focus (simp only [Act.put, List.setIfInBounds_toArray, List.set_cons_zero, List.set_cons_succ]; rfl))) | (refine dr_take (by kernel_rfl) (by rfl) (fun _ _ _ h => h) hS (v := ?_) (a' := ?_) ?_ ?_ ?_; rotate_left 2; (focus (intro w' hS'; go_simp; with_reducible rfl)); (focus (simp only [Act.put, List.setIfInBounds_toArray, List.set_cons_zero, List.set_cons_succ]; rfl))) | (refine dr_off (by kernel_rfl) (by rfl) (fun _ _ _ h => h) (a' := ?_) ?_ ?_; rotate_left; (focus (simp only [Act.put, List.setIfInBounds_toArray, List.set_cons_zero, List.set_cons_succ]; rfl))))
        have m6 : w6.cell? ⟨h, 6, none⟩ = some (.slice none 0 0) := hx.is 6 rfl
        have f6' := hx.frozen 6
        refine dr_store (w6.setCell ⟨h, 6, none⟩ (.slice A6 n6 c6)) (by kernel_rfl) (by kernel_rfl) (by rfl) rfl ⟨by go_simp; done⟩ ?_
        refine dr_done (by kernel_rfl) ?_
        generalize hW : w6.setCell ⟨h, 6, none⟩ (.slice A6 n6 c6) = w7 at *
        clear l0 l1 l2 l3 l4 l5 l6 f4 f5 f6 z0 z1 z2 k1 k2
        clear HD4 m6 f6' hx hst hS ho3 hb3 hg3 hW
        have l0 := HD5.out.l0
        have l1 := HD5.out.l1
        have l2 := HD5.out.l2
        have l3 := HD5.out.l3
        have l4 := HD5.out.l4
        have l5 := HD5.out.l5
        have l6 := HD5.out.l6
        have f4 := HD5.out.x.frozen 4
        have f5 := HD5.out.x.frozen 5
        have f6 := HD5.out.x.frozen 6
        have z0 := HD5.out.st.c0
        have z1 := HD5.out.st.c1
        have z2 := HD5.out.st.c2
        have k1 : w7.frozen? ⟨g, 1, none⟩ = false := blk_frozen HD5.out.st 1
        have k2 : w7.frozen? ⟨g, 2, none⟩ = false := blk_frozen HD5.out.st 2
        have d1 : (en != en) = false := by rw [bne_eq_false_iff_eq]
        have HD6 := Aside0.mk (HD5.out.seta en)
        have y0 := HD5.out.y0
        have y1 := HD5.out.y1
        have y2 := HD5.out.y2
        have y3 := HD5.out.y3
        have y4 := HD5.out.y4
        have y5 := HD5.out.y5
        have y6 := HD5.out.y6
        have g0 := HD5.out.z.frozen 0
        have g1 := HD5.out.z.frozen 1
        have g2 := HD5.out.z.frozen 2
        have g3 := HD5.out.z.frozen 3
        have g4 := HD5.out.z.frozen 4
        have g5 := HD5.out.z.frozen 5
        have g6 := HD5.out.z.frozen 6
        have nhq := HD5.out.ne
        have nqh := Ne.symm nhq
        have ngq := HD5.out.z.ne6 HD5.out.st (by decide)
        have nqg := Ne.symm ngq
        have nhg := HD5.out.x.ne6 HD5.out.st (by decide)
        have ngh := Ne.symm nhg
        go_wp2_with fail
        obtain ⟨w9, hw9, hl, hp⟩ := HD6.out.laid
        rw [← hw9]
        have r0 := hl.z.is 0 rfl
        have r1 := hl.z.is 1 rfl
        have r2 := hl.z.is 2 rfl
        have r3 := hl.z.is 3 rfl
        have r4 := hl.z.is 4 rfl
        have r5 := hl.z.is 5 rfl
        have r6 := hl.z.is 6 rfl
        refine bodyPost_ret (v := .agg #[.string f0, .int .u16 k, .int .u16 c, .int .u32 t, (.slice A4 n4 c4), (.slice A5 n5 c5), (.slice A6 n6 c6)]) (by simp [results, Try.results55, go_sem, r0, r1, r2, r3, r4, r5, r6]) rfl ?_
        exact Ends6.ok (P := PartP6 w f0 k c t) hl.o hp hl.st HF.out
    · have hF := HF.out
      by_cases k16 : k = 16
      · exact absurd (show n + m = 0 by have := HNM.out; rw [k16] at this; rw [← this.1, ← this.2.1]; rfl) k0
      rw [dataT_none k16 (by rw [HNM.out.1, HNM.out.2.1]; exact k0)] at hF
      have HF := Aside0.mk (show (e = 0 ∧ dataE en x2 x1 ([], a') = R) ∨ (e ≠ 0 ∧ R = .error e) from hF.imp (fun h => ⟨h.1, h.2.symm⟩) id)
      obtain rfl : tx = 0 := by have := HNM.out.2.2.1; rw [if_neg k0] at this; exact this
      have d8 : (k == 16) = false := beq_eq_false_iff_ne.mpr k16
      have d9 : (k != 16) = true := by rw [bne_iff_ne]; exact k16
      clear hF k16 k0
      have l0 := HD4.out.l0
      have l1 := HD4.out.l1
      have l2 := HD4.out.l2
      have l3 := HD4.out.l3
      have l4 := HD4.out.l4
      have l5 := HD4.out.l5
      have l6 := HD4.out.l6
      have f4 := HD4.out.x.frozen 4
      have f5 := HD4.out.x.frozen 5
      have f6 := HD4.out.x.frozen 6
      have z0 := HD4.out.st.c0
      have z1 := HD4.out.st.c1
      have z2 := HD4.out.st.c2
      have k1 : w5.frozen? ⟨g, 1, none⟩ = false := blk_frozen HD4.out.st 1
      have k2 : w5.frozen? ⟨g, 2, none⟩ = false := blk_frozen HD4.out.st 2
      by_cases c0 : e = 0
      · have hF := (HF.out.resolve_right (fun h => h.1 c0)).2
        subst c0
        have e1 : ((0 : Int) == 0) = true := rfl
        rw [dataE_eq] at hF
        by_cases c1 : a' = en
        · rw [if_pos c1] at hF
          have HG := Lib.hid hF
          have d1 : (a' != en) = false := by rw [bne_eq_false_iff_eq]; exact c1
          clear c1 hF
          refine wp_loop_once ?_
          have y0 := HD4.out.y0
          have y1 := HD4.out.y1
          have y2 := HD4.out.y2
          have y3 := HD4.out.y3
          have y4 := HD4.out.y4
          have y5 := HD4.out.y5
          have y6 := HD4.out.y6
          have g0 := HD4.out.z.frozen 0
          have g1 := HD4.out.z.frozen 1
          have g2 := HD4.out.z.frozen 2
          have g3 := HD4.out.z.frozen 3
          have g4 := HD4.out.z.frozen 4
          have g5 := HD4.out.z.frozen 5
          have g6 := HD4.out.z.frozen 6
          have nhq := HD4.out.ne
          have nqh := Ne.symm nhq
          have ngq := HD4.out.z.ne6 HD4.out.st (by decide)
          have nqg := Ne.symm ngq
          have nhg := HD4.out.x.ne6 HD4.out.st (by decide)
          have ngh := Ne.symm nhg
          go_wp2_with fail
          obtain ⟨w9, hw9, hl, hp⟩ := HD4.out.laid
          rw [← hw9]
          have r0 := hl.z.is 0 rfl
          have r1 := hl.z.is 1 rfl
          have r2 := hl.z.is 2 rfl
          have r3 := hl.z.is 3 rfl
          have r4 := hl.z.is 4 rfl
          have r5 := hl.z.is 5 rfl
          have r6 := hl.z.is 6 rfl
          refine bodyPost_ret (v := .agg #[.string f0, .int .u16 k, .int .u16 c, .int .u32 t, (.slice A4 n4 c4), (.slice A5 n5 c5), (.slice none 0 0)]) (by simp [results, Try.results55, go_sem, r0, r1, r2, r3, r4, r5, r6]) rfl ?_
          exact Ends6.ok (P := PartP6 w f0 k c t) hl.o hp hl.st HG.out.symm
        · rw [if_neg c1] at hF
          have HG := Lib.hid hF
          have d1 : (a' != en) = true := by rw [bne_iff_ne]; exact c1
          have HD2 := Aside0.mk (HD4.out.sete 50)
          clear c1 hF
          refine wp_loop_once ?_
          have y0 := HD4.out.y0
          have y1 := HD4.out.y1
          have y2 := HD4.out.y2
          have y3 := HD4.out.y3
          have y4 := HD4.out.y4
          have y5 := HD4.out.y5
          have y6 := HD4.out.y6
          have g0 := HD4.out.z.frozen 0
          have g1 := HD4.out.z.frozen 1
          have g2 := HD4.out.z.frozen 2
          have g3 := HD4.out.z.frozen 3
          have g4 := HD4.out.z.frozen 4
          have g5 := HD4.out.z.frozen 5
          have g6 := HD4.out.z.frozen 6
          have nhq := HD4.out.ne
          have nqh := Ne.symm nhq
          have ngq := HD4.out.z.ne6 HD4.out.st (by decide)
          have nqg := Ne.symm ngq
          have nhg := HD4.out.x.ne6 HD4.out.st (by decide)
          have ngh := Ne.symm nhg
          go_wp2_with fail
          obtain ⟨w9, hw9, hl, hp⟩ := HD2.out.laid
          rw [← hw9]
          have r0 := hl.z.is 0 rfl
          have r1 := hl.z.is 1 rfl
          have r2 := hl.z.is 2 rfl
          have r3 := hl.z.is 3 rfl
          have r4 := hl.z.is 4 rfl
          have r5 := hl.z.is 5 rfl
          have r6 := hl.z.is 6 rfl
          refine bodyPost_ret (v := .agg #[.string f0, .int .u16 k, .int .u16 c, .int .u32 t, (.slice A4 n4 c4), (.slice A5 n5 c5), (.slice none 0 0)]) (by simp [results, Try.results55, go_sem, r0, r1, r2, r3, r4, r5, r6]) rfl ?_
          exact Ends6.err (P := PartP6 w f0 k c t) hl.o hp hl.st HG.out.symm (by decide)
      · have hF := (HF.out.resolve_left (fun h => c0 h.1)).2
        have e1 : (e == 0) = false := beq_eq_false_iff_ne.mpr c0
        have HG := Lib.hid (And.intro hF c0)
        clear c0 hF
        refine wp_loop_once ?_
        have y0 := HD4.out.y0
        have y1 := HD4.out.y1
        have y2 := HD4.out.y2
        have y3 := HD4.out.y3
        have y4 := HD4.out.y4
        have y5 := HD4.out.y5
        have y6 := HD4.out.y6
        have g0 := HD4.out.z.frozen 0
        have g1 := HD4.out.z.frozen 1
        have g2 := HD4.out.z.frozen 2
        have g3 := HD4.out.z.frozen 3
        have g4 := HD4.out.z.frozen 4
        have g5 := HD4.out.z.frozen 5
        have g6 := HD4.out.z.frozen 6
        have nhq := HD4.out.ne
        have nqh := Ne.symm nhq
        have ngq := HD4.out.z.ne6 HD4.out.st (by decide)
        have nqg := Ne.symm ngq
        have nhg := HD4.out.x.ne6 HD4.out.st (by decide)
        have ngh := Ne.symm nhg
        go_wp2_with fail
        obtain ⟨w9, hw9, hl, hp⟩ := HD4.out.laid
        rw [← hw9]
        have r0 := hl.z.is 0 rfl
        have r1 := hl.z.is 1 rfl
        have r2 := hl.z.is 2 rfl
        have r3 := hl.z.is 3 rfl
        have r4 := hl.z.is 4 rfl
        have r5 := hl.z.is 5 rfl
        have r6 := hl.z.is 6 rfl
        refine bodyPost_ret (v := .agg #[.string f0, .int .u16 k, .int .u16 c, .int .u32 t, (.slice A4 n4 c4), (.slice A5 n5 c5), (.slice none 0 0)]) (by simp [results, Try.results55, go_sem, r0, r1, r2, r3, r4, r5, r6]) rfl ?_
        exact Ends6.err (P := PartP6 w f0 k c t) hl.o hp hl.st HG.out.1 HG.out.2
end Go.Proofs.Ytfoflodgegehfaa.M
set_option linter.unusedVariables false
set_option linter.unusedSimpArgs false
namespace Go.Proofs.Ytfoflodgegehfaa.M
open Go.RowKit Go.Proofs.YtfoflodgegehfaaW.PrintWords Go.Proofs.YtfoflodgegehfaaW.PrintLast Go.Proofs.YtfoflodgegehfaaW.PrintMore
attribute [local go_sem] max2_int min2_int max_two min_two max_three min_three max_four min_four
theorem sizeGo_big (l : List ByteArray) : ∀ n : Nat, 131070 < sizeGo l n → 131070 < n + sumS l + l.length := by
  induction l with
  | nil => intro n h; rw [sumS_nil]; simp only [sizeGo, List.length_nil] at h ⊢; omega
  | cons s l ih =>
    intro n h
    rw [sumS_cons, List.length_cons]
    unfold sizeGo at h
    by_cases c : 131070 < n + s.size + 1
    · omega
    · rw [if_neg c] at h
      have := ih _ h
      omega
theorem texts_len (r : Rec) (l : List ByteArray) : (l.flatMap (textL r)).length = sumS l + (if r.f1 = 16 then l.length else 0) := by
  induction l with
  | nil => rw [sumS_nil]; simp
  | cons s l ih =>
    rw [List.flatMap_cons, List.length_append, ih, textL_len, sumS_cons, List.length_cons]
    split <;> omega
theorem numsL_len (l : List Int) (k : Nat) : (l.flatMap fun n => putL n k).length = k * l.length := by
  induction l with
  | nil => rfl
  | cons a l ih => rw [List.flatMap_cons, List.length_append, ih, putL_length, List.length_cons, Nat.mul_add]; omega
theorem namesL_len (l : List ByteArray) : (l.flatMap bytesOf).length = sumS l := by
  induction l with
  | nil => rfl
  | cons a l ih => rw [List.flatMap_cons, List.length_append, ih, bytesOf_length, sumS_cons]
theorem names_sum (l : List ByteArray) (h : (l.any notName) = false) : sumS l ≤ 255 * l.length := by
  induction l with
  | nil => exact Nat.le_refl _
  | cons s l ih =>
    rw [List.any_cons, Bool.or_eq_false_iff] at h
    have h1 : s.size ≤ 255 := by
      have := h.1
      unfold notName isName split at this
      by_cases hb : 255 < s.size
      · rw [if_pos hb] at this; exact absurd this (by decide)
      · omega
    have h2 := ih h.2
    rw [sumS_cons, List.length_cons]
    omega
theorem size_total {r : Rec} (hn : (r.f4.any notName) = false) (hs : shapedB r = true) : (131070 < sizeF r ∨ 65535 < (plainL r).length) ↔ 65535 < total r := by
  rw [shapedB_eq] at hs
  have hsh : r.f4.length = (shapeOf r.f1).1 ∧ r.f5.length = (shapeOf r.f1).2.1 ∧ (r.f6.length = (shapeOf r.f1).2.2 ∨ r.f1 = 16 ∧ r.f6.length ≠ 0) := by
    by_cases h : r.f4.length = (shapeOf r.f1).1 ∧ r.f5.length = (shapeOf r.f1).2.1 ∧ (r.f6.length = (shapeOf r.f1).2.2 ∨ r.f1 = 16 ∧ r.f6.length ≠ 0)
    · exact h
    · rw [if_pos h] at hs; exact absurd hs (by decide)
  have hsum := names_sum r.f4 hn
  obtain ⟨s1, s2, s3⟩ := shapeOf_le r.f1
  have ht : total r = sumS r.f6 + (if r.f1 = 16 then r.f6.length else 0) := texts_len r r.f6
  have hp : (plainL r).length = (if r.f1 = 6 then 4 else 2) * r.f5.length + sumS r.f4 + total r := by
    unfold plainL total
    simp only [List.length_append, namesL_len]
    by_cases h6 : r.f1 = 6
    · simp only [if_pos h6, numsL_len, List.length_nil]; omega
    · simp only [if_neg h6, numsL_len, List.length_nil]; omega
  have hz : r.f6 = [] ∨ (r.f4.length = 0 ∧ r.f5.length = 0) := by
    have : (shapeOf r.f1).2.2 = 0 ∨ ((shapeOf r.f1).1 = 0 ∧ (shapeOf r.f1).2.1 = 0) := by
      unfold shapeOf
      repeat' split
      all_goals simp
    rcases this with h | h
    · rcases hsh.2.2 with h2 | h2
      · exact .inl (List.length_eq_zero_iff.1 (by omega))
      · right
        rw [h2.1] at hsh
        exact ⟨hsh.1, hsh.2.1⟩
    · exact .inr ⟨by omega, by omega⟩
  have hsz : 131070 < sizeF r → 131070 < 4 * r.f5.length + sumS r.f4 + sumS r.f6 + r.f6.length := sizeGo_big _ _
  have hif : (if r.f1 = 6 then 4 else 2) * r.f5.length ≤ 4 * r.f5.length := by split <;> omega
  rcases hz with h | ⟨h4, h5⟩
  · rw [h, sumS_nil] at ht hsz
    simp only [List.length_nil] at ht hsz
    have ht0 : total r = 0 := by rw [ht]; split <;> rfl
    constructor
    · rintro (h1 | h1)
      · have := hsz h1; omega
      · omega
    · omega
  · have h40 : sumS r.f4 = 0 := by rw [List.length_eq_zero_iff.1 h4]; rfl
    rw [h5] at hp hsz
    rw [h40] at hp hsz
    constructor
    · rintro (h1 | h1)
      · have := hsz h1
        rw [ht]
        by_cases k16 : r.f1 = 16
        · rw [if_pos k16]; omega
        · rw [if_neg k16]
          have hl : r.f6.length ≤ 1 := by
            rcases hsh.2.2 with h2 | h2
            · omega
            · exact absurd h2.1 k16
          omega
      · omega
    · intro h1
      right
      omega
theorem checkF_eq (r : Rec) : checkF r = if isName r.f0 = false then 40 else if r.f4.any notName then 40 else if shapedB r = false then 50 else if 65535 < total r then 50 else if 2147483647 < r.f3 ∧ r.f1 ≠ 41 then 1 else 0 := by
  unfold checkF
  by_cases k1 : isName r.f0 = false
  · rw [if_pos k1, if_pos k1]
  rw [if_neg k1, if_neg k1]
  by_cases k2 : r.f4.any notName = true
  · rw [if_pos k2, if_pos k2]
  rw [if_neg k2, if_neg k2]
  by_cases k3 : shapedB r = false
  · rw [if_pos k3, if_pos k3]
  rw [if_neg k3, if_neg k3]
  have hx := size_total (r := r) (by simpa using k2) (by simpa using k3)
  by_cases k4 : 131070 < sizeF r
  · rw [if_pos k4, if_pos (hx.1 (.inl k4))]
  rw [if_neg k4]
  by_cases k5 : 65535 < (plainL r).length
  · rw [if_pos k5, if_pos (hx.1 (.inr k5))]
  rw [if_neg k5, if_neg (fun h => (hx.2 h).elim k4 k5)]
set_option maxHeartbeats 4000000 in
set_option maxRecDepth 100000 in
theorem check5_calls (r : Rec) (v : Value) (w : World) (hv : RecAt w v r) (hF : Fine r) (h0 : r.f0.size ≤ 140737488351232) :
    Calls Try.prog 56 #[v] w fun e w' => e = .returned (.int .i64 (checkF r)) ∧ Below w.heap.size w w' := by
  have HV := Aside0.mk hv
  obtain ⟨A4, c4, A5, c5, A6, c6, rfl, l4, g4, l5, g5, l6, g6⟩ := hv
  have G4 := Aside0.mk g4
  have HF := Aside0.mk hF
  obtain ⟨R, hR⟩ : ∃ R, checkF r = R := ⟨_, rfl⟩
  rw [hR]
  rw [checkF_eq] at hR
  have m4 : (r.f4.length : Int) ≤ 1000000000 := by have := hF.len4; omega
  clear g4 g5 g6 hF
  by_cases k1 : isName r.f0 = false
  · rw [if_pos k1] at hR
    subst hR
    have K1 := Lib.hid k1
    clear k1
    go_enter Try.func56, Try.ntmps56
    go_wp2_with (((with_reducible refine gate_dst (N := 1) rfl ?_); refine box_event rfl (N := 1) rfl (cs := #[.string r.f0, .int .u16 r.f1, .int .u16 r.f2, .int .u32 r.f3, .slice A4 r.f4.length c4, .slice A5 r.f5.length c5, .slice A6 r.f6.length c6]) (t := 85) (by first | (go_simp; done) | (go_simp; rfl)) ?_; intro g hg w1 hbox hb); have HX := Aside0.mk hbox; have HB := Aside0.mk hb; have HGe := Aside0.mk hg; clear hb hg; have z0 : w1.cell? ⟨g, 0, none⟩ = some (.string r.f0) := (blk_cell HX.out 0).trans rfl; clear hbox; have z1 : w1.cell? ⟨g, 1, none⟩ = some (.int .u16 r.f1) := (blk_cell HX.out 1).trans rfl; have z2 : w1.cell? ⟨g, 2, none⟩ = some (.int .u16 r.f2) := (blk_cell HX.out 2).trans rfl; have z3 : w1.cell? ⟨g, 3, none⟩ = some (.int .u32 r.f3) := (blk_cell HX.out 3).trans rfl; have z4 : w1.cell? ⟨g, 4, none⟩ = some (.slice A4 r.f4.length c4) := (blk_cell HX.out 4).trans rfl; have z5 : w1.cell? ⟨g, 5, none⟩ = some (.slice A5 r.f5.length c5) := (blk_cell HX.out 5).trans rfl; have z6 : w1.cell? ⟨g, 6, none⟩ = some (.slice A6 r.f6.length c6) := (blk_cell HX.out 6).trans rfl)
    refine (refIs_calls r.f0 _ h0).mono ?_
    rw [K1.out]
    rintro e w2 ⟨rfl, hb⟩
    have HX2 := Aside0.mk (blk_below HX.out hb)
    have HB2 := Aside0.mk (HB.out.trans (hb.mono (below_size HB.out)))
    clear hb z0 z1 z2 z3 z4 z5 z6
    have z0 : w2.cell? ⟨g, 0, none⟩ = some (.string r.f0) := (blk_cell HX2.out 0).trans rfl
    have z1 : w2.cell? ⟨g, 1, none⟩ = some (.int .u16 r.f1) := (blk_cell HX2.out 1).trans rfl
    have z2 : w2.cell? ⟨g, 2, none⟩ = some (.int .u16 r.f2) := (blk_cell HX2.out 2).trans rfl
    have z3 : w2.cell? ⟨g, 3, none⟩ = some (.int .u32 r.f3) := (blk_cell HX2.out 3).trans rfl
    have z4 : w2.cell? ⟨g, 4, none⟩ = some (.slice A4 r.f4.length c4) := (blk_cell HX2.out 4).trans rfl
    have z5 : w2.cell? ⟨g, 5, none⟩ = some (.slice A5 r.f5.length c5) := (blk_cell HX2.out 5).trans rfl
    have z6 : w2.cell? ⟨g, 6, none⟩ = some (.slice A6 r.f6.length c6) := (blk_cell HX2.out 6).trans rfl
    go_wp2_with fail
    go_ret
    exact ⟨rfl, HB2.out⟩
  rw [if_neg k1] at hR
  have K1 := Lib.hid (show isName r.f0 = true by simpa using k1)
  clear k1
  have HR := Aside0.mk (show (if (r.f4.drop 0).any notName then (40 : Int) else if shapedB r = false then 50 else if 65535 < total r then 50 else if 2147483647 < r.f3 ∧ r.f1 ≠ 41 then 1 else 0) = R from hR)
  clear hR
  go_enter Try.func56, Try.ntmps56
  go_wp2_with (((with_reducible refine gate_dst (N := 1) rfl ?_); refine box_event rfl (N := 1) rfl (cs := #[.string r.f0, .int .u16 r.f1, .int .u16 r.f2, .int .u32 r.f3, .slice A4 r.f4.length c4, .slice A5 r.f5.length c5, .slice A6 r.f6.length c6]) (t := 85) (by first | (go_simp; done) | (go_simp; rfl)) ?_; intro g hg w1 hbox hb); have HX := Aside0.mk hbox; have HB := Aside0.mk hb; have HGe := Aside0.mk hg; clear hb hg; have z0 : w1.cell? ⟨g, 0, none⟩ = some (.string r.f0) := (blk_cell HX.out 0).trans rfl; clear hbox; have z1 : w1.cell? ⟨g, 1, none⟩ = some (.int .u16 r.f1) := (blk_cell HX.out 1).trans rfl; have z2 : w1.cell? ⟨g, 2, none⟩ = some (.int .u16 r.f2) := (blk_cell HX.out 2).trans rfl; have z3 : w1.cell? ⟨g, 3, none⟩ = some (.int .u32 r.f3) := (blk_cell HX.out 3).trans rfl; have z4 : w1.cell? ⟨g, 4, none⟩ = some (.slice A4 r.f4.length c4) := (blk_cell HX.out 4).trans rfl; have z5 : w1.cell? ⟨g, 5, none⟩ = some (.slice A5 r.f5.length c5) := (blk_cell HX.out 5).trans rfl; have z6 : w1.cell? ⟨g, 6, none⟩ = some (.slice A6 r.f6.length c6) := (blk_cell HX.out 6).trans rfl)
  refine (refIs_calls r.f0 _ h0).mono ?_
  rw [K1.out]
  rintro e w2 ⟨rfl, hb⟩
  have HX2 := Aside0.mk (blk_below HX.out hb)
  have HB2 := Aside0.mk (HB.out.trans (hb.mono (below_size HB.out)))
  clear hb z0 z1 z2 z3 z4 z5 z6
  have z0 : w2.cell? ⟨g, 0, none⟩ = some (.string r.f0) := (blk_cell HX2.out 0).trans rfl
  have z1 : w2.cell? ⟨g, 1, none⟩ = some (.int .u16 r.f1) := (blk_cell HX2.out 1).trans rfl
  have z2 : w2.cell? ⟨g, 2, none⟩ = some (.int .u16 r.f2) := (blk_cell HX2.out 2).trans rfl
  have z3 : w2.cell? ⟨g, 3, none⟩ = some (.int .u32 r.f3) := (blk_cell HX2.out 3).trans rfl
  have z4 : w2.cell? ⟨g, 4, none⟩ = some (.slice A4 r.f4.length c4) := (blk_cell HX2.out 4).trans rfl
  have z5 : w2.cell? ⟨g, 5, none⟩ = some (.slice A5 r.f5.length c5) := (blk_cell HX2.out 5).trans rfl
  have z6 : w2.cell? ⟨g, 6, none⟩ = some (.slice A6 r.f6.length c6) := (blk_cell HX2.out 6).trans rfl
  go_wp2_with fail
  have HBr := Aside0.mk (Below.refl w2.heap.size w2)
  go_loopg [3] r.f4.length (fun kq v3 w' => ∃ k : Nat, v3 = .int .i64 k ∧ Aside0 (kq + k = r.f4.length) ∧ Aside0 ((if (r.f4.drop k).any notName then (40 : Int) else if shapedB r = false then 50 else if 65535 < total r then 50 else if 2147483647 < r.f3 ∧ r.f1 ≠ 41 then 1 else 0) = R) ∧ Aside0 (Below w2.heap.size w2 w'))
  case atStart => exact ⟨0, rfl, ⟨rfl⟩, HR, HBr⟩
  case round =>
    clear HBr HR z0 z1 z2 z3 z4 z5 z6
    obtain ⟨k, rfl, HK, HE, HBr⟩ := hrel
    have HXr := Aside0.mk (blk_below HX2.out HBr.out)
    have HBt := Aside0.mk (HB2.out.trans (HBr.out.mono (below_size HB2.out)))
    have z0 : wr.cell? ⟨g, 0, none⟩ = some (.string r.f0) := (blk_cell HXr.out 0).trans rfl
    have z1 : wr.cell? ⟨g, 1, none⟩ = some (.int .u16 r.f1) := (blk_cell HXr.out 1).trans rfl
    have z2 : wr.cell? ⟨g, 2, none⟩ = some (.int .u16 r.f2) := (blk_cell HXr.out 2).trans rfl
    have z3 : wr.cell? ⟨g, 3, none⟩ = some (.int .u32 r.f3) := (blk_cell HXr.out 3).trans rfl
    have z4 : wr.cell? ⟨g, 4, none⟩ = some (.slice A4 r.f4.length c4) := (blk_cell HXr.out 4).trans rfl
    have z5 : wr.cell? ⟨g, 5, none⟩ = some (.slice A5 r.f5.length c5) := (blk_cell HXr.out 5).trans rfl
    have z6 : wr.cell? ⟨g, 6, none⟩ = some (.slice A6 r.f6.length c6) := (blk_cell HXr.out 6).trans rfl
    have he := HE.out
    clear HE
    cases gk with
    | succ j =>
      have hk : k < r.f4.length := by have := HK.out; omega
      obtain ⟨ad, rfl, hcell⟩ := at_str (Kd.C_below G4.out HBt.out) k hk
      have q1 : (0 : Int) ≤ (k : Int) := by omega
      have q2 : (k : Int) < (r.f4.length : Int) := by omega
      have hsz : (r.f4.getD k ⟨#[]⟩).size ≤ 140737488351232 := by
        have h1 := names_le r.f4 (k + 1)
        rw [flat_snoc ⟨#[]⟩ bytesOf r.f4 k hk, List.length_append, bytesOf_length] at h1
        have h2 := HF.out.names
        omega
      rw [drop_get ⟨#[]⟩ r.f4 k hk, List.any_cons] at he
      obtain ⟨s, hs⟩ : ∃ s, r.f4.getD k ⟨#[]⟩ = s := ⟨_, rfl⟩
      rw [hs] at hcell hsz he
      have HSz := Lib.hid hsz
      clear hs hsz
      go_wp2_with fail
      refine (refIs_calls s _ HSz.out).mono ?_
      obtain ⟨b, hb⟩ : ∃ b, isName s = b := ⟨_, rfl⟩
      have hnb : notName s = !b := by unfold notName; rw [hb]
      rw [hnb] at he
      rw [hb]
      clear hb hnb
      rintro e w' ⟨rfl, hb⟩
      have HBn := Aside0.mk (HBr.out.trans (hb.mono HBr.out.size))
      have HBw := Aside0.mk (HBt.out.trans (hb.mono (below_size HBt.out)))
      clear hb
      cases b with
      | false =>
        rw [show (!false || (r.f4.drop (k + 1)).any notName) = true from rfl, if_pos rfl] at he
        subst he
        go_wp2_with fail
        go_ret
        exact ⟨rfl, HBw.out⟩
      | true =>
        rw [show (!true || (r.f4.drop (k + 1)).any notName) = (r.f4.drop (k + 1)).any notName from rfl] at he
        have HE := Aside0.mk he
        clear he
        go_wp2_with fail
        go_roundg j
        case measure => omega
        case rel => exact ⟨k + 1, by go_num, ⟨by have := HK.out; omega⟩, HE, HBn⟩
    | zero =>
      obtain rfl : k = r.f4.length := by have := HK.out; omega
      rw [List.drop_length, List.any_nil, if_neg (by decide)] at he
      have hl6 := HF.out.texts2
      have hl5 : r.f5.length ≤ 1000000000 := by have := HF.out.names; omega
      obtain ⟨b, hb⟩ : ∃ b, shapedB r = b := ⟨_, rfl⟩
      rw [hb] at he
      have HSb := Lib.hid hb
      clear hb
      go_wp2_with fail
      refine (shaped5_calls r _ _ (HV.out.below HBt.out) hl6 HF.out.len4 hl5).mono ?_
      rw [HSb.out]
      rintro e w3 ⟨rfl, hb⟩
      have HX3 := Aside0.mk (blk_below HXr.out hb)
      have HB3 := Aside0.mk (HBt.out.trans (hb.mono (below_size HBt.out)))
      clear hb z0 z1 z2 z3 z4 z5 z6
      have z0 : w3.cell? ⟨g, 0, none⟩ = some (.string r.f0) := (blk_cell HX3.out 0).trans rfl
      have z1 : w3.cell? ⟨g, 1, none⟩ = some (.int .u16 r.f1) := (blk_cell HX3.out 1).trans rfl
      have z2 : w3.cell? ⟨g, 2, none⟩ = some (.int .u16 r.f2) := (blk_cell HX3.out 2).trans rfl
      have z3 : w3.cell? ⟨g, 3, none⟩ = some (.int .u32 r.f3) := (blk_cell HX3.out 3).trans rfl
      have z4 : w3.cell? ⟨g, 4, none⟩ = some (.slice A4 r.f4.length c4) := (blk_cell HX3.out 4).trans rfl
      have z5 : w3.cell? ⟨g, 5, none⟩ = some (.slice A5 r.f5.length c5) := (blk_cell HX3.out 5).trans rfl
      have z6 : w3.cell? ⟨g, 6, none⟩ = some (.slice A6 r.f6.length c6) := (blk_cell HX3.out 6).trans rfl
      cases b with
      | false =>
        rw [if_pos rfl] at he
        subst he
        go_wp2_with fail
        go_ret
        exact ⟨rfl, HB3.out⟩
      | true =>
        rw [if_neg (by decide)] at he
        go_wp2_with fail
        refine (plain5_calls r _ _ (HV.out.below HB3.out) HF.out).mono ?_
        by_cases k4 : 65535 < total r
        · rw [if_pos k4] at he
          subst he
          have hp : plain5E r = .returned (.tuple #[.string ⟨#[]⟩, .bool false]) := if_pos k4
          rw [hp]
          rintro e w4 ⟨rfl, hb⟩
          have HX4 := Aside0.mk (blk_below HX3.out hb)
          have HB4 := Aside0.mk (HB3.out.trans (hb.mono (below_size HB3.out)))
          clear hb z0 z1 z2 z3 z4 z5 z6
          have z0 : w4.cell? ⟨g, 0, none⟩ = some (.string r.f0) := (blk_cell HX4.out 0).trans rfl
          have z1 : w4.cell? ⟨g, 1, none⟩ = some (.int .u16 r.f1) := (blk_cell HX4.out 1).trans rfl
          have z2 : w4.cell? ⟨g, 2, none⟩ = some (.int .u16 r.f2) := (blk_cell HX4.out 2).trans rfl
          have z3 : w4.cell? ⟨g, 3, none⟩ = some (.int .u32 r.f3) := (blk_cell HX4.out 3).trans rfl
          have z4 : w4.cell? ⟨g, 4, none⟩ = some (.slice A4 r.f4.length c4) := (blk_cell HX4.out 4).trans rfl
          have z5 : w4.cell? ⟨g, 5, none⟩ = some (.slice A5 r.f5.length c5) := (blk_cell HX4.out 5).trans rfl
          have z6 : w4.cell? ⟨g, 6, none⟩ = some (.slice A6 r.f6.length c6) := (blk_cell HX4.out 6).trans rfl
          clear hp k4
          go_wp2_with fail
          go_ret
          exact ⟨rfl, HB4.out⟩
        · rw [if_neg k4] at he
          have hp : plain5E r = .returned (.tuple #[.string (strOfNums (plainL r)), .bool true]) := if_neg k4
          rw [hp]
          rintro e w4 ⟨rfl, hb⟩
          have HX4 := Aside0.mk (blk_below HX3.out hb)
          have HB4 := Aside0.mk (HB3.out.trans (hb.mono (below_size HB3.out)))
          clear hb z0 z1 z2 z3 z4 z5 z6
          have z0 : w4.cell? ⟨g, 0, none⟩ = some (.string r.f0) := (blk_cell HX4.out 0).trans rfl
          have z1 : w4.cell? ⟨g, 1, none⟩ = some (.int .u16 r.f1) := (blk_cell HX4.out 1).trans rfl
          have z2 : w4.cell? ⟨g, 2, none⟩ = some (.int .u16 r.f2) := (blk_cell HX4.out 2).trans rfl
          have z3 : w4.cell? ⟨g, 3, none⟩ = some (.int .u32 r.f3) := (blk_cell HX4.out 3).trans rfl
          have z4 : w4.cell? ⟨g, 4, none⟩ = some (.slice A4 r.f4.length c4) := (blk_cell HX4.out 4).trans rfl
          have z5 : w4.cell? ⟨g, 5, none⟩ = some (.slice A5 r.f5.length c5) := (blk_cell HX4.out 5).trans rfl
          have z6 : w4.cell? ⟨g, 6, none⟩ = some (.slice A6 r.f6.length c6) := (blk_cell HX4.out 6).trans rfl
          clear hp k4
          by_cases k6 : 2147483647 < r.f3
          · have d6 : decide (2147483647 < r.f3) = true := decide_eq_true k6
            by_cases k7 : r.f1 = 41
            · rw [if_neg (fun h => h.2 k7)] at he
              subst he
              have d7 : (r.f1 != 41) = false := by rw [bne_eq_false_iff_eq]; exact k7
              clear k6 k7
              go_wp2_with fail
              go_ret
              exact ⟨rfl, HB4.out⟩
            · rw [if_pos ⟨k6, k7⟩] at he
              subst he
              have d7 : (r.f1 != 41) = true := by rw [bne_iff_ne]; exact k7
              clear k6 k7
              go_wp2_with fail
              go_ret
              exact ⟨rfl, HB4.out⟩
          · rw [if_neg (fun h => k6 h.1)] at he
            subst he
            have d6 : decide (2147483647 < r.f3) = false := decide_eq_false k6
            clear k6
            go_wp2_with fail
            go_ret
            exact ⟨rfl, HB4.out⟩
end Go.Proofs.Ytfoflodgegehfaa.M
