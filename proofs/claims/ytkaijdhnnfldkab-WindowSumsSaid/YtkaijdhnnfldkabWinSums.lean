/- Never is more taken than was let come. No condition. The walk. -/
import Derived.Test.YtkaijdhnnfldkabWin
set_option linter.unusedVariables false
set_option linter.unusedSimpArgs false
namespace Go.Proofs.Ytkaijdhnnfldkab.WinSums
open Go.RowKit Go.Maps Go.Proofs.YtkaijdhnnfldkabW.PrintMore Go.Proofs.YtkaijdhnnfldkabW.PrintWords Go.Proofs.Ytkaijdhnnfldkab.Book Go.Proofs.Ytkaijdhnnfldkab.Win

theorem w64s (x : Int) (h0 : -4611686018427387904 ≤ x) (h1 : x ≤ 4611686018427387904) : wrap64 x = x := by
  unfold wrap64
  omega
/-- The sums' bounds behind j acts. -/
structure SumsOk (j : Nat) (le al fi ta ou : Int) : Prop where
  t0 : 0 ≤ ta
  t1 : ta ≤ j * 2147483648
  o0 : 0 ≤ ou
  o1 : ou ≤ j * 2147483648
  c0 : 0 ≤ al - ou
  c1 : al - ou ≤ 2147483647
  w1 : le - ta ≤ 2147483647
  l0 : -((j : Int) + 1) * 8589934592 ≤ le
  f0 : 0 ≤ fi
  f1 : fi ≤ 2147483647
theorem takeK_facts (c v want : Int) (hc : 0 ≤ c) : 0 ≤ takeK c v want ∧ takeK c v want ≤ c ∧ (0 < takeK c v want → takeK c v want ≤ want ∧ takeK c v want ≤ v) := by
  unfold takeK
  repeat' split
  all_goals omega
theorem take_facts (c : Int) (m : Int → Option Int) (i want : Int) (hc : 0 ≤ c) (hc1 : c ≤ 2147483647) :
    0 ≤ (takeR c m i want).1 ∧ (takeR c m i want).1 ≤ c ∧ (0 < (takeR c m i want).1 → (takeR c m i want).1 ≤ want) ∧ (takeR c m i want).2.1 = c - (takeR c m i want).1 ∧ (∀ k, k ≠ i → (takeR c m i want).2.2 k = m k) ∧
      ∀ v, m i = some v → -4398046511104 ≤ v → v ≤ 2147483647 → (0 < (takeR c m i want).1 → (takeR c m i want).1 ≤ v) ∧ (takeR c m i want).2.2 i = some (v - (takeR c m i want).1) := by
  unfold takeR
  cases hm : m i with
  | none => exact ⟨by simp, by simpa using hc, by simp, by simp, fun _ _ => rfl, fun v hv => absurd hv (by simp)⟩
  | some u =>
    obtain ⟨k0, k1, k2⟩ := takeK_facts c u want hc
    simp only
    by_cases hz : takeK c u want = 0
    · rw [if_pos hz]
      exact ⟨by simp, by simpa using hc, by simp, by simp, fun _ _ => rfl, fun v hv _ _ => ⟨by simp, by show m i = some (v - 0); rw [hm, Option.some.inj hv]; simp⟩⟩
    · rw [if_neg hz]
      refine ⟨k0, k1, fun h => (k2 h).1, w64s _ (by omega) (by omega), fun k hk => ?_, fun v hv v0 v1 => ?_⟩
      · show upd m i _ k = m k
        unfold upd
        rw [if_neg hk]
      · obtain rfl := Option.some.inj hv
        refine ⟨fun h => (k2 h).2, ?_⟩
        show upd m i (wrap64 (u - takeK c u want)) i = some (u - takeK c u want)
        unfold upd
        rw [if_pos rfl, w64s _ (by omega) (by omega)]

set_option maxHeartbeats 12800000 in
set_option maxRecDepth 100000 in
theorem sums_law (w : World) (id : Int) (i0 : 0 ≤ id) (i1 : id < 4294967296) (A : Option Addr) (cap : Nat) (l : List Act4) (hA : Acts w A l) (hc : l.length ≤ cap) :
    Calls Try.prog 8 #[.int .u32 id, .slice A l.length cap] w fun e w' => e = .returned (.bool true) ∧ Below w.heap.size w w' := by
  have HA := Lib.hid hA
  clear hA
  by_cases hlong : 200 < l.length
  · go_enter Try.func8, Try.ntmps8
    go_wp2_with fail
    refine (awake_calls _).mono ?_
    rintro e w1 ⟨rfl, hB1⟩
    go_wp2_with fail
    go_ret
    exact ⟨by first | rfl | (simp; done), hB1⟩
  · have hshort : l.length ≤ 200 := by omega
    have hld : decide (200 < l.length) = false := decide_eq_false hlong
    clear hlong
    by_cases hid : id = 0
    · subst hid
      go_enter Try.func8, Try.ntmps8
      go_wp2_with fail
      refine (awake_calls _).mono ?_
      rintro e w1 ⟨rfl, hB1⟩
      go_wp2_with fail
      go_ret
      exact ⟨by first | rfl | (simp; done), hB1⟩
    · have hidb : (id == 0) = false := by simp [hid]
      have HI := Lib.hid hid
      clear hid
      go_enter Try.func8, Try.ntmps8
      go_wp2_with fail
      refine (awake_calls _).mono ?_
      rintro e w1 ⟨rfl, hB1⟩
      have HB1 := Lib.hid hB1
      clear hB1
      go_wp2_with fail
      refine (new_calls _).mono ?_
      rintro e w2 ⟨g, b, rfl, hb2, hg1, hbb1, hB2⟩
      have K2 := Lib.hid hb2
      have HL := Lib.hid (show w.heap.size ≤ g ∧ w.heap.size ≤ b from ⟨by have := HB1.out.size; omega, by have := HB1.out.size; omega⟩)
      have HB2 := Lib.hid (HB1.out.trans (hB2.mono HB1.out.size))
      clear hb2 hB2 hg1 hbb1 HB1
      go_wp2_with fail
      refine (open_calls K2.out id i0 i1 (by omega)).mono ?_
      rintro e w3 ⟨rfl, hb3, ho3⟩
      have K3 := Lib.hid hb3
      have B3 := Lib.hid (below_only HB2.out ho3 HL.out.1 HL.out.2 HB2.out.size)
      clear hb3 ho3 K2 HB2
      go_wp2_with fail
      go_loopg [6, 7, 8, 9, 10, 11] (l.length) (fun kq v6 v7 v8 v9 v10 v11 w' => ∃ (j : Nat) (le al fi ta ou : Int) (m : Int → Option Int) (N b : Nat), v6 = .int .i64 le ∧ v7 = .int .i64 al ∧ v8 = .int .i64 fi ∧ v9 = .int .i64 ta ∧ v10 = .int .i64 ou ∧ v11 = .int .i64 j ∧
        Aside0 (kq + j = l.length) ∧ Aside0 (BookAt w' g b (al - ou) fi m N) ∧ Aside0 (m id = some (le - ta)) ∧ Aside0 (N ≤ j + 1) ∧ Aside0 (SumsOk j le al fi ta ou) ∧ Aside0 (Below w.heap.size w w') ∧ Aside0 (w.heap.size ≤ b))
      case atStart => exact ⟨0, _, _, _, _, _, _, _, b, rfl, rfl, rfl, rfl, rfl, rfl, ⟨by omega⟩, ⟨by simpa using K3.out⟩, ⟨by simp [upd]⟩, ⟨by omega⟩, ⟨⟨by omega, by omega, by omega, by omega, by omega, by omega, by omega, by omega, by omega, by omega⟩⟩, ⟨B3.out⟩, ⟨HL.out.2⟩⟩
      case round =>
        clear K3 B3
        obtain ⟨j, le, al, fi, ta, ou, m, N, b, rfl, rfl, rfl, rfl, rfl, rfl, HK, HBk, HM, HN, HS, HBe, HLb⟩ := hrel
        by_cases hj : j < l.length
        · obtain ⟨ad, rfl, hlt, x0, x1, x2, x3⟩ := HA.out.cell j l[j] (List.getElem?_eq_getElem hj)
          obtain ⟨q, hq⟩ : ∃ q, l[j] = q := ⟨_, rfl⟩
          rw [hq] at x0 x1 x2 x3
          have HOk := Lib.hid (HA.out.ok q (by rw [← hq]; exact List.getElem_mem hj))
          have hbl := HBe.out
          have y0 := (hbl.cell (p := ad.add (j * 4)) (by rw [add_block]; exact hlt)).trans x0
          have y1 := (hbl.cell (p := ⟨(ad.add (j * 4)).block, (ad.add (j * 4)).off + 1, none⟩) (by rw [add_block]; exact hlt)).trans x1
          have y2 := (hbl.cell (p := ⟨(ad.add (j * 4)).block, (ad.add (j * 4)).off + 2, none⟩) (by rw [add_block]; exact hlt)).trans x2
          have y3 := (hbl.cell (p := ⟨(ad.add (j * 4)).block, (ad.add (j * 4)).off + 3, none⟩) (by rw [add_block]; exact hlt)).trans x3
          clear hbl x0 x1 x2 x3 hq
          have HJ := Lib.hid hj
          have HKJ := Lib.hid HK.out
          have HBA := Lib.hid (show BookAt (wr.alloc (.cells #[.int .i64 q.k, .int .u32 q.id, .int .u32 q.n, .int .i64 q.want] 33)) g b (al - ou) fi m N from HBk.out.kept (Below.heap_alloc wr _ _ HBk.out.lt.1) (Below.heap_alloc wr _ _ HBk.out.lt.2))
          have HBeA := Lib.hid (HBe.out.alloc HBe.out.size (.cells #[.int .i64 q.k, .int .u32 q.id, .int .u32 q.n, .int .i64 q.want] 33))
          have HVA := Lib.hid (show g < wr.heap.size ∧ b < wr.heap.size from HBk.out.lt)
          have HW0 := Lib.hid (show -4398046511104 ≤ le - ta ∧ le - ta ≤ 2147483647 by have := HS.out; have := hshort; obtain ⟨s0, s1, s2, s3, s4, s5, s6, s7, s8, s9⟩ := HS.out; have h1 := HJ.out; omega)
          have z_le : -4398046511104 ≤ le ∧ le ≤ 4398046511104 := by have := hshort; obtain ⟨s0, s1, s2, s3, s4, s5, s6, s7, s8, s9⟩ := HS.out; have h1 := HJ.out; omega
          have z_al : 0 ≤ al ∧ al ≤ 4398046511104 := by have := hshort; obtain ⟨s0, s1, s2, s3, s4, s5, s6, s7, s8, s9⟩ := HS.out; have h1 := HJ.out; omega
          have z_ta : 0 ≤ ta ∧ ta ≤ 4398046511104 := by have := hshort; obtain ⟨s0, s1, s2, s3, s4, s5, s6, s7, s8, s9⟩ := HS.out; have h1 := HJ.out; omega
          have z_ou : 0 ≤ ou ∧ ou ≤ 4398046511104 := by have := hshort; obtain ⟨s0, s1, s2, s3, s4, s5, s6, s7, s8, s9⟩ := HS.out; have h1 := HJ.out; omega
          have z_fi : 0 ≤ fi ∧ fi ≤ 2147483647 := by obtain ⟨s0, s1, s2, s3, s4, s5, s6, s7, s8, s9⟩ := HS.out; omega
          obtain ⟨le0, le1⟩ := z_le
          obtain ⟨al0, al1⟩ := z_al
          obtain ⟨ta0, ta1⟩ := z_ta
          obtain ⟨ou0, ou1⟩ := z_ou
          obtain ⟨fi0, fi1⟩ := z_fi
          have q0 := HOk.out.n0
          have q1 := HOk.out.n1
          have HNN := Lib.hid (show N < 1000000 by have := HN.out; have := hshort; have := HJ.out; omega)
          by_cases hk0 : q.k = 0
          · as_aux_lemma =>
              have kb0 : (q.k == 0) = true := by simp [hk0]
              have kb1 : (q.k == 1) = false := by simp [hk0]
              have kb2 : (q.k == 2) = false := by simp [hk0]
              have kb3 : (q.k == 3) = false := by simp [hk0]
              have kb4 : (q.k == 4) = false := by simp [hk0]
              have HQ := Lib.hid hk0
              clear hk0
              by_cases hs : q.id = id
              · have hsb : (q.id != id) = false := by simp [hs]
                have HSI := Lib.hid hs
                clear hs
                have HB := HBA
                have HBel := HBeA
                have HMi := Lib.hid HM.out
                have HLn := Lib.hid (show w.heap.size ≤ _ from HLb.out)
                have HSn := Lib.hid (show SumsOk (j + 1) (le) (al) (fi) (ta) (ou) by obtain ⟨s0, s1, s2, s3, s4, s5, s6, s7, s8, s9⟩ := HS.out; exact ⟨by omega, by push_cast; omega, by omega, by push_cast; omega, by omega, by omega, by omega, by push_cast; omega, by omega, by omega⟩)
                have HV1 := Lib.hid HSn.out.w1
                have HC0 := Lib.hid HSn.out.c0
                have HC1 := Lib.hid HSn.out.c1
                have hv0 : le - ta ≤ 2147483647 := HV1.out
                have hc0 : 0 ≤ al - (ou) := HC0.out
                have hc1 : al - (ou) ≤ 2147483647 := HC1.out
                go_wp2_with fail
                refine (of_calls HB.out id i0 i1).mono ?_
                rw [show (m id).getD 0 = le - ta by rw [HMi.out]; rfl, show (m id).isSome = true by rw [HMi.out]; rfl]
                rintro e w6 ⟨rfl, rfl⟩
                go_wp2_with fail
                refine (conn_calls HB.out).mono ?_
                rintro e w7 ⟨rfl, rfl⟩
                go_wp2_with fail
                refine (conn_calls HB.out).mono ?_
                rintro e w8 ⟨rfl, rfl⟩
                go_wp2_with fail
                refine (conn_calls HB.out).mono ?_
                rintro e w9 ⟨rfl, rfl⟩
                go_wp2_with fail
                obtain ⟨k', rfl⟩ : ∃ q, gk = q + 1 := ⟨gk - 1, by have := HKJ.out; have := HJ.out; omega⟩
                go_roundg k'
                case measure => omega
                case rel => exact ⟨j + 1, _, _, _, _, _, _, _, _, rfl, rfl, rfl, rfl, rfl, by first | rfl | (simp; done), ⟨by have := HKJ.out; omega⟩, ⟨HB.out⟩, ⟨HMi.out⟩, ⟨by have := HN.out; omega⟩, ⟨HSn.out⟩, ⟨HBel.out⟩, ⟨HLn.out⟩⟩
              · have hsb : (q.id != id) = true := by simp [hs]
                have HSI := Lib.hid hs
                clear hs
                go_wp2_with fail
                refine (open_calls HBA.out q.id HOk.out.id0 HOk.out.id1 HNN.out).mono ?_
                rintro e w4 ⟨rfl, hb4, ho4⟩
                have HB := Lib.hid hb4
                have HBel := Lib.hid (below_only HBeA.out ho4 HL.out.1 HLb.out HBeA.out.size)
                have HMi := Lib.hid (show upd m q.id fi id = some (le - ta) by unfold upd; rw [if_neg (Ne.symm HSI.out)]; exact HM.out)
                have hv : w4.heap[wr.heap.size]? = some (.cells #[.int .i64 q.k, .int .u32 q.id, .int .u32 q.n, .int .i64 q.want] 33 (0, 0)) := by rw [ho4.block wr.heap.size (by simp) (by have := HVA.out; omega) (by have := HVA.out; omega)]; exact Array.getElem?_push_size
                have z0 : w4.cell? ⟨wr.heap.size, 0, none⟩ = some (.int .i64 q.k) := by simp [World.cell?, hv]
                have z1 : w4.cell? ⟨wr.heap.size, 1, none⟩ = some (.int .u32 q.id) := by simp [World.cell?, hv]
                have z2 : w4.cell? ⟨wr.heap.size, 2, none⟩ = some (.int .u32 q.n) := by simp [World.cell?, hv]
                have z3 : w4.cell? ⟨wr.heap.size, 3, none⟩ = some (.int .i64 q.want) := by simp [World.cell?, hv]
                clear hv
                clear hb4 ho4
                have HLn := Lib.hid (show w.heap.size ≤ _ from HLb.out)
                have HSn := Lib.hid (show SumsOk (j + 1) (le) (al) (fi) (ta) (ou) by obtain ⟨s0, s1, s2, s3, s4, s5, s6, s7, s8, s9⟩ := HS.out; exact ⟨by omega, by push_cast; omega, by omega, by push_cast; omega, by omega, by omega, by omega, by push_cast; omega, by omega, by omega⟩)
                have HV1 := Lib.hid HSn.out.w1
                have HC0 := Lib.hid HSn.out.c0
                have HC1 := Lib.hid HSn.out.c1
                have hv0 : le - ta ≤ 2147483647 := HV1.out
                have hc0 : 0 ≤ al - (ou) := HC0.out
                have hc1 : al - (ou) ≤ 2147483647 := HC1.out
                go_wp2_with fail
                refine (of_calls HB.out id i0 i1).mono ?_
                rw [show ((upd m q.id fi) id).getD 0 = le - ta by rw [HMi.out]; rfl, show ((upd m q.id fi) id).isSome = true by rw [HMi.out]; rfl]
                rintro e w6 ⟨rfl, rfl⟩
                go_wp2_with fail
                refine (conn_calls HB.out).mono ?_
                rintro e w7 ⟨rfl, rfl⟩
                go_wp2_with fail
                refine (conn_calls HB.out).mono ?_
                rintro e w8 ⟨rfl, rfl⟩
                go_wp2_with fail
                refine (conn_calls HB.out).mono ?_
                rintro e w9 ⟨rfl, rfl⟩
                go_wp2_with fail
                obtain ⟨k', rfl⟩ : ∃ q, gk = q + 1 := ⟨gk - 1, by have := HKJ.out; have := HJ.out; omega⟩
                go_roundg k'
                case measure => omega
                case rel => exact ⟨j + 1, _, _, _, _, _, _, _, _, rfl, rfl, rfl, rfl, rfl, by first | rfl | (simp; done), ⟨by have := HKJ.out; omega⟩, ⟨HB.out⟩, ⟨HMi.out⟩, ⟨by have := HN.out; omega⟩, ⟨HSn.out⟩, ⟨HBel.out⟩, ⟨HLn.out⟩⟩

          · have kb0 : (q.k == 0) = false := by simp [hk0]
            have HK0 := Lib.hid hk0
            clear hk0
            by_cases hk1 : q.k = 1
            · as_aux_lemma =>
                have kb0 : (q.k == 0) = false := by simp [hk1]
                have kb1 : (q.k == 1) = true := by simp [hk1]
                have kb2 : (q.k == 2) = false := by simp [hk1]
                have kb3 : (q.k == 3) = false := by simp [hk1]
                have kb4 : (q.k == 4) = false := by simp [hk1]
                have HQ := Lib.hid hk1
                clear hk1
                by_cases hs : q.id = id
                · have hsb : (q.id != id) = false := by simp [hs]
                  have HSI := Lib.hid hs
                  clear hs
                  have HB := HBA
                  have HBel := HBeA
                  have HMi := Lib.hid HM.out
                  have HLn := Lib.hid (show w.heap.size ≤ _ from HLb.out)
                  have HSn := Lib.hid (show SumsOk (j + 1) (le) (al) (fi) (ta) (ou) by obtain ⟨s0, s1, s2, s3, s4, s5, s6, s7, s8, s9⟩ := HS.out; exact ⟨by omega, by push_cast; omega, by omega, by push_cast; omega, by omega, by omega, by omega, by push_cast; omega, by omega, by omega⟩)
                  have HV1 := Lib.hid HSn.out.w1
                  have HC0 := Lib.hid HSn.out.c0
                  have HC1 := Lib.hid HSn.out.c1
                  have hv0 : le - ta ≤ 2147483647 := HV1.out
                  have hc0 : 0 ≤ al - (ou) := HC0.out
                  have hc1 : al - (ou) ≤ 2147483647 := HC1.out
                  go_wp2_with fail
                  refine (of_calls HB.out id i0 i1).mono ?_
                  rw [show (m id).getD 0 = le - ta by rw [HMi.out]; rfl, show (m id).isSome = true by rw [HMi.out]; rfl]
                  rintro e w6 ⟨rfl, rfl⟩
                  go_wp2_with fail
                  refine (conn_calls HB.out).mono ?_
                  rintro e w7 ⟨rfl, rfl⟩
                  go_wp2_with fail
                  refine (conn_calls HB.out).mono ?_
                  rintro e w8 ⟨rfl, rfl⟩
                  go_wp2_with fail
                  refine (conn_calls HB.out).mono ?_
                  rintro e w9 ⟨rfl, rfl⟩
                  go_wp2_with fail
                  obtain ⟨k', rfl⟩ : ∃ q, gk = q + 1 := ⟨gk - 1, by have := HKJ.out; have := HJ.out; omega⟩
                  go_roundg k'
                  case measure => omega
                  case rel => exact ⟨j + 1, _, _, _, _, _, _, _, _, rfl, rfl, rfl, rfl, rfl, by first | rfl | (simp; done), ⟨by have := HKJ.out; omega⟩, ⟨HB.out⟩, ⟨HMi.out⟩, ⟨by have := HN.out; omega⟩, ⟨HSn.out⟩, ⟨HBel.out⟩, ⟨HLn.out⟩⟩
                · have hsb : (q.id != id) = true := by simp [hs]
                  have HSI := Lib.hid hs
                  clear hs
                  go_wp2_with fail
                  refine (drop_calls HBA.out q.id HOk.out.id0 HOk.out.id1).mono ?_
                  rintro e w4 ⟨rfl, hb4, ho4⟩
                  have HB := Lib.hid hb4
                  have HBel := Lib.hid (below_only HBeA.out ho4 HL.out.1 HLb.out HBeA.out.size)
                  have HMi := Lib.hid (show del m q.id id = some (le - ta) by unfold del; rw [if_neg (Ne.symm HSI.out)]; exact HM.out)
                  have hv : w4.heap[wr.heap.size]? = some (.cells #[.int .i64 q.k, .int .u32 q.id, .int .u32 q.n, .int .i64 q.want] 33 (0, 0)) := by rw [ho4.block wr.heap.size (by simp) (by have := HVA.out; omega) (by have := HVA.out; omega)]; exact Array.getElem?_push_size
                  have z0 : w4.cell? ⟨wr.heap.size, 0, none⟩ = some (.int .i64 q.k) := by simp [World.cell?, hv]
                  have z1 : w4.cell? ⟨wr.heap.size, 1, none⟩ = some (.int .u32 q.id) := by simp [World.cell?, hv]
                  have z2 : w4.cell? ⟨wr.heap.size, 2, none⟩ = some (.int .u32 q.n) := by simp [World.cell?, hv]
                  have z3 : w4.cell? ⟨wr.heap.size, 3, none⟩ = some (.int .i64 q.want) := by simp [World.cell?, hv]
                  clear hv
                  clear hb4 ho4
                  have HLn := Lib.hid (show w.heap.size ≤ _ from HLb.out)
                  have HSn := Lib.hid (show SumsOk (j + 1) (le) (al) (fi) (ta) (ou) by obtain ⟨s0, s1, s2, s3, s4, s5, s6, s7, s8, s9⟩ := HS.out; exact ⟨by omega, by push_cast; omega, by omega, by push_cast; omega, by omega, by omega, by omega, by push_cast; omega, by omega, by omega⟩)
                  have HV1 := Lib.hid HSn.out.w1
                  have HC0 := Lib.hid HSn.out.c0
                  have HC1 := Lib.hid HSn.out.c1
                  have hv0 : le - ta ≤ 2147483647 := HV1.out
                  have hc0 : 0 ≤ al - (ou) := HC0.out
                  have hc1 : al - (ou) ≤ 2147483647 := HC1.out
                  go_wp2_with fail
                  refine (of_calls HB.out id i0 i1).mono ?_
                  rw [show ((del m q.id) id).getD 0 = le - ta by rw [HMi.out]; rfl, show ((del m q.id) id).isSome = true by rw [HMi.out]; rfl]
                  rintro e w6 ⟨rfl, rfl⟩
                  go_wp2_with fail
                  refine (conn_calls HB.out).mono ?_
                  rintro e w7 ⟨rfl, rfl⟩
                  go_wp2_with fail
                  refine (conn_calls HB.out).mono ?_
                  rintro e w8 ⟨rfl, rfl⟩
                  go_wp2_with fail
                  refine (conn_calls HB.out).mono ?_
                  rintro e w9 ⟨rfl, rfl⟩
                  go_wp2_with fail
                  obtain ⟨k', rfl⟩ : ∃ q, gk = q + 1 := ⟨gk - 1, by have := HKJ.out; have := HJ.out; omega⟩
                  go_roundg k'
                  case measure => omega
                  case rel => exact ⟨j + 1, _, _, _, _, _, _, _, _, rfl, rfl, rfl, rfl, rfl, by first | rfl | (simp; done), ⟨by have := HKJ.out; omega⟩, ⟨HB.out⟩, ⟨HMi.out⟩, ⟨by have := HN.out; omega⟩, ⟨HSn.out⟩, ⟨HBel.out⟩, ⟨HLn.out⟩⟩

            · have kb1 : (q.k == 1) = false := by simp [hk1]
              have HK1 := Lib.hid hk1
              clear hk1
              by_cases hk2 : q.k = 2
              · as_aux_lemma =>
                  have kb0 : (q.k == 0) = false := by simp [hk2]
                  have kb1 : (q.k == 1) = false := by simp [hk2]
                  have kb2 : (q.k == 2) = true := by simp [hk2]
                  have kb3 : (q.k == 3) = false := by simp [hk2]
                  have kb4 : (q.k == 4) = false := by simp [hk2]
                  have HQ := Lib.hid hk2
                  clear hk2
                  obtain ⟨r1, r2, r3, hr⟩ : ∃ r1 r2 r3, growR (al - ou) m q.id q.n = (r1, r2, r3) := ⟨_, _, _, rfl⟩
                  have HR := Lib.hid hr
                  clear hr
                  by_cases hs : q.id = id
                  · have hsb : (q.id == id) = true := by simp [hs]
                    have hs0 : (q.id == 0) = false := by rw [hs]; exact hidb
                    have HSI := Lib.hid hs
                    clear hs
                    by_cases hbig : 2147483647 < le - ta + q.n
                    · have HRv := Lib.hid (show growR (al - ou) m q.id q.n = (3, al - ou, m) by unfold growR; rw [if_neg (by rw [HSI.out]; exact HI.out), HSI.out, HM.out]; simp only; rw [w64s _ (by have := HW0.out; omega) (by have := HW0.out; omega), if_pos hbig])
                      clear hbig
                      go_wp2_with fail
                      refine (grow_calls HBA.out q.id q.n HOk.out.id0 HOk.out.id1 HOk.out.n0 HOk.out.n1 HNN.out).mono ?_
                      rw [HRv.out]
                      rintro e w4 ⟨rfl, hb4, ho4⟩
                      have HB := Lib.hid hb4
                      have HBel := Lib.hid (below_only HBeA.out ho4 HL.out.1 HLb.out HBeA.out.size)
                      have HMi := Lib.hid HM.out
                      have hv : w4.heap[wr.heap.size]? = some (.cells #[.int .i64 q.k, .int .u32 q.id, .int .u32 q.n, .int .i64 q.want] 33 (0, 0)) := by rw [ho4.block wr.heap.size (by simp) (by have := HVA.out; omega) (by have := HVA.out; omega)]; exact Array.getElem?_push_size
                      have z0 : w4.cell? ⟨wr.heap.size, 0, none⟩ = some (.int .i64 q.k) := by simp [World.cell?, hv]
                      have z1 : w4.cell? ⟨wr.heap.size, 1, none⟩ = some (.int .u32 q.id) := by simp [World.cell?, hv]
                      have z2 : w4.cell? ⟨wr.heap.size, 2, none⟩ = some (.int .u32 q.n) := by simp [World.cell?, hv]
                      have z3 : w4.cell? ⟨wr.heap.size, 3, none⟩ = some (.int .i64 q.want) := by simp [World.cell?, hv]
                      clear hv
                      clear hb4 ho4
                      have HLn := Lib.hid (show w.heap.size ≤ _ from HLb.out)
                      have HSn := Lib.hid (show SumsOk (j + 1) (le) (al) (fi) (ta) (ou) by obtain ⟨s0, s1, s2, s3, s4, s5, s6, s7, s8, s9⟩ := HS.out; exact ⟨by omega, by push_cast; omega, by omega, by push_cast; omega, by omega, by omega, by omega, by push_cast; omega, by omega, by omega⟩)
                      have HV1 := Lib.hid HSn.out.w1
                      have HC0 := Lib.hid HSn.out.c0
                      have HC1 := Lib.hid HSn.out.c1
                      have hv0 : le - ta ≤ 2147483647 := HV1.out
                      have hc0 : 0 ≤ al - (ou) := HC0.out
                      have hc1 : al - (ou) ≤ 2147483647 := HC1.out
                      go_wp2_with fail
                      refine (of_calls HB.out id i0 i1).mono ?_
                      rw [show (m id).getD 0 = le - ta by rw [HMi.out]; rfl, show (m id).isSome = true by rw [HMi.out]; rfl]
                      rintro e w6 ⟨rfl, rfl⟩
                      go_wp2_with fail
                      refine (conn_calls HB.out).mono ?_
                      rintro e w7 ⟨rfl, rfl⟩
                      go_wp2_with fail
                      refine (conn_calls HB.out).mono ?_
                      rintro e w8 ⟨rfl, rfl⟩
                      go_wp2_with fail
                      refine (conn_calls HB.out).mono ?_
                      rintro e w9 ⟨rfl, rfl⟩
                      go_wp2_with fail
                      obtain ⟨k', rfl⟩ : ∃ q, gk = q + 1 := ⟨gk - 1, by have := HKJ.out; have := HJ.out; omega⟩
                      go_roundg k'
                      case measure => omega
                      case rel => exact ⟨j + 1, _, _, _, _, _, _, _, _, rfl, rfl, rfl, rfl, rfl, by first | rfl | (simp; done), ⟨by have := HKJ.out; omega⟩, ⟨HB.out⟩, ⟨HMi.out⟩, ⟨by have := HN.out; omega⟩, ⟨HSn.out⟩, ⟨HBel.out⟩, ⟨HLn.out⟩⟩
                    · have HRv := Lib.hid (show growR (al - ou) m q.id q.n = (0, al - ou, upd m q.id (le - ta + q.n)) by unfold growR; rw [if_neg (by rw [HSI.out]; exact HI.out), HSI.out, HM.out]; simp only; rw [w64s _ (by have := HW0.out; omega) (by have := HW0.out; omega), if_neg hbig])
                      have hbig' : le - ta + q.n ≤ 2147483647 := by omega
                      clear hbig
                      go_wp2_with fail
                      refine (grow_calls HBA.out q.id q.n HOk.out.id0 HOk.out.id1 HOk.out.n0 HOk.out.n1 HNN.out).mono ?_
                      rw [HRv.out]
                      rintro e w4 ⟨rfl, hb4, ho4⟩
                      have HB := Lib.hid hb4
                      have HBel := Lib.hid (below_only HBeA.out ho4 HL.out.1 HLb.out HBeA.out.size)
                      have HMi := Lib.hid (show upd m q.id (le - ta + q.n) id = some (le + q.n - ta) by unfold upd; rw [if_pos HSI.out.symm]; congr 1; omega)
                      have hv : w4.heap[wr.heap.size]? = some (.cells #[.int .i64 q.k, .int .u32 q.id, .int .u32 q.n, .int .i64 q.want] 33 (0, 0)) := by rw [ho4.block wr.heap.size (by simp) (by have := HVA.out; omega) (by have := HVA.out; omega)]; exact Array.getElem?_push_size
                      have z0 : w4.cell? ⟨wr.heap.size, 0, none⟩ = some (.int .i64 q.k) := by simp [World.cell?, hv]
                      have z1 : w4.cell? ⟨wr.heap.size, 1, none⟩ = some (.int .u32 q.id) := by simp [World.cell?, hv]
                      have z2 : w4.cell? ⟨wr.heap.size, 2, none⟩ = some (.int .u32 q.n) := by simp [World.cell?, hv]
                      have z3 : w4.cell? ⟨wr.heap.size, 3, none⟩ = some (.int .i64 q.want) := by simp [World.cell?, hv]
                      clear hv
                      clear hb4 ho4
                      have HLn := Lib.hid (show w.heap.size ≤ _ from HLb.out)
                      have HSn := Lib.hid (show SumsOk (j + 1) (le + q.n) (al) (fi) (ta) (ou) by obtain ⟨s0, s1, s2, s3, s4, s5, s6, s7, s8, s9⟩ := HS.out; exact ⟨by omega, by push_cast; omega, by omega, by push_cast; omega, by omega, by omega, by omega, by push_cast; omega, by omega, by omega⟩)
                      have HV1 := Lib.hid HSn.out.w1
                      have HC0 := Lib.hid HSn.out.c0
                      have HC1 := Lib.hid HSn.out.c1
                      have hv0 : le + q.n - ta ≤ 2147483647 := HV1.out
                      have hc0 : 0 ≤ al - (ou) := HC0.out
                      have hc1 : al - (ou) ≤ 2147483647 := HC1.out
                      go_wp2_with fail
                      refine (of_calls HB.out id i0 i1).mono ?_
                      rw [show ((upd m q.id (le - ta + q.n)) id).getD 0 = le + q.n - ta by rw [HMi.out]; rfl, show ((upd m q.id (le - ta + q.n)) id).isSome = true by rw [HMi.out]; rfl]
                      rintro e w6 ⟨rfl, rfl⟩
                      go_wp2_with fail
                      refine (conn_calls HB.out).mono ?_
                      rintro e w7 ⟨rfl, rfl⟩
                      go_wp2_with fail
                      refine (conn_calls HB.out).mono ?_
                      rintro e w8 ⟨rfl, rfl⟩
                      go_wp2_with fail
                      refine (conn_calls HB.out).mono ?_
                      rintro e w9 ⟨rfl, rfl⟩
                      go_wp2_with fail
                      obtain ⟨k', rfl⟩ : ∃ q, gk = q + 1 := ⟨gk - 1, by have := HKJ.out; have := HJ.out; omega⟩
                      go_roundg k'
                      case measure => omega
                      case rel => exact ⟨j + 1, _, _, _, _, _, _, _, _, rfl, rfl, rfl, rfl, rfl, by first | rfl | (simp; done), ⟨by have := HKJ.out; omega⟩, ⟨HB.out⟩, ⟨HMi.out⟩, ⟨by have := HN.out; omega⟩, ⟨HSn.out⟩, ⟨HBel.out⟩, ⟨HLn.out⟩⟩
                  · have hsb : (q.id == id) = false := by simp [hs]
                    have HSI := Lib.hid hs
                    clear hs
                    by_cases hz : q.id = 0
                    · have hs0 : (q.id == 0) = true := by simp [hz]
                      have HZ := Lib.hid hz
                      clear hz
                      by_cases hbig : 2147483647 < al - ou + q.n
                      · have HRv := Lib.hid (show growR (al - ou) m q.id q.n = (3, al - ou, m) by unfold growR; rw [if_pos HZ.out, w64s _ (by omega) (by omega), if_pos hbig])
                        clear hbig
                        go_wp2_with fail
                        refine (grow_calls HBA.out q.id q.n HOk.out.id0 HOk.out.id1 HOk.out.n0 HOk.out.n1 HNN.out).mono ?_
                        rw [HRv.out]
                        rintro e w4 ⟨rfl, hb4, ho4⟩
                        have HB := Lib.hid hb4
                        have HBel := Lib.hid (below_only HBeA.out ho4 HL.out.1 HLb.out HBeA.out.size)
                        have HMi := Lib.hid HM.out
                        have hv : w4.heap[wr.heap.size]? = some (.cells #[.int .i64 q.k, .int .u32 q.id, .int .u32 q.n, .int .i64 q.want] 33 (0, 0)) := by rw [ho4.block wr.heap.size (by simp) (by have := HVA.out; omega) (by have := HVA.out; omega)]; exact Array.getElem?_push_size
                        have z0 : w4.cell? ⟨wr.heap.size, 0, none⟩ = some (.int .i64 q.k) := by simp [World.cell?, hv]
                        have z1 : w4.cell? ⟨wr.heap.size, 1, none⟩ = some (.int .u32 q.id) := by simp [World.cell?, hv]
                        have z2 : w4.cell? ⟨wr.heap.size, 2, none⟩ = some (.int .u32 q.n) := by simp [World.cell?, hv]
                        have z3 : w4.cell? ⟨wr.heap.size, 3, none⟩ = some (.int .i64 q.want) := by simp [World.cell?, hv]
                        clear hv
                        clear hb4 ho4
                        have HLn := Lib.hid (show w.heap.size ≤ _ from HLb.out)
                        have HSn := Lib.hid (show SumsOk (j + 1) (le) (al) (fi) (ta) (ou) by obtain ⟨s0, s1, s2, s3, s4, s5, s6, s7, s8, s9⟩ := HS.out; exact ⟨by omega, by push_cast; omega, by omega, by push_cast; omega, by omega, by omega, by omega, by push_cast; omega, by omega, by omega⟩)
                        have HV1 := Lib.hid HSn.out.w1
                        have HC0 := Lib.hid HSn.out.c0
                        have HC1 := Lib.hid HSn.out.c1
                        have hv0 : le - ta ≤ 2147483647 := HV1.out
                        have hc0 : 0 ≤ al - (ou) := HC0.out
                        have hc1 : al - (ou) ≤ 2147483647 := HC1.out
                        go_wp2_with fail
                        refine (of_calls HB.out id i0 i1).mono ?_
                        rw [show (m id).getD 0 = le - ta by rw [HMi.out]; rfl, show (m id).isSome = true by rw [HMi.out]; rfl]
                        rintro e w6 ⟨rfl, rfl⟩
                        go_wp2_with fail
                        refine (conn_calls HB.out).mono ?_
                        rintro e w7 ⟨rfl, rfl⟩
                        go_wp2_with fail
                        refine (conn_calls HB.out).mono ?_
                        rintro e w8 ⟨rfl, rfl⟩
                        go_wp2_with fail
                        refine (conn_calls HB.out).mono ?_
                        rintro e w9 ⟨rfl, rfl⟩
                        go_wp2_with fail
                        obtain ⟨k', rfl⟩ : ∃ q, gk = q + 1 := ⟨gk - 1, by have := HKJ.out; have := HJ.out; omega⟩
                        go_roundg k'
                        case measure => omega
                        case rel => exact ⟨j + 1, _, _, _, _, _, _, _, _, rfl, rfl, rfl, rfl, rfl, by first | rfl | (simp; done), ⟨by have := HKJ.out; omega⟩, ⟨HB.out⟩, ⟨HMi.out⟩, ⟨by have := HN.out; omega⟩, ⟨HSn.out⟩, ⟨HBel.out⟩, ⟨HLn.out⟩⟩
                      · have HRv := Lib.hid (show growR (al - ou) m q.id q.n = (0, al + q.n - ou, m) by unfold growR; rw [if_pos HZ.out, w64s _ (by omega) (by omega), if_neg hbig]; simp only [Prod.mk.injEq, true_and, and_true]; omega)
                        have hbig' : al + q.n - ou ≤ 2147483647 := by omega
                        clear hbig
                        go_wp2_with fail
                        refine (grow_calls HBA.out q.id q.n HOk.out.id0 HOk.out.id1 HOk.out.n0 HOk.out.n1 HNN.out).mono ?_
                        rw [HRv.out]
                        rintro e w4 ⟨rfl, hb4, ho4⟩
                        have HB := Lib.hid hb4
                        have HBel := Lib.hid (below_only HBeA.out ho4 HL.out.1 HLb.out HBeA.out.size)
                        have HMi := Lib.hid HM.out
                        have hv : w4.heap[wr.heap.size]? = some (.cells #[.int .i64 q.k, .int .u32 q.id, .int .u32 q.n, .int .i64 q.want] 33 (0, 0)) := by rw [ho4.block wr.heap.size (by simp) (by have := HVA.out; omega) (by have := HVA.out; omega)]; exact Array.getElem?_push_size
                        have z0 : w4.cell? ⟨wr.heap.size, 0, none⟩ = some (.int .i64 q.k) := by simp [World.cell?, hv]
                        have z1 : w4.cell? ⟨wr.heap.size, 1, none⟩ = some (.int .u32 q.id) := by simp [World.cell?, hv]
                        have z2 : w4.cell? ⟨wr.heap.size, 2, none⟩ = some (.int .u32 q.n) := by simp [World.cell?, hv]
                        have z3 : w4.cell? ⟨wr.heap.size, 3, none⟩ = some (.int .i64 q.want) := by simp [World.cell?, hv]
                        clear hv
                        clear hb4 ho4
                        have HLn := Lib.hid (show w.heap.size ≤ _ from HLb.out)
                        have HSn := Lib.hid (show SumsOk (j + 1) (le) (al + q.n) (fi) (ta) (ou) by obtain ⟨s0, s1, s2, s3, s4, s5, s6, s7, s8, s9⟩ := HS.out; exact ⟨by omega, by push_cast; omega, by omega, by push_cast; omega, by omega, by omega, by omega, by push_cast; omega, by omega, by omega⟩)
                        have HV1 := Lib.hid HSn.out.w1
                        have HC0 := Lib.hid HSn.out.c0
                        have HC1 := Lib.hid HSn.out.c1
                        have hv0 : le - ta ≤ 2147483647 := HV1.out
                        have hc0 : 0 ≤ al + q.n - (ou) := HC0.out
                        have hc1 : al + q.n - (ou) ≤ 2147483647 := HC1.out
                        go_wp2_with fail
                        refine (of_calls HB.out id i0 i1).mono ?_
                        rw [show (m id).getD 0 = le - ta by rw [HMi.out]; rfl, show (m id).isSome = true by rw [HMi.out]; rfl]
                        rintro e w6 ⟨rfl, rfl⟩
                        go_wp2_with fail
                        refine (conn_calls HB.out).mono ?_
                        rintro e w7 ⟨rfl, rfl⟩
                        go_wp2_with fail
                        refine (conn_calls HB.out).mono ?_
                        rintro e w8 ⟨rfl, rfl⟩
                        go_wp2_with fail
                        refine (conn_calls HB.out).mono ?_
                        rintro e w9 ⟨rfl, rfl⟩
                        go_wp2_with fail
                        obtain ⟨k', rfl⟩ : ∃ q, gk = q + 1 := ⟨gk - 1, by have := HKJ.out; have := HJ.out; omega⟩
                        go_roundg k'
                        case measure => omega
                        case rel => exact ⟨j + 1, _, _, _, _, _, _, _, _, rfl, rfl, rfl, rfl, rfl, by first | rfl | (simp; done), ⟨by have := HKJ.out; omega⟩, ⟨HB.out⟩, ⟨HMi.out⟩, ⟨by have := HN.out; omega⟩, ⟨HSn.out⟩, ⟨HBel.out⟩, ⟨HLn.out⟩⟩
                    · have hs0 : (q.id == 0) = false := by simp [hz]
                      have HZ := Lib.hid hz
                      clear hz
                      have HRa := Lib.hid (show r2 = al - ou ∧ r3 id = m id ∧ (r1 = 0 ∨ r1 = 3) by
                        have h := HR.out
                        unfold growR at h
                        rw [if_neg HZ.out] at h
                        cases hm : m q.id with
                        | none =>
                          rw [hm] at h
                          simp only [Prod.mk.injEq] at h
                          obtain ⟨rfl, rfl, rfl⟩ := h
                          exact ⟨rfl, rfl, .inl rfl⟩
                        | some v =>
                          rw [hm] at h
                          simp only at h
                          split at h
                          · simp only [Prod.mk.injEq] at h
                            obtain ⟨rfl, rfl, rfl⟩ := h
                            exact ⟨rfl, rfl, .inr rfl⟩
                          · simp only [Prod.mk.injEq] at h
                            obtain ⟨rfl, rfl, rfl⟩ := h
                            exact ⟨rfl, by unfold upd; rw [if_neg (Ne.symm HSI.out)], .inl rfl⟩)
                      obtain ⟨ra, rb, rc⟩ := HRa.out
                      subst ra
                      have HRB := Lib.hid rb
                      clear rb HRa
                      rcases rc with rfl | rfl
                      all_goals
                        go_wp2_with fail
                        refine (grow_calls HBA.out q.id q.n HOk.out.id0 HOk.out.id1 HOk.out.n0 HOk.out.n1 HNN.out).mono ?_
                        rw [HR.out]
                        rintro e w4 ⟨rfl, hb4, ho4⟩
                        have HB := Lib.hid hb4
                        have HBel := Lib.hid (below_only HBeA.out ho4 HL.out.1 HLb.out HBeA.out.size)
                        have HMi := Lib.hid (HRB.out.trans HM.out)
                        have hv : w4.heap[wr.heap.size]? = some (.cells #[.int .i64 q.k, .int .u32 q.id, .int .u32 q.n, .int .i64 q.want] 33 (0, 0)) := by rw [ho4.block wr.heap.size (by simp) (by have := HVA.out; omega) (by have := HVA.out; omega)]; exact Array.getElem?_push_size
                        have z0 : w4.cell? ⟨wr.heap.size, 0, none⟩ = some (.int .i64 q.k) := by simp [World.cell?, hv]
                        have z1 : w4.cell? ⟨wr.heap.size, 1, none⟩ = some (.int .u32 q.id) := by simp [World.cell?, hv]
                        have z2 : w4.cell? ⟨wr.heap.size, 2, none⟩ = some (.int .u32 q.n) := by simp [World.cell?, hv]
                        have z3 : w4.cell? ⟨wr.heap.size, 3, none⟩ = some (.int .i64 q.want) := by simp [World.cell?, hv]
                        clear hv
                        clear hb4 ho4
                        have HLn := Lib.hid (show w.heap.size ≤ _ from HLb.out)
                        have HSn := Lib.hid (show SumsOk (j + 1) (le) (al) (fi) (ta) (ou) by obtain ⟨s0, s1, s2, s3, s4, s5, s6, s7, s8, s9⟩ := HS.out; exact ⟨by omega, by push_cast; omega, by omega, by push_cast; omega, by omega, by omega, by omega, by push_cast; omega, by omega, by omega⟩)
                        have HV1 := Lib.hid HSn.out.w1
                        have HC0 := Lib.hid HSn.out.c0
                        have HC1 := Lib.hid HSn.out.c1
                        have hv0 : le - ta ≤ 2147483647 := HV1.out
                        have hc0 : 0 ≤ al - (ou) := HC0.out
                        have hc1 : al - (ou) ≤ 2147483647 := HC1.out
                        go_wp2_with fail
                        refine (of_calls HB.out id i0 i1).mono ?_
                        rw [show (r3 id).getD 0 = le - ta by rw [HMi.out]; rfl, show (r3 id).isSome = true by rw [HMi.out]; rfl]
                        rintro e w6 ⟨rfl, rfl⟩
                        go_wp2_with fail
                        refine (conn_calls HB.out).mono ?_
                        rintro e w7 ⟨rfl, rfl⟩
                        go_wp2_with fail
                        refine (conn_calls HB.out).mono ?_
                        rintro e w8 ⟨rfl, rfl⟩
                        go_wp2_with fail
                        refine (conn_calls HB.out).mono ?_
                        rintro e w9 ⟨rfl, rfl⟩
                        go_wp2_with fail
                        obtain ⟨k', rfl⟩ : ∃ q, gk = q + 1 := ⟨gk - 1, by have := HKJ.out; have := HJ.out; omega⟩
                        go_roundg k'
                        case measure => omega
                        case rel => exact ⟨j + 1, _, _, _, _, _, _, _, _, rfl, rfl, rfl, rfl, rfl, by first | rfl | (simp; done), ⟨by have := HKJ.out; omega⟩, ⟨HB.out⟩, ⟨HMi.out⟩, ⟨by have := HN.out; omega⟩, ⟨HSn.out⟩, ⟨HBel.out⟩, ⟨HLn.out⟩⟩

              · have kb2 : (q.k == 2) = false := by simp [hk2]
                have HK2 := Lib.hid hk2
                clear hk2
                by_cases hk3 : q.k = 3
                · as_aux_lemma =>
                    have kb0 : (q.k == 0) = false := by simp [hk3]
                    have kb1 : (q.k == 1) = false := by simp [hk3]
                    have kb2 : (q.k == 2) = false := by simp [hk3]
                    have kb3 : (q.k == 3) = true := by simp [hk3]
                    have kb4 : (q.k == 4) = false := by simp [hk3]
                    have HQ := Lib.hid hk3
                    clear hk3
                    go_wp2_with fail
                    refine (initial_calls HBA.out q.n HOk.out.n0 HOk.out.n1 HNN.out).mono ?_
                    intro e w4 h4
                    rcases h4 with ⟨rfl, hb4, ho4, _⟩ | ⟨b', rfl, hb4, ho4, hb', hn4, hall⟩
                    · have HB := Lib.hid hb4
                      have HBel := Lib.hid (below_only HBeA.out ho4 HL.out.1 HLb.out HBeA.out.size)
                      have HMi := Lib.hid HM.out
                      have hv : w4.heap[wr.heap.size]? = some (.cells #[.int .i64 q.k, .int .u32 q.id, .int .u32 q.n, .int .i64 q.want] 33 (0, 0)) := by rw [ho4.block wr.heap.size (by simp) (by have := HVA.out; omega) (by have := HVA.out; omega)]; exact Array.getElem?_push_size
                      have z0 : w4.cell? ⟨wr.heap.size, 0, none⟩ = some (.int .i64 q.k) := by simp [World.cell?, hv]
                      have z1 : w4.cell? ⟨wr.heap.size, 1, none⟩ = some (.int .u32 q.id) := by simp [World.cell?, hv]
                      have z2 : w4.cell? ⟨wr.heap.size, 2, none⟩ = some (.int .u32 q.n) := by simp [World.cell?, hv]
                      have z3 : w4.cell? ⟨wr.heap.size, 3, none⟩ = some (.int .i64 q.want) := by simp [World.cell?, hv]
                      clear hv
                      clear hb4 ho4
                      have HLn := Lib.hid (show w.heap.size ≤ _ from HLb.out)
                      have HSn := Lib.hid (show SumsOk (j + 1) (le) (al) (fi) (ta) (ou) by obtain ⟨s0, s1, s2, s3, s4, s5, s6, s7, s8, s9⟩ := HS.out; exact ⟨by omega, by push_cast; omega, by omega, by push_cast; omega, by omega, by omega, by omega, by push_cast; omega, by omega, by omega⟩)
                      have HV1 := Lib.hid HSn.out.w1
                      have HC0 := Lib.hid HSn.out.c0
                      have HC1 := Lib.hid HSn.out.c1
                      have hv0 : le - ta ≤ 2147483647 := HV1.out
                      have hc0 : 0 ≤ al - (ou) := HC0.out
                      have hc1 : al - (ou) ≤ 2147483647 := HC1.out
                      go_wp2_with fail
                      refine (of_calls HB.out id i0 i1).mono ?_
                      rw [show (m id).getD 0 = le - ta by rw [HMi.out]; rfl, show (m id).isSome = true by rw [HMi.out]; rfl]
                      rintro e w6 ⟨rfl, rfl⟩
                      go_wp2_with fail
                      refine (conn_calls HB.out).mono ?_
                      rintro e w7 ⟨rfl, rfl⟩
                      go_wp2_with fail
                      refine (conn_calls HB.out).mono ?_
                      rintro e w8 ⟨rfl, rfl⟩
                      go_wp2_with fail
                      refine (conn_calls HB.out).mono ?_
                      rintro e w9 ⟨rfl, rfl⟩
                      go_wp2_with fail
                      obtain ⟨k', rfl⟩ : ∃ q, gk = q + 1 := ⟨gk - 1, by have := HKJ.out; have := HJ.out; omega⟩
                      go_roundg k'
                      case measure => omega
                      case rel => exact ⟨j + 1, _, _, _, _, _, _, _, _, rfl, rfl, rfl, rfl, rfl, by first | rfl | (simp; done), ⟨by have := HKJ.out; omega⟩, ⟨HB.out⟩, ⟨HMi.out⟩, ⟨by have := HN.out; omega⟩, ⟨HSn.out⟩, ⟨HBel.out⟩, ⟨HLn.out⟩⟩
                    · have HB := Lib.hid hb4
                      have HBel := Lib.hid (below_only HBeA.out ho4 HL.out.1 HLb.out HBeA.out.size)
                      have hfit := hall id (le - ta) i0 i1 HM.out
                      have hw1 : wrap64 (q.n - fi) = q.n - fi := w64s _ (by omega) (by omega)
                      have hw2 : wrap64 (le - ta + wrap64 (q.n - fi)) = le + q.n - fi - ta := by rw [hw1, w64s _ (by have := HW0.out; omega) (by have := HW0.out; omega)]; omega
                      rw [hw2] at hfit
                      have HMi := Lib.hid (show (m id).map (fun v => wrap64 (v + wrap64 (q.n - fi))) = some (le + q.n - fi - ta) by rw [HM.out]; simp only [Option.map_some]; rw [hw2])
                      have hv : w4.heap[wr.heap.size]? = some (.cells #[.int .i64 q.k, .int .u32 q.id, .int .u32 q.n, .int .i64 q.want] 33 (0, 0)) := by rw [ho4.block wr.heap.size (by simp) (by have := HVA.out; omega) (by have := HVA.out; omega)]; exact Array.getElem?_push_size
                      have z0 : w4.cell? ⟨wr.heap.size, 0, none⟩ = some (.int .i64 q.k) := by simp [World.cell?, hv]
                      have z1 : w4.cell? ⟨wr.heap.size, 1, none⟩ = some (.int .u32 q.id) := by simp [World.cell?, hv]
                      have z2 : w4.cell? ⟨wr.heap.size, 2, none⟩ = some (.int .u32 q.n) := by simp [World.cell?, hv]
                      have z3 : w4.cell? ⟨wr.heap.size, 3, none⟩ = some (.int .i64 q.want) := by simp [World.cell?, hv]
                      clear hv
                      have HLow := Lib.hid (show w.heap.size ≤ b' by have := HBeA.out.size; omega)
                      clear hb4 ho4 hall hb' hw1 hw2
                      have HLn := Lib.hid (show w.heap.size ≤ _ from HLow.out)
                      have HSn := Lib.hid (show SumsOk (j + 1) (le + q.n - fi) (al) (q.n) (ta) (ou) by obtain ⟨s0, s1, s2, s3, s4, s5, s6, s7, s8, s9⟩ := HS.out; exact ⟨by omega, by push_cast; omega, by omega, by push_cast; omega, by omega, by omega, by omega, by push_cast; omega, by omega, by omega⟩)
                      have HV1 := Lib.hid HSn.out.w1
                      have HC0 := Lib.hid HSn.out.c0
                      have HC1 := Lib.hid HSn.out.c1
                      have hv0 : le + q.n - fi - ta ≤ 2147483647 := HV1.out
                      have hc0 : 0 ≤ al - (ou) := HC0.out
                      have hc1 : al - (ou) ≤ 2147483647 := HC1.out
                      go_wp2_with fail
                      refine (of_calls HB.out id i0 i1).mono ?_
                      rw [show ((m id).map (fun v => wrap64 (v + wrap64 (q.n - fi)))).getD 0 = le + q.n - fi - ta by rw [HMi.out]; rfl, show ((m id).map (fun v => wrap64 (v + wrap64 (q.n - fi)))).isSome = true by rw [HMi.out]; rfl]
                      rintro e w6 ⟨rfl, rfl⟩
                      go_wp2_with fail
                      refine (conn_calls HB.out).mono ?_
                      rintro e w7 ⟨rfl, rfl⟩
                      go_wp2_with fail
                      refine (conn_calls HB.out).mono ?_
                      rintro e w8 ⟨rfl, rfl⟩
                      go_wp2_with fail
                      refine (conn_calls HB.out).mono ?_
                      rintro e w9 ⟨rfl, rfl⟩
                      go_wp2_with fail
                      obtain ⟨k', rfl⟩ : ∃ q, gk = q + 1 := ⟨gk - 1, by have := HKJ.out; have := HJ.out; omega⟩
                      go_roundg k'
                      case measure => omega
                      case rel => exact ⟨j + 1, _, _, _, _, _, _, _, _, rfl, rfl, rfl, rfl, rfl, by first | rfl | (simp; done), ⟨by have := HKJ.out; omega⟩, ⟨HB.out⟩, ⟨HMi.out⟩, ⟨by have := HN.out; omega⟩, ⟨HSn.out⟩, ⟨HBel.out⟩, ⟨HLn.out⟩⟩

                · have kb3 : (q.k == 3) = false := by simp [hk3]
                  have HK3 := Lib.hid hk3
                  clear hk3
                  by_cases hk4 : q.k = 4
                  · as_aux_lemma =>
                      have kb0 : (q.k == 0) = false := by simp [hk4]
                      have kb1 : (q.k == 1) = false := by simp [hk4]
                      have kb2 : (q.k == 2) = false := by simp [hk4]
                      have kb3 : (q.k == 3) = false := by simp [hk4]
                      have kb4 : (q.k == 4) = true := by simp [hk4]
                      have HQ := Lib.hid hk4
                      clear hk4
                      obtain ⟨n, c', m', hr⟩ : ∃ n c' m', takeR (al - ou) m q.id q.want = (n, c', m') := ⟨_, _, _, rfl⟩
                      obtain ⟨f1, f2, f3, f4, f5, f6⟩ := take_facts (al - ou) m q.id q.want HS.out.c0 HS.out.c1
                      rw [hr] at f1 f2 f3 f4 f5 f6
                      simp only at f1 f2 f3 f4 f5 f6
                      have HR := Lib.hid hr
                      have F3 := Lib.hid f3
                      have F4 := Lib.hid f4
                      have F5 := Lib.hid f5
                      have F6 := Lib.hid f6
                      clear hr f3 f4 f5 f6
                      have hn0 : (0 : Int) ≤ n := f1
                      have hn1 : n ≤ 2147483647 := by have := HS.out.c1; omega
                      have hcn : 0 ≤ al - (ou + n) := by omega
                      by_cases hs : q.id = id
                      · have hsb : (q.id == id) = true := by simp [hs]
                        have HSI := Lib.hid hs
                        clear hs
                        obtain ⟨g1, g2⟩ := F6.out (le - ta) (by rw [HSI.out]; exact HM.out) HW0.out.1 HW0.out.2
                        have G1 := Lib.hid g1
                        have HMi := Lib.hid (show m' id = some (le - (ta + n)) by rw [← HSI.out, g2]; congr 1; omega)
                        clear g1 g2
                        by_cases hp : 0 < n
                        · have hw' : n ≤ q.want := F3.out hp
                          have hv' : ta + n ≤ le := by have := G1.out hp; omega
                          have ho' : ou + n ≤ al := by omega
                          go_wp2_with fail
                          refine (take_calls HBA.out q.id q.want HOk.out.id0 HOk.out.id1 HNN.out).mono ?_
                          rw [HR.out]
                          rintro e w4 ⟨rfl, hb4, ho4⟩
                          have HB := Lib.hid (show BookAt w4 g b (al - (ou + n)) fi m' (N + 1) by have := F4.out; rw [show al - (ou + n) = c' by omega]; exact hb4)
                          have HBel := Lib.hid (below_only HBeA.out ho4 HL.out.1 HLb.out HBeA.out.size)
                          have hv : w4.heap[wr.heap.size]? = some (.cells #[.int .i64 q.k, .int .u32 q.id, .int .u32 q.n, .int .i64 q.want] 33 (0, 0)) := by rw [ho4.block wr.heap.size (by simp) (by have := HVA.out; omega) (by have := HVA.out; omega)]; exact Array.getElem?_push_size
                          have z0 : w4.cell? ⟨wr.heap.size, 0, none⟩ = some (.int .i64 q.k) := by simp [World.cell?, hv]
                          have z1 : w4.cell? ⟨wr.heap.size, 1, none⟩ = some (.int .u32 q.id) := by simp [World.cell?, hv]
                          have z2 : w4.cell? ⟨wr.heap.size, 2, none⟩ = some (.int .u32 q.n) := by simp [World.cell?, hv]
                          have z3 : w4.cell? ⟨wr.heap.size, 3, none⟩ = some (.int .i64 q.want) := by simp [World.cell?, hv]
                          clear hv
                          clear hb4 ho4
                          have HLn := Lib.hid (show w.heap.size ≤ _ from HLb.out)
                          have HSn := Lib.hid (show SumsOk (j + 1) (le) (al) (fi) (ta + n) (ou + n) by obtain ⟨s0, s1, s2, s3, s4, s5, s6, s7, s8, s9⟩ := HS.out; exact ⟨by omega, by push_cast; omega, by omega, by push_cast; omega, by omega, by omega, by omega, by push_cast; omega, by omega, by omega⟩)
                          have HV1 := Lib.hid HSn.out.w1
                          have HC0 := Lib.hid HSn.out.c0
                          have HC1 := Lib.hid HSn.out.c1
                          have hv0 : le - (ta + n) ≤ 2147483647 := HV1.out
                          have hc0 : 0 ≤ al - (ou + n) := HC0.out
                          have hc1 : al - (ou + n) ≤ 2147483647 := HC1.out
                          go_wp2_with fail
                          refine (of_calls HB.out id i0 i1).mono ?_
                          rw [show (m' id).getD 0 = le - (ta + n) by rw [HMi.out]; rfl, show (m' id).isSome = true by rw [HMi.out]; rfl]
                          rintro e w6 ⟨rfl, rfl⟩
                          go_wp2_with fail
                          refine (conn_calls HB.out).mono ?_
                          rintro e w7 ⟨rfl, rfl⟩
                          go_wp2_with fail
                          refine (conn_calls HB.out).mono ?_
                          rintro e w8 ⟨rfl, rfl⟩
                          go_wp2_with fail
                          refine (conn_calls HB.out).mono ?_
                          rintro e w9 ⟨rfl, rfl⟩
                          go_wp2_with fail
                          obtain ⟨k', rfl⟩ : ∃ q, gk = q + 1 := ⟨gk - 1, by have := HKJ.out; have := HJ.out; omega⟩
                          go_roundg k'
                          case measure => omega
                          case rel => exact ⟨j + 1, _, _, _, _, _, _, _, _, rfl, rfl, rfl, rfl, rfl, by first | rfl | (simp; done), ⟨by have := HKJ.out; omega⟩, ⟨HB.out⟩, ⟨HMi.out⟩, ⟨by have := HN.out; omega⟩, ⟨HSn.out⟩, ⟨HBel.out⟩, ⟨HLn.out⟩⟩
                        · obtain rfl : n = 0 := by omega
                          clear hp
                          go_wp2_with fail
                          refine (take_calls HBA.out q.id q.want HOk.out.id0 HOk.out.id1 HNN.out).mono ?_
                          rw [HR.out]
                          rintro e w4 ⟨rfl, hb4, ho4⟩
                          have HB := Lib.hid (show BookAt w4 g b (al - ou) fi m' (N + 1) by have := F4.out; rw [show al - ou = c' by omega]; exact hb4)
                          have HBel := Lib.hid (below_only HBeA.out ho4 HL.out.1 HLb.out HBeA.out.size)
                          have HMj := Lib.hid (show m' id = some (le - ta) by rw [HMi.out]; simp)
                          clear HMi
                          have HMi := HMj
                          clear HMj
                          have hv : w4.heap[wr.heap.size]? = some (.cells #[.int .i64 q.k, .int .u32 q.id, .int .u32 q.n, .int .i64 q.want] 33 (0, 0)) := by rw [ho4.block wr.heap.size (by simp) (by have := HVA.out; omega) (by have := HVA.out; omega)]; exact Array.getElem?_push_size
                          have z0 : w4.cell? ⟨wr.heap.size, 0, none⟩ = some (.int .i64 q.k) := by simp [World.cell?, hv]
                          have z1 : w4.cell? ⟨wr.heap.size, 1, none⟩ = some (.int .u32 q.id) := by simp [World.cell?, hv]
                          have z2 : w4.cell? ⟨wr.heap.size, 2, none⟩ = some (.int .u32 q.n) := by simp [World.cell?, hv]
                          have z3 : w4.cell? ⟨wr.heap.size, 3, none⟩ = some (.int .i64 q.want) := by simp [World.cell?, hv]
                          clear hv
                          clear hb4 ho4
                          have HLn := Lib.hid (show w.heap.size ≤ _ from HLb.out)
                          have HSn := Lib.hid (show SumsOk (j + 1) (le) (al) (fi) (ta) (ou) by obtain ⟨s0, s1, s2, s3, s4, s5, s6, s7, s8, s9⟩ := HS.out; exact ⟨by omega, by push_cast; omega, by omega, by push_cast; omega, by omega, by omega, by omega, by push_cast; omega, by omega, by omega⟩)
                          have HV1 := Lib.hid HSn.out.w1
                          have HC0 := Lib.hid HSn.out.c0
                          have HC1 := Lib.hid HSn.out.c1
                          have hv0 : le - ta ≤ 2147483647 := HV1.out
                          have hc0 : 0 ≤ al - (ou) := HC0.out
                          have hc1 : al - (ou) ≤ 2147483647 := HC1.out
                          go_wp2_with fail
                          refine (of_calls HB.out id i0 i1).mono ?_
                          rw [show (m' id).getD 0 = le - ta by rw [HMi.out]; rfl, show (m' id).isSome = true by rw [HMi.out]; rfl]
                          rintro e w6 ⟨rfl, rfl⟩
                          go_wp2_with fail
                          refine (conn_calls HB.out).mono ?_
                          rintro e w7 ⟨rfl, rfl⟩
                          go_wp2_with fail
                          refine (conn_calls HB.out).mono ?_
                          rintro e w8 ⟨rfl, rfl⟩
                          go_wp2_with fail
                          refine (conn_calls HB.out).mono ?_
                          rintro e w9 ⟨rfl, rfl⟩
                          go_wp2_with fail
                          obtain ⟨k', rfl⟩ : ∃ q, gk = q + 1 := ⟨gk - 1, by have := HKJ.out; have := HJ.out; omega⟩
                          go_roundg k'
                          case measure => omega
                          case rel => exact ⟨j + 1, _, _, _, _, _, _, _, _, rfl, rfl, rfl, rfl, rfl, by first | rfl | (simp; done), ⟨by have := HKJ.out; omega⟩, ⟨HB.out⟩, ⟨HMi.out⟩, ⟨by have := HN.out; omega⟩, ⟨HSn.out⟩, ⟨HBel.out⟩, ⟨HLn.out⟩⟩
                      · have hsb : (q.id == id) = false := by simp [hs]
                        have HMi := Lib.hid ((F5.out id (Ne.symm hs)).trans HM.out)
                        clear hs
                        by_cases hp : 0 < n
                        · have hw' : n ≤ q.want := F3.out hp
                          have ho' : ou + n ≤ al := by omega
                          go_wp2_with fail
                          refine (take_calls HBA.out q.id q.want HOk.out.id0 HOk.out.id1 HNN.out).mono ?_
                          rw [HR.out]
                          rintro e w4 ⟨rfl, hb4, ho4⟩
                          have HB := Lib.hid (show BookAt w4 g b (al - (ou + n)) fi m' (N + 1) by have := F4.out; rw [show al - (ou + n) = c' by omega]; exact hb4)
                          have HBel := Lib.hid (below_only HBeA.out ho4 HL.out.1 HLb.out HBeA.out.size)
                          have hv : w4.heap[wr.heap.size]? = some (.cells #[.int .i64 q.k, .int .u32 q.id, .int .u32 q.n, .int .i64 q.want] 33 (0, 0)) := by rw [ho4.block wr.heap.size (by simp) (by have := HVA.out; omega) (by have := HVA.out; omega)]; exact Array.getElem?_push_size
                          have z0 : w4.cell? ⟨wr.heap.size, 0, none⟩ = some (.int .i64 q.k) := by simp [World.cell?, hv]
                          have z1 : w4.cell? ⟨wr.heap.size, 1, none⟩ = some (.int .u32 q.id) := by simp [World.cell?, hv]
                          have z2 : w4.cell? ⟨wr.heap.size, 2, none⟩ = some (.int .u32 q.n) := by simp [World.cell?, hv]
                          have z3 : w4.cell? ⟨wr.heap.size, 3, none⟩ = some (.int .i64 q.want) := by simp [World.cell?, hv]
                          clear hv
                          clear hb4 ho4
                          have HLn := Lib.hid (show w.heap.size ≤ _ from HLb.out)
                          have HSn := Lib.hid (show SumsOk (j + 1) (le) (al) (fi) (ta) (ou + n) by obtain ⟨s0, s1, s2, s3, s4, s5, s6, s7, s8, s9⟩ := HS.out; exact ⟨by omega, by push_cast; omega, by omega, by push_cast; omega, by omega, by omega, by omega, by push_cast; omega, by omega, by omega⟩)
                          have HV1 := Lib.hid HSn.out.w1
                          have HC0 := Lib.hid HSn.out.c0
                          have HC1 := Lib.hid HSn.out.c1
                          have hv0 : le - ta ≤ 2147483647 := HV1.out
                          have hc0 : 0 ≤ al - (ou + n) := HC0.out
                          have hc1 : al - (ou + n) ≤ 2147483647 := HC1.out
                          go_wp2_with fail
                          refine (of_calls HB.out id i0 i1).mono ?_
                          rw [show (m' id).getD 0 = le - ta by rw [HMi.out]; rfl, show (m' id).isSome = true by rw [HMi.out]; rfl]
                          rintro e w6 ⟨rfl, rfl⟩
                          go_wp2_with fail
                          refine (conn_calls HB.out).mono ?_
                          rintro e w7 ⟨rfl, rfl⟩
                          go_wp2_with fail
                          refine (conn_calls HB.out).mono ?_
                          rintro e w8 ⟨rfl, rfl⟩
                          go_wp2_with fail
                          refine (conn_calls HB.out).mono ?_
                          rintro e w9 ⟨rfl, rfl⟩
                          go_wp2_with fail
                          obtain ⟨k', rfl⟩ : ∃ q, gk = q + 1 := ⟨gk - 1, by have := HKJ.out; have := HJ.out; omega⟩
                          go_roundg k'
                          case measure => omega
                          case rel => exact ⟨j + 1, _, _, _, _, _, _, _, _, rfl, rfl, rfl, rfl, rfl, by first | rfl | (simp; done), ⟨by have := HKJ.out; omega⟩, ⟨HB.out⟩, ⟨HMi.out⟩, ⟨by have := HN.out; omega⟩, ⟨HSn.out⟩, ⟨HBel.out⟩, ⟨HLn.out⟩⟩
                        · obtain rfl : n = 0 := by omega
                          clear hp
                          go_wp2_with fail
                          refine (take_calls HBA.out q.id q.want HOk.out.id0 HOk.out.id1 HNN.out).mono ?_
                          rw [HR.out]
                          rintro e w4 ⟨rfl, hb4, ho4⟩
                          have HB := Lib.hid (show BookAt w4 g b (al - ou) fi m' (N + 1) by have := F4.out; rw [show al - ou = c' by omega]; exact hb4)
                          have HBel := Lib.hid (below_only HBeA.out ho4 HL.out.1 HLb.out HBeA.out.size)
                          have hv : w4.heap[wr.heap.size]? = some (.cells #[.int .i64 q.k, .int .u32 q.id, .int .u32 q.n, .int .i64 q.want] 33 (0, 0)) := by rw [ho4.block wr.heap.size (by simp) (by have := HVA.out; omega) (by have := HVA.out; omega)]; exact Array.getElem?_push_size
                          have z0 : w4.cell? ⟨wr.heap.size, 0, none⟩ = some (.int .i64 q.k) := by simp [World.cell?, hv]
                          have z1 : w4.cell? ⟨wr.heap.size, 1, none⟩ = some (.int .u32 q.id) := by simp [World.cell?, hv]
                          have z2 : w4.cell? ⟨wr.heap.size, 2, none⟩ = some (.int .u32 q.n) := by simp [World.cell?, hv]
                          have z3 : w4.cell? ⟨wr.heap.size, 3, none⟩ = some (.int .i64 q.want) := by simp [World.cell?, hv]
                          clear hv
                          clear hb4 ho4
                          have HLn := Lib.hid (show w.heap.size ≤ _ from HLb.out)
                          have HSn := Lib.hid (show SumsOk (j + 1) (le) (al) (fi) (ta) (ou) by obtain ⟨s0, s1, s2, s3, s4, s5, s6, s7, s8, s9⟩ := HS.out; exact ⟨by omega, by push_cast; omega, by omega, by push_cast; omega, by omega, by omega, by omega, by push_cast; omega, by omega, by omega⟩)
                          have HV1 := Lib.hid HSn.out.w1
                          have HC0 := Lib.hid HSn.out.c0
                          have HC1 := Lib.hid HSn.out.c1
                          have hv0 : le - ta ≤ 2147483647 := HV1.out
                          have hc0 : 0 ≤ al - (ou) := HC0.out
                          have hc1 : al - (ou) ≤ 2147483647 := HC1.out
                          go_wp2_with fail
                          refine (of_calls HB.out id i0 i1).mono ?_
                          rw [show (m' id).getD 0 = le - ta by rw [HMi.out]; rfl, show (m' id).isSome = true by rw [HMi.out]; rfl]
                          rintro e w6 ⟨rfl, rfl⟩
                          go_wp2_with fail
                          refine (conn_calls HB.out).mono ?_
                          rintro e w7 ⟨rfl, rfl⟩
                          go_wp2_with fail
                          refine (conn_calls HB.out).mono ?_
                          rintro e w8 ⟨rfl, rfl⟩
                          go_wp2_with fail
                          refine (conn_calls HB.out).mono ?_
                          rintro e w9 ⟨rfl, rfl⟩
                          go_wp2_with fail
                          obtain ⟨k', rfl⟩ : ∃ q, gk = q + 1 := ⟨gk - 1, by have := HKJ.out; have := HJ.out; omega⟩
                          go_roundg k'
                          case measure => omega
                          case rel => exact ⟨j + 1, _, _, _, _, _, _, _, _, rfl, rfl, rfl, rfl, rfl, by first | rfl | (simp; done), ⟨by have := HKJ.out; omega⟩, ⟨HB.out⟩, ⟨HMi.out⟩, ⟨by have := HN.out; omega⟩, ⟨HSn.out⟩, ⟨HBel.out⟩, ⟨HLn.out⟩⟩

                  · have kb4 : (q.k == 4) = false := by simp [hk4]
                    have HK4 := Lib.hid hk4
                    clear hk4
                    as_aux_lemma =>
                      have HB := HBA
                      have HBel := HBeA
                      have HMi := Lib.hid HM.out
                      have HLn := Lib.hid (show w.heap.size ≤ _ from HLb.out)
                      have HSn := Lib.hid (show SumsOk (j + 1) (le) (al) (fi) (ta) (ou) by obtain ⟨s0, s1, s2, s3, s4, s5, s6, s7, s8, s9⟩ := HS.out; exact ⟨by omega, by push_cast; omega, by omega, by push_cast; omega, by omega, by omega, by omega, by push_cast; omega, by omega, by omega⟩)
                      have HV1 := Lib.hid HSn.out.w1
                      have HC0 := Lib.hid HSn.out.c0
                      have HC1 := Lib.hid HSn.out.c1
                      have hv0 : le - ta ≤ 2147483647 := HV1.out
                      have hc0 : 0 ≤ al - (ou) := HC0.out
                      have hc1 : al - (ou) ≤ 2147483647 := HC1.out
                      go_wp2_with fail
                      refine (of_calls HB.out id i0 i1).mono ?_
                      rw [show (m id).getD 0 = le - ta by rw [HMi.out]; rfl, show (m id).isSome = true by rw [HMi.out]; rfl]
                      rintro e w6 ⟨rfl, rfl⟩
                      go_wp2_with fail
                      refine (conn_calls HB.out).mono ?_
                      rintro e w7 ⟨rfl, rfl⟩
                      go_wp2_with fail
                      refine (conn_calls HB.out).mono ?_
                      rintro e w8 ⟨rfl, rfl⟩
                      go_wp2_with fail
                      refine (conn_calls HB.out).mono ?_
                      rintro e w9 ⟨rfl, rfl⟩
                      go_wp2_with fail
                      obtain ⟨k', rfl⟩ : ∃ q, gk = q + 1 := ⟨gk - 1, by have := HKJ.out; have := HJ.out; omega⟩
                      go_roundg k'
                      case measure => omega
                      case rel => exact ⟨j + 1, _, _, _, _, _, _, _, _, rfl, rfl, rfl, rfl, rfl, by first | rfl | (simp; done), ⟨by have := HKJ.out; omega⟩, ⟨HB.out⟩, ⟨HMi.out⟩, ⟨by have := HN.out; omega⟩, ⟨HSn.out⟩, ⟨HBel.out⟩, ⟨HLn.out⟩⟩
        · go_wp2_with fail
          go_ret
          exact ⟨by first | rfl | (simp; done), HBe.out⟩
theorem sums_walk (w : World) (id : Int) (hi : (Lit.int .u32 id).wf = true) (A : Option Addr) (cap : Nat) (l : List Act4) (hA : Acts w A l) (hc : l.length ≤ cap) :
    Calls Try.prog 8 #[.int .u32 id, .slice A l.length cap] w fun e w' => e = .returned (.bool true) ∧ Below w.heap.size w w' :=
  sums_law w id (u32_of_wf hi).1 (u32_of_wf hi).2 A cap l hA hc
end Go.Proofs.Ytkaijdhnnfldkab.WinSums
