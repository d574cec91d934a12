/- What happens on other streams changes a stream's window only by what the connection's lets it take. No condition. The walk. -/
import Derived.Test.YtkaijdhnnfldkacWin
import Derived.Deep.DeepCutAuto
set_option linter.unusedVariables false
set_option linter.unusedSimpArgs false
namespace Go.Proofs.Ytkaijdhnnfldkac.WinApart
open Go.RowKit Go.Maps Go.Proofs.YtkaijdhnnfldkacW.PrintMore Go.Proofs.YtkaijdhnnfldkacW.PrintWords Go.Proofs.Ytkaijdhnnfldkac.Book Go.Proofs.Ytkaijdhnnfldkac.Win
attribute [local go_sem] max2_int min2_int max_two min_two max_three min_three max_four min_four

theorem w64s (x : Int) (h0 : -4611686018427387904 ≤ x) (h1 : x ≤ 4611686018427387904) : wrap64 x = x := by
  unfold wrap64
  omega
/-- Two books, apart. -/
structure Duo (w0 w : World) (g1 b1 g2 b2 : Nat) (c1 c2 : Int) (m1 m2 : Int → Option Int) (N : Nat) : Prop where
  one : BookAt w g1 b1 c1 65535 m1 N
  two : BookAt w g2 b2 c2 65535 m2 N
  low : w0.heap.size ≤ g1 ∧ w0.heap.size ≤ b1 ∧ w0.heap.size ≤ g2 ∧ w0.heap.size ≤ b2
  ne : g1 ≠ g2 ∧ g1 ≠ b2 ∧ b1 ≠ g2 ∧ b1 ≠ b2
  below : Below w0.heap.size w0 w
section
variable {w0 w w4 w5 : World} {g1 b1 g2 b2 N n N' : Nat} {c1 c2 c' : Int} {m1 m2 m' : Int → Option Int}
theorem Duo.alloc (h : Duo w0 w g1 b1 g2 b2 c1 c2 m1 m2 N) (o : Obj) : Duo w0 (w.alloc o) g1 b1 g2 b2 c1 c2 m1 m2 N :=
  ⟨h.one.kept (Below.heap_alloc w o _ h.one.lt.1) (Below.heap_alloc w o _ h.one.lt.2), h.two.kept (Below.heap_alloc w o _ h.two.lt.1) (Below.heap_alloc w o _ h.two.lt.2), h.low, h.ne, h.below.alloc h.below.size o⟩
theorem Duo.more (h : Duo w0 w g1 b1 g2 b2 c1 c2 m1 m2 N) (hn : N ≤ n) : Duo w0 w g1 b1 g2 b2 c1 c2 m1 m2 n := ⟨h.one.more hn, h.two.more hn, h.low, h.ne, h.below⟩
theorem Duo.first (h : Duo w0 w g1 b1 g2 b2 c1 c2 m1 m2 N) (h1 : BookAt w4 g1 b1 c' 65535 m' N') (o1 : Only w w4 g1 b1) (hn : N' ≤ n) (hn2 : N ≤ n) : Duo w0 w4 g1 b1 g2 b2 c' c2 m' m2 n :=
  ⟨h1.more hn, (h.two.only o1 (Ne.symm h.ne.1) (Ne.symm h.ne.2.2.1) (Ne.symm h.ne.2.1) (Ne.symm h.ne.2.2.2)).more hn2, h.low, h.ne, below_only h.below o1 h.low.1 h.low.2.1 h.below.size⟩
theorem Duo.second (h : Duo w0 w g1 b1 g2 b2 c1 c2 m1 m2 N) (h2 : BookAt w4 g2 b2 c' 65535 m' N') (o2 : Only w w4 g2 b2) (hn : N' ≤ n) (hn2 : N ≤ n) : Duo w0 w4 g1 b1 g2 b2 c1 c' m1 m' n :=
  ⟨(h.one.only o2 h.ne.1 h.ne.2.1 h.ne.2.2.1 h.ne.2.2.2).more hn2, h2.more hn, h.low, h.ne, below_only h.below o2 h.low.2.2.1 h.low.2.2.2 h.below.size⟩
theorem only_keeps (o1 : Only w w4 g1 b1) {V : Nat} {X : Obj} (hv : w.heap[V]? = some X) (h1 : V ≠ g1) (h2 : V ≠ b1) : w4.heap[V]? = some X := by
  rw [o1.block V (Array.getElem?_eq_some_iff.1 hv).1 h1 h2]
  exact hv
end
theorem takeK_same (c1 c2 v want : Int) (h0 : 0 ≤ want) (h1 : want < c1) (h2 : want < c2) : takeK c1 v want = takeK c2 v want := by
  unfold takeK
  repeat' split
  all_goals omega
theorem takeK_range (c v want : Int) (h0 : 0 ≤ want) : 0 ≤ takeK c v want ∧ takeK c v want ≤ want := by
  unfold takeK
  repeat' split
  all_goals omega
/-- What a Take leaves of a great connection's window. -/
theorem take_leaves (c : Int) (m : Int → Option Int) (i want : Int) (h0 : 0 ≤ want) (h1 : want ≤ 1000000) (hc : 1000000 < c) (hc1 : c ≤ 2147483647) :
    (takeR c m i want).2.1 ≤ c ∧ c - 1000000 ≤ (takeR c m i want).2.1 ∧ ∀ k, k ≠ i → (takeR c m i want).2.2 k = m k := by
  unfold takeR
  cases hm : m i with
  | none => exact ⟨by simp, by simp; omega, fun _ _ => rfl⟩
  | some u =>
    obtain ⟨k0, k1⟩ := takeK_range c u want h0
    simp only
    by_cases hz : takeK c u want = 0
    · rw [if_pos hz]
      exact ⟨by simp, by simp; omega, fun _ _ => rfl⟩
    · rw [if_neg hz]
      simp only
      rw [w64s _ (by omega) (by omega)]
      exact ⟨by omega, by omega, fun k hk => by unfold upd; rw [if_neg hk]⟩
theorem take_alike (c1 c2 : Int) (m1 m2 : Int → Option Int) (i want : Int) (h0 : 0 ≤ want) (h1 : want ≤ 1000000) (hc1 : 1000000 < c1) (hc2 : 1000000 < c2) (hm : m1 i = m2 i) :
    (takeR c1 m1 i want).1 = (takeR c2 m2 i want).1 ∧ (takeR c1 m1 i want).2.2 i = (takeR c2 m2 i want).2.2 i := by
  unfold takeR
  rw [hm]
  cases hm2 : m2 i with
  | none => simp [hm, hm2]
  | some u =>
    simp only
    rw [takeK_same c1 c2 u want h0 (by omega) (by omega)]
    by_cases hz : takeK c2 u want = 0
    · rw [if_pos hz, if_pos hz]
      exact ⟨rfl, hm⟩
    · rw [if_neg hz, if_neg hz]
      simp [upd]
theorem grow_leaves (c : Int) (m : Int → Option Int) (i n : Int) (hi : i ≠ 0) : (growR c m i n).2.1 = c ∧ (∀ k, k ≠ i → (growR c m i n).2.2 k = m k) ∧ 0 ≤ (growR c m i n).1 ∧ (growR c m i n).1 ≤ 3 := by
  unfold growR
  rw [if_neg hi]
  cases hm : m i with
  | none => exact ⟨rfl, fun _ _ => rfl, by simp, by simp⟩
  | some u =>
    simp only
    split
    · exact ⟨rfl, fun _ _ => rfl, by simp, by simp⟩
    · exact ⟨rfl, fun k hk => by simp [upd, hk], by simp, by simp⟩
theorem grow_alike (c1 c2 : Int) (m1 m2 : Int → Option Int) (i n : Int) (hi : i ≠ 0) (hm : m1 i = m2 i) : (growR c1 m1 i n).1 = (growR c2 m2 i n).1 ∧ (growR c1 m1 i n).2.2 i = (growR c2 m2 i n).2.2 i := by
  unfold growR
  rw [if_neg hi, if_neg hi, hm]
  cases hm2 : m2 i with
  | none => simp [hm, hm2]
  | some u =>
    simp only
    split
    · exact ⟨rfl, hm⟩
    · simp [upd]

set_option maxHeartbeats 12800000 in
set_option maxRecDepth 100000 in
theorem apart_law (w : World) (id : Int) (i0 : 0 ≤ id) (i1 : id < 4294967296) (A : Option Addr) (cap : Nat) (l : List Act4) (hA : Acts w A l) (hc : l.length ≤ cap) :
    Calls Try.prog 3 #[.int .u32 id, .slice A l.length cap] w fun e w' => e = .returned (.bool true) ∧ Below w.heap.size w w' := by
  have HA := Lib.hid hA
  clear hA
  by_cases hlong : 100 < l.length
  · go_enter Try.func3, Try.ntmps3
    go_wp2_with fail
    refine (awake_calls _).mono ?_
    rintro e w1 ⟨rfl, hB1⟩
    go_wp2_with fail
    go_ret
    exact ⟨by first | rfl | (simp; done), hB1⟩
  · have hshort : l.length ≤ 100 := by omega
    have hld : decide (100 < l.length) = false := decide_eq_false hlong
    clear hlong
    by_cases hid : id = 0
    · subst hid
      go_enter Try.func3, Try.ntmps3
      go_wp2_with fail
      refine (awake_calls _).mono ?_
      rintro e w1 ⟨rfl, hB1⟩
      go_wp2_with fail
      go_ret
      exact ⟨by first | rfl | (simp; done), hB1⟩
    · have hidb : (id == 0) = false := by simp [hid]
      have HI := Lib.hid hid
      clear hid
      go_enter Try.func3, Try.ntmps3
      go_wp2_with fail
      refine (awake_calls _).mono ?_
      rintro e w1 ⟨rfl, hB1⟩
      have HB1 := Lib.hid hB1
      clear hB1
      go_wp2_with fail
      refine (new_calls _).mono ?_
      rintro e w2 ⟨g1, b1, rfl, hb2, hg1, hbb1, hB2⟩
      have K2 := Lib.hid hb2
      have HB2 := Lib.hid hB2
      have HG1 := Lib.hid (show w1.heap.size ≤ g1 ∧ w1.heap.size ≤ b1 from ⟨hg1, hbb1⟩)
      clear hb2 hB2 hg1 hbb1
      go_wp2_with fail
      refine (new_calls _).mono ?_
      rintro e w3 ⟨g2, b2, rfl, hb3, hg2, hbb2, hB3⟩
      have lt2 := K2.out.lt
      have HT := Lib.hid (show Duo w w3 g1 b1 g2 b2 65535 65535 (fun _ => none) (fun _ => none) 0 from
        ⟨K2.out.kept (hB3.block _ lt2.1) (hB3.block _ lt2.2), hb3, ⟨by have := HG1.out; have := HB1.out.size; omega, by have := HG1.out; have := HB1.out.size; omega, by have := HB2.out.size; have := HB1.out.size; omega, by have := HB2.out.size; have := HB1.out.size; omega⟩,
          ⟨by omega, by omega, by omega, by omega⟩, HB1.out.trans ((HB2.out.mono HB1.out.size).trans (hB3.mono (by have := HB2.out.size; have := HB1.out.size; omega)))⟩)
      clear hb3 hg2 hbb2 hB3 lt2 K2 HB1 HB2 HG1
      have hgr : growR 65535 (fun _ => none) 0 2000000000 = (0, 2000065535, fun _ => none) := by simp [growR, wrap64]
      have HGR := Lib.hid hgr
      clear hgr
      go_wp2_with fail
      refine (grow_calls HT.out.one 0 2000000000 (by omega) (by omega) (by omega) (by omega) (by omega)).mono ?_
      rw [HGR.out]
      rintro e w4 ⟨rfl, hb4, ho4⟩
      have T4 := Lib.hid (HT.out.first (n := 1) hb4 ho4 (by omega) (by omega))
      clear hb4 ho4 HT
      go_wp2_with fail
      refine (grow_calls T4.out.two 0 2000000000 (by omega) (by omega) (by omega) (by omega) (by omega)).mono ?_
      rw [HGR.out]
      rintro e w5 ⟨rfl, hb5, ho5⟩
      have T5 := Lib.hid (T4.out.second (n := 2) hb5 ho5 (by omega) (by omega))
      clear hb5 ho5 T4
      go_wp2_with fail
      refine (open_calls T5.out.one id i0 i1 (by omega)).mono ?_
      rintro e w6 ⟨rfl, hb6, ho6⟩
      have T6 := Lib.hid (T5.out.first (n := 3) hb6 ho6 (by omega) (by omega))
      clear hb6 ho6 T5
      go_wp2_with fail
      refine (open_calls T6.out.two id i0 i1 (by omega)).mono ?_
      rintro e w7 ⟨rfl, hb7, ho7⟩
      have T7 := Lib.hid (T6.out.second (n := 4) hb7 ho7 (by omega) (by omega))
      clear hb7 ho7 T6
      go_wp2_with fail
      go_loopg [7] (l.length) (fun kq v7 w' => ∃ (j : Nat) (c1 c2 : Int) (m1 m2 : Int → Option Int), v7 = .int .i64 j ∧ Aside0 (kq + j = l.length) ∧ Aside0 (Duo w w' g1 b1 g2 b2 c1 c2 m1 m2 (4 + 2 * j)) ∧ Aside0 (m1 id = m2 id) ∧ Aside0 (2000065535 - 1000000 * j ≤ c1 ∧ c1 ≤ 2147483647 ∧ 2000065535 - 1000000 * j ≤ c2 ∧ c2 ≤ 2147483647))
      case atStart => exact ⟨0, _, _, _, _, rfl, ⟨by omega⟩, ⟨T7.out⟩, ⟨by simp [upd]⟩, ⟨by omega⟩⟩
      case round =>
        clear T7 HGR
        obtain ⟨j, c1, c2, m1, m2, rfl, HK, HT, HM, HC⟩ := hrel
        by_cases hj : j < l.length
        · obtain ⟨ad, rfl, hlt, x0, x1, x2, x3⟩ := HA.out.cell j l[j] (List.getElem?_eq_getElem hj)
          obtain ⟨q, hq⟩ : ∃ q, l[j] = q := ⟨_, rfl⟩
          rw [hq] at x0 x1 x2 x3
          have HOk := Lib.hid (HA.out.ok q (by rw [← hq]; exact List.getElem_mem hj))
          have hbl := HT.out.below
          have y0 := (hbl.cell (p := ad.add (j * 4)) (by rw [add_block]; exact hlt)).trans x0
          have y1 := (hbl.cell (p := ⟨(ad.add (j * 4)).block, (ad.add (j * 4)).off + 1, none⟩) (by rw [add_block]; exact hlt)).trans x1
          have y2 := (hbl.cell (p := ⟨(ad.add (j * 4)).block, (ad.add (j * 4)).off + 2, none⟩) (by rw [add_block]; exact hlt)).trans x2
          have y3 := (hbl.cell (p := ⟨(ad.add (j * 4)).block, (ad.add (j * 4)).off + 3, none⟩) (by rw [add_block]; exact hlt)).trans x3
          clear hbl x0 x1 x2 x3 hq
          have HJ := Lib.hid hj
          have HKJ := Lib.hid HK.out
          have HNN := Lib.hid (show 4 + 2 * j < 999990 by have := hshort; have := HJ.out; omega)
          have HCC := Lib.hid (show 1000000 < c1 ∧ 1000000 < c2 ∧ c1 ≤ 2147483647 ∧ c2 ≤ 2147483647 by have h1 := hshort; have h2 := HJ.out; have h3 := HC.out; omega)
          have HVA := Lib.hid (show (g1 < wr.heap.size ∧ b1 < wr.heap.size) ∧ g2 < wr.heap.size ∧ b2 < wr.heap.size from ⟨HT.out.one.lt, HT.out.two.lt⟩)
          obtain ⟨gk', hgk⟩ : ∃ m, gk = m + 1 := ⟨gk - 1, by have := HKJ.out; have := HJ.out; omega⟩
          have HGK := Lib.hid hgk
          clear hgk
          go_upto_region 14 with (fail)
          go_cut [49] (fun v49 wc => ∃ y : Int, v49 = .int .i64 y ∧ 0 ≤ y ∧ y ≤ 1000000 ∧ wc = wr.alloc (.cells #[.int .i64 q.k, .int .u32 q.id, .int .u32 q.n, .int .i64 y] 30))
          case first =>
            by_cases h1 : 1000000 < q.want
            · go_wp2
              go_meet
              case rel => exact ⟨1000000, rfl, by omega, by omega, rfl⟩
            · by_cases h2 : 0 < q.want
              · have h1' : q.want ≤ 1000000 := by omega
                clear h1
                go_wp2
                go_meet
                case rel => exact ⟨q.want, rfl, by omega, by omega, rfl⟩
              · have h1' : q.want ≤ 1000000 := by omega
                have h2' : q.want ≤ 0 := by omega
                clear h1 h2
                go_wp2
                go_meet
                case rel => exact ⟨0, rfl, by omega, by omega, rfl⟩
          case rest =>
            obtain ⟨y, rfl, hy0, hy1, rfl⟩ := hcut
            have HTA := Lib.hid (HT.out.alloc (.cells #[.int .i64 q.k, .int .u32 q.id, .int .u32 q.n, .int .i64 y] 30))
            have hva : (wr.alloc (.cells #[.int .i64 q.k, .int .u32 q.id, .int .u32 q.n, .int .i64 y] 30)).heap[wr.heap.size]? = some (.cells #[.int .i64 q.k, .int .u32 q.id, .int .u32 q.n, .int .i64 y] 30 (0, 0)) := Array.getElem?_push_size
            generalize hWA : wr.alloc (.cells #[.int .i64 q.k, .int .u32 q.id, .int .u32 q.n, .int .i64 y] 30) = wA at *
            have HVX := Lib.hid hva
            clear hva hWA y0 y1 y2 y3
            have z0 : wA.cell? ⟨wr.heap.size, 0, none⟩ = some (.int .i64 q.k) := by simp [World.cell?, HVX.out]
            have z1 : wA.cell? ⟨wr.heap.size, 1, none⟩ = some (.int .u32 q.id) := by simp [World.cell?, HVX.out]
            have z2 : wA.cell? ⟨wr.heap.size, 2, none⟩ = some (.int .u32 q.n) := by simp [World.cell?, HVX.out]
            have z3 : wA.cell? ⟨wr.heap.size, 3, none⟩ = some (.int .i64 y) := by simp [World.cell?, HVX.out]
            by_cases hk0 : q.k = 0
            · as_aux_lemma =>
                have kb0 : (q.k == 0) = true := by simp [hk0]
                have kb1 : (q.k == 1) = false := by simp [hk0]
                have kb2 : (q.k == 2) = false := by simp [hk0]
                have kb3 : (q.k == 3) = false := by simp [hk0]
                have kb4 : (q.k == 4) = false := by simp [hk0]
                have HQ0 := Lib.hid hk0
                clear hk0
                by_cases hs : q.id = id
                · have hsb : (q.id == id) = true := by simp [hs]
                  have HSI := Lib.hid hs
                  clear hs
                  go_wp2_with fail
                  refine (open_calls HTA.out.one q.id HOk.out.id0 HOk.out.id1 (by have := HNN.out; omega)).mono ?_
                  rintro e w4 ⟨rfl, hb4, ho4⟩
                  have T4 := Lib.hid (HTA.out.first (n := 4 + 2 * j + 1) hb4 ho4 (by omega) (by omega))
                  have V4 := Lib.hid (only_keeps ho4 HVX.out (by have := HVA.out; omega) (by have := HVA.out; omega))
                  clear hb4 ho4
                  have z0 : w4.cell? ⟨wr.heap.size, 0, none⟩ = some (.int .i64 q.k) := by simp [World.cell?, V4.out]
                  have z1 : w4.cell? ⟨wr.heap.size, 1, none⟩ = some (.int .u32 q.id) := by simp [World.cell?, V4.out]
                  have z2 : w4.cell? ⟨wr.heap.size, 2, none⟩ = some (.int .u32 q.n) := by simp [World.cell?, V4.out]
                  have z3 : w4.cell? ⟨wr.heap.size, 3, none⟩ = some (.int .i64 y) := by simp [World.cell?, V4.out]
                  go_wp2_with fail
                  refine (open_calls T4.out.two id i0 i1 (by have := HNN.out; omega)).mono ?_
                  rintro e w5 ⟨rfl, hb5, ho5⟩
                  have T5 := Lib.hid (T4.out.second (n := 4 + 2 * j + 2) hb5 ho5 (by omega) (by omega))
                  have V5 := Lib.hid (only_keeps ho5 V4.out (by have := HVA.out; omega) (by have := HVA.out; omega))
                  clear hb5 ho5
                  have E := Lib.hid (show upd m1 q.id 65535 id = upd m2 id 65535 id by rw [HSI.out]; simp [upd])
                  obtain ⟨r1, hr1⟩ : ∃ r, (upd m1 q.id 65535 id).getD 0 = r := ⟨_, rfl⟩
                  obtain ⟨r2, hr2⟩ : ∃ r, (upd m1 q.id 65535 id).isSome = r := ⟨_, rfl⟩
                  have R1 := Lib.hid hr1
                  have R2 := Lib.hid hr2
                  clear hr1 hr2
                  go_wp2_with fail
                  refine (of_calls T5.out.one id i0 i1).mono ?_
                  rw [R1.out, R2.out]
                  rintro e w8 ⟨rfl, rfl⟩
                  go_wp2_with fail
                  refine (of_calls T5.out.two id i0 i1).mono ?_
                  rw [← E.out, R1.out, R2.out]
                  rintro e w9 ⟨rfl, rfl⟩
                  go_wp2_with fail
                  go_roundg gk'
                  case measure => have := HGK.out; omega
                  case rel => exact ⟨j + 1, _, _, _, _, by first | rfl | (simp; done), ⟨by have := HKJ.out; have := HGK.out; omega⟩, ⟨T5.out.more (by omega)⟩, ⟨E.out⟩, ⟨by have := HC.out; push_cast; omega⟩⟩
                · have hsb : (q.id == id) = false := by simp [hs]
                  have HSI := Lib.hid hs
                  clear hs
                  go_wp2_with fail
                  refine (open_calls HTA.out.one q.id HOk.out.id0 HOk.out.id1 (by have := HNN.out; omega)).mono ?_
                  rintro e w4 ⟨rfl, hb4, ho4⟩
                  have T4 := Lib.hid (HTA.out.first (n := 4 + 2 * j + 1) hb4 ho4 (by omega) (by omega))
                  have V4 := Lib.hid (only_keeps ho4 HVX.out (by have := HVA.out; omega) (by have := HVA.out; omega))
                  clear hb4 ho4
                  have z0 : w4.cell? ⟨wr.heap.size, 0, none⟩ = some (.int .i64 q.k) := by simp [World.cell?, V4.out]
                  have z1 : w4.cell? ⟨wr.heap.size, 1, none⟩ = some (.int .u32 q.id) := by simp [World.cell?, V4.out]
                  have z2 : w4.cell? ⟨wr.heap.size, 2, none⟩ = some (.int .u32 q.n) := by simp [World.cell?, V4.out]
                  have z3 : w4.cell? ⟨wr.heap.size, 3, none⟩ = some (.int .i64 y) := by simp [World.cell?, V4.out]
                  have E := Lib.hid (show upd m1 q.id 65535 id = m2 id by rw [← HM.out]; simp [upd, Ne.symm HSI.out])
                  obtain ⟨r1, hr1⟩ : ∃ r, (upd m1 q.id 65535 id).getD 0 = r := ⟨_, rfl⟩
                  obtain ⟨r2, hr2⟩ : ∃ r, (upd m1 q.id 65535 id).isSome = r := ⟨_, rfl⟩
                  have R1 := Lib.hid hr1
                  have R2 := Lib.hid hr2
                  clear hr1 hr2
                  go_wp2_with fail
                  refine (of_calls T4.out.one id i0 i1).mono ?_
                  rw [R1.out, R2.out]
                  rintro e w8 ⟨rfl, rfl⟩
                  go_wp2_with fail
                  refine (of_calls T4.out.two id i0 i1).mono ?_
                  rw [← E.out, R1.out, R2.out]
                  rintro e w9 ⟨rfl, rfl⟩
                  go_wp2_with fail
                  go_roundg gk'
                  case measure => have := HGK.out; omega
                  case rel => exact ⟨j + 1, _, _, _, _, by first | rfl | (simp; done), ⟨by have := HKJ.out; have := HGK.out; omega⟩, ⟨T4.out.more (by omega)⟩, ⟨E.out⟩, ⟨by have := HC.out; push_cast; omega⟩⟩

            · have kb0 : (q.k == 0) = false := by simp [hk0]
              have HK0 := Lib.hid hk0
              clear hk0
              by_cases hk1 : q.k = 1
              · as_aux_lemma =>
                  have kb0 : (q.k == 0) = false := by simp [hk1]
                  have kb1 : (q.k == 1) = true := by simp [hk1]
                  have kb2 : (q.k == 2) = false := by simp [hk1]
                  have kb3 : (q.k == 3) = false := by simp [hk1]
                  have kb4 : (q.k == 4) = false := by simp [hk1]
                  have HQ1 := Lib.hid hk1
                  clear hk1
                  by_cases hs : q.id = id
                  · have hsb : (q.id == id) = true := by simp [hs]
                    have HSI := Lib.hid hs
                    clear hs
                    go_wp2_with fail
                    refine (drop_calls HTA.out.one q.id HOk.out.id0 HOk.out.id1).mono ?_
                    rintro e w4 ⟨rfl, hb4, ho4⟩
                    have T4 := Lib.hid (HTA.out.first (n := 4 + 2 * j + 1) hb4 ho4 (by omega) (by omega))
                    have V4 := Lib.hid (only_keeps ho4 HVX.out (by have := HVA.out; omega) (by have := HVA.out; omega))
                    clear hb4 ho4
                    have z0 : w4.cell? ⟨wr.heap.size, 0, none⟩ = some (.int .i64 q.k) := by simp [World.cell?, V4.out]
                    have z1 : w4.cell? ⟨wr.heap.size, 1, none⟩ = some (.int .u32 q.id) := by simp [World.cell?, V4.out]
                    have z2 : w4.cell? ⟨wr.heap.size, 2, none⟩ = some (.int .u32 q.n) := by simp [World.cell?, V4.out]
                    have z3 : w4.cell? ⟨wr.heap.size, 3, none⟩ = some (.int .i64 y) := by simp [World.cell?, V4.out]
                    go_wp2_with fail
                    refine (drop_calls T4.out.two id i0 i1).mono ?_
                    rintro e w5 ⟨rfl, hb5, ho5⟩
                    have T5 := Lib.hid (T4.out.second (n := 4 + 2 * j + 2) hb5 ho5 (by omega) (by omega))
                    have V5 := Lib.hid (only_keeps ho5 V4.out (by have := HVA.out; omega) (by have := HVA.out; omega))
                    clear hb5 ho5
                    have E := Lib.hid (show del m1 q.id id = del m2 id id by rw [HSI.out]; simp [del])
                    obtain ⟨r1, hr1⟩ : ∃ r, (del m1 q.id id).getD 0 = r := ⟨_, rfl⟩
                    obtain ⟨r2, hr2⟩ : ∃ r, (del m1 q.id id).isSome = r := ⟨_, rfl⟩
                    have R1 := Lib.hid hr1
                    have R2 := Lib.hid hr2
                    clear hr1 hr2
                    go_wp2_with fail
                    refine (of_calls T5.out.one id i0 i1).mono ?_
                    rw [R1.out, R2.out]
                    rintro e w8 ⟨rfl, rfl⟩
                    go_wp2_with fail
                    refine (of_calls T5.out.two id i0 i1).mono ?_
                    rw [← E.out, R1.out, R2.out]
                    rintro e w9 ⟨rfl, rfl⟩
                    go_wp2_with fail
                    go_roundg gk'
                    case measure => have := HGK.out; omega
                    case rel => exact ⟨j + 1, _, _, _, _, by first | rfl | (simp; done), ⟨by have := HKJ.out; have := HGK.out; omega⟩, ⟨T5.out.more (by omega)⟩, ⟨E.out⟩, ⟨by have := HC.out; push_cast; omega⟩⟩
                  · have hsb : (q.id == id) = false := by simp [hs]
                    have HSI := Lib.hid hs
                    clear hs
                    go_wp2_with fail
                    refine (drop_calls HTA.out.one q.id HOk.out.id0 HOk.out.id1).mono ?_
                    rintro e w4 ⟨rfl, hb4, ho4⟩
                    have T4 := Lib.hid (HTA.out.first (n := 4 + 2 * j + 1) hb4 ho4 (by omega) (by omega))
                    have V4 := Lib.hid (only_keeps ho4 HVX.out (by have := HVA.out; omega) (by have := HVA.out; omega))
                    clear hb4 ho4
                    have z0 : w4.cell? ⟨wr.heap.size, 0, none⟩ = some (.int .i64 q.k) := by simp [World.cell?, V4.out]
                    have z1 : w4.cell? ⟨wr.heap.size, 1, none⟩ = some (.int .u32 q.id) := by simp [World.cell?, V4.out]
                    have z2 : w4.cell? ⟨wr.heap.size, 2, none⟩ = some (.int .u32 q.n) := by simp [World.cell?, V4.out]
                    have z3 : w4.cell? ⟨wr.heap.size, 3, none⟩ = some (.int .i64 y) := by simp [World.cell?, V4.out]
                    have E := Lib.hid (show del m1 q.id id = m2 id by rw [← HM.out]; simp [del, Ne.symm HSI.out])
                    obtain ⟨r1, hr1⟩ : ∃ r, (del m1 q.id id).getD 0 = r := ⟨_, rfl⟩
                    obtain ⟨r2, hr2⟩ : ∃ r, (del m1 q.id id).isSome = r := ⟨_, rfl⟩
                    have R1 := Lib.hid hr1
                    have R2 := Lib.hid hr2
                    clear hr1 hr2
                    go_wp2_with fail
                    refine (of_calls T4.out.one id i0 i1).mono ?_
                    rw [R1.out, R2.out]
                    rintro e w8 ⟨rfl, rfl⟩
                    go_wp2_with fail
                    refine (of_calls T4.out.two id i0 i1).mono ?_
                    rw [← E.out, R1.out, R2.out]
                    rintro e w9 ⟨rfl, rfl⟩
                    go_wp2_with fail
                    go_roundg gk'
                    case measure => have := HGK.out; omega
                    case rel => exact ⟨j + 1, _, _, _, _, by first | rfl | (simp; done), ⟨by have := HKJ.out; have := HGK.out; omega⟩, ⟨T4.out.more (by omega)⟩, ⟨E.out⟩, ⟨by have := HC.out; push_cast; omega⟩⟩

              · have kb1 : (q.k == 1) = false := by simp [hk1]
                have HK1 := Lib.hid hk1
                clear hk1
                by_cases hk2 : q.k = 2
                · as_aux_lemma =>
                    have kb0 : (q.k == 0) = false := by simp [hk2]
                    have kb1 : (q.k == 1) = false := by simp [hk2]
                    have kb2 : (q.k == 2) = true := by simp [hk2]
                    have kb3 : (q.k == 3) = false := by simp [hk2]
                    have kb4 : (q.k == 4) = false := by simp [hk2]
                    have HQ2 := Lib.hid hk2
                    clear hk2
                    by_cases hz : q.id = 0
                    · have hzb : (q.id == 0) = true := by simp [hz]
                      clear hz
                      go_wp2_with fail
                      go_roundg gk'
                      case measure => have := HGK.out; omega
                      case rel => exact ⟨j + 1, _, _, _, _, by first | rfl | (simp; done), ⟨by have := HKJ.out; have := HGK.out; omega⟩, ⟨HTA.out.more (by omega)⟩, ⟨HM.out⟩, ⟨by have := HC.out; push_cast; omega⟩⟩
                    · have hzb : (q.id == 0) = false := by simp [hz]
                      obtain ⟨l1, l2, l3, l4⟩ := grow_leaves c1 m1 q.id q.n hz
                      obtain ⟨r, c', m', hr⟩ : ∃ r c' m', growR c1 m1 q.id q.n = (r, c', m') := ⟨_, _, _, rfl⟩
                      rw [hr] at l1 l2 l3 l4
                      simp only at l1 l2 l3 l4
                      obtain rfl := l1
                      have L2 := Lib.hid l2
                      have HR := Lib.hid hr
                      have HZ := Lib.hid hz
                      clear l2 hr hz
                      by_cases hs : q.id = id
                      · have hsb : (q.id == id) = true := by simp [hs]
                        have HSI := Lib.hid hs
                        clear hs
                        obtain ⟨a1, a2⟩ := grow_alike c' c2 m1 m2 id q.n HI.out HM.out
                        obtain ⟨_, _, d3, d4⟩ := grow_leaves c2 m2 id q.n HI.out
                        obtain ⟨s, c'', m'', hs'⟩ : ∃ s c'' m'', growR c2 m2 id q.n = (s, c'', m'') := ⟨_, _, _, rfl⟩
                        have hl := (grow_leaves c2 m2 id q.n HI.out).1
                        have hr' := HR.out
                        rw [HSI.out] at hr'
                        rw [hr', hs'] at a1 a2
                        rw [hs'] at hl
                        simp only at a1 a2 hl
                        obtain rfl := hl
                        subst a1
                        have HS' := Lib.hid hs'
                        have E := Lib.hid a2
                        clear hs' a2 hr' d3 d4
                        go_wp2_with fail
                        refine (grow_calls HTA.out.one q.id q.n HOk.out.id0 HOk.out.id1 HOk.out.n0 HOk.out.n1 (by have := HNN.out; omega)).mono ?_
                        rw [HR.out]
                        rintro e w4 ⟨rfl, hb4, ho4⟩
                        have T4 := Lib.hid (HTA.out.first (n := 4 + 2 * j + 1) hb4 ho4 (by omega) (by omega))
                        have V4 := Lib.hid (only_keeps ho4 HVX.out (by have := HVA.out; omega) (by have := HVA.out; omega))
                        clear hb4 ho4
                        have z0 : w4.cell? ⟨wr.heap.size, 0, none⟩ = some (.int .i64 q.k) := by simp [World.cell?, V4.out]
                        have z1 : w4.cell? ⟨wr.heap.size, 1, none⟩ = some (.int .u32 q.id) := by simp [World.cell?, V4.out]
                        have z2 : w4.cell? ⟨wr.heap.size, 2, none⟩ = some (.int .u32 q.n) := by simp [World.cell?, V4.out]
                        have z3 : w4.cell? ⟨wr.heap.size, 3, none⟩ = some (.int .i64 y) := by simp [World.cell?, V4.out]
                        go_wp2_with fail
                        refine (grow_calls T4.out.two id q.n i0 i1 HOk.out.n0 HOk.out.n1 (by have := HNN.out; omega)).mono ?_
                        rw [HS'.out]
                        rintro e w5 ⟨rfl, hb5, ho5⟩
                        have T5 := Lib.hid (T4.out.second (n := 4 + 2 * j + 2) hb5 ho5 (by omega) (by omega))
                        have V5 := Lib.hid (only_keeps ho5 V4.out (by have := HVA.out; omega) (by have := HVA.out; omega))
                        clear hb5 ho5
                        obtain ⟨r1, hr1⟩ : ∃ r, (m' id).getD 0 = r := ⟨_, rfl⟩
                        obtain ⟨r2, hr2⟩ : ∃ r, (m' id).isSome = r := ⟨_, rfl⟩
                        have R1 := Lib.hid hr1
                        have R2 := Lib.hid hr2
                        clear hr1 hr2
                        go_wp2_with fail
                        refine (of_calls T5.out.one id i0 i1).mono ?_
                        rw [R1.out, R2.out]
                        rintro e w8 ⟨rfl, rfl⟩
                        go_wp2_with fail
                        refine (of_calls T5.out.two id i0 i1).mono ?_
                        rw [← E.out, R1.out, R2.out]
                        rintro e w9 ⟨rfl, rfl⟩
                        go_wp2_with fail
                        go_roundg gk'
                        case measure => have := HGK.out; omega
                        case rel => exact ⟨j + 1, _, _, _, _, by first | rfl | (simp; done), ⟨by have := HKJ.out; have := HGK.out; omega⟩, ⟨T5.out.more (by omega)⟩, ⟨E.out⟩, ⟨by have := HC.out; push_cast; omega⟩⟩
                      · have hsb : (q.id == id) = false := by simp [hs]
                        have HSI := Lib.hid hs
                        clear hs
                        go_wp2_with fail
                        refine (grow_calls HTA.out.one q.id q.n HOk.out.id0 HOk.out.id1 HOk.out.n0 HOk.out.n1 (by have := HNN.out; omega)).mono ?_
                        rw [HR.out]
                        rintro e w4 ⟨rfl, hb4, ho4⟩
                        have T4 := Lib.hid (HTA.out.first (n := 4 + 2 * j + 1) hb4 ho4 (by omega) (by omega))
                        have V4 := Lib.hid (only_keeps ho4 HVX.out (by have := HVA.out; omega) (by have := HVA.out; omega))
                        clear hb4 ho4
                        have z0 : w4.cell? ⟨wr.heap.size, 0, none⟩ = some (.int .i64 q.k) := by simp [World.cell?, V4.out]
                        have z1 : w4.cell? ⟨wr.heap.size, 1, none⟩ = some (.int .u32 q.id) := by simp [World.cell?, V4.out]
                        have z2 : w4.cell? ⟨wr.heap.size, 2, none⟩ = some (.int .u32 q.n) := by simp [World.cell?, V4.out]
                        have z3 : w4.cell? ⟨wr.heap.size, 3, none⟩ = some (.int .i64 y) := by simp [World.cell?, V4.out]
                        have E := Lib.hid ((L2.out id (Ne.symm HSI.out)).trans HM.out)
                        obtain ⟨r1, hr1⟩ : ∃ r, (m' id).getD 0 = r := ⟨_, rfl⟩
                        obtain ⟨r2, hr2⟩ : ∃ r, (m' id).isSome = r := ⟨_, rfl⟩
                        have R1 := Lib.hid hr1
                        have R2 := Lib.hid hr2
                        clear hr1 hr2
                        go_wp2_with fail
                        refine (of_calls T4.out.one id i0 i1).mono ?_
                        rw [R1.out, R2.out]
                        rintro e w8 ⟨rfl, rfl⟩
                        go_wp2_with fail
                        refine (of_calls T4.out.two id i0 i1).mono ?_
                        rw [← E.out, R1.out, R2.out]
                        rintro e w9 ⟨rfl, rfl⟩
                        go_wp2_with fail
                        go_roundg gk'
                        case measure => have := HGK.out; omega
                        case rel => exact ⟨j + 1, _, _, _, _, by first | rfl | (simp; done), ⟨by have := HKJ.out; have := HGK.out; omega⟩, ⟨T4.out.more (by omega)⟩, ⟨E.out⟩, ⟨by have := HC.out; push_cast; omega⟩⟩


                · have kb2 : (q.k == 2) = false := by simp [hk2]
                  have HK2 := Lib.hid hk2
                  clear hk2
                  by_cases hk3 : q.k = 3
                  · as_aux_lemma =>
                      have kb0 : (q.k == 0) = false := by simp [hk3]
                      have kb1 : (q.k == 1) = false := by simp [hk3]
                      have kb2 : (q.k == 2) = false := by simp [hk3]
                      have kb3 : (q.k == 3) = true := by simp [hk3]
                      have kb4 : (q.k == 4) = false := by simp [hk3]
                      have HQ3 := Lib.hid hk3
                      clear hk3
                      go_wp2_with fail
                      go_roundg gk'
                      case measure => have := HGK.out; omega
                      case rel => exact ⟨j + 1, _, _, _, _, by first | rfl | (simp; done), ⟨by have := HKJ.out; have := HGK.out; omega⟩, ⟨HTA.out.more (by omega)⟩, ⟨HM.out⟩, ⟨by have := HC.out; push_cast; omega⟩⟩
                  · have kb3 : (q.k == 3) = false := by simp [hk3]
                    have HK3 := Lib.hid hk3
                    clear hk3
                    by_cases hk4 : q.k = 4
                    · as_aux_lemma =>
                        have kb0 : (q.k == 0) = false := by simp [hk4]
                        have kb1 : (q.k == 1) = false := by simp [hk4]
                        have kb2 : (q.k == 2) = false := by simp [hk4]
                        have kb3 : (q.k == 3) = false := by simp [hk4]
                        have kb4 : (q.k == 4) = true := by simp [hk4]
                        have HQ4 := Lib.hid hk4
                        clear hk4
                        obtain ⟨l1, l2, l3⟩ := take_leaves c1 m1 q.id y hy0 hy1 HCC.out.1 HCC.out.2.2.1
                        obtain ⟨r, c', m', hr⟩ : ∃ r c' m', takeR c1 m1 q.id y = (r, c', m') := ⟨_, _, _, rfl⟩
                        rw [hr] at l1 l2 l3
                        simp only at l1 l2 l3
                        have L1 := Lib.hid (show c1 - 1000000 ≤ c' ∧ c' ≤ c1 from ⟨l2, l1⟩)
                        have L3 := Lib.hid l3
                        have HR := Lib.hid hr
                        clear l1 l2 l3 hr
                        by_cases hs : q.id = id
                        · have hsb : (q.id == id) = true := by simp [hs]
                          have HSI := Lib.hid hs
                          clear hs
                          obtain ⟨a1, a2⟩ := take_alike c1 c2 m1 m2 id y hy0 hy1 HCC.out.1 HCC.out.2.1 HM.out
                          obtain ⟨d1, d2, _⟩ := take_leaves c2 m2 id y hy0 hy1 HCC.out.2.1 HCC.out.2.2.2
                          obtain ⟨s, c'', m'', hs'⟩ : ∃ s c'' m'', takeR c2 m2 id y = (s, c'', m'') := ⟨_, _, _, rfl⟩
                          have hr' := HR.out
                          rw [HSI.out] at hr'
                          rw [hr', hs'] at a1 a2
                          rw [hs'] at d1 d2
                          simp only at a1 a2 d1 d2
                          subst a1
                          have HS' := Lib.hid hs'
                          have E := Lib.hid a2
                          have D1 := Lib.hid (show c2 - 1000000 ≤ c'' ∧ c'' ≤ c2 from ⟨d2, d1⟩)
                          clear hs' a2 hr' d1 d2
                          go_wp2_with fail
                          refine (take_calls HTA.out.one q.id y HOk.out.id0 HOk.out.id1 (by have := HNN.out; omega)).mono ?_
                          rw [HR.out]
                          rintro e w4 ⟨rfl, hb4, ho4⟩
                          have T4 := Lib.hid (HTA.out.first (n := 4 + 2 * j + 1) hb4 ho4 (by omega) (by omega))
                          have V4 := Lib.hid (only_keeps ho4 HVX.out (by have := HVA.out; omega) (by have := HVA.out; omega))
                          clear hb4 ho4
                          have z0 : w4.cell? ⟨wr.heap.size, 0, none⟩ = some (.int .i64 q.k) := by simp [World.cell?, V4.out]
                          have z1 : w4.cell? ⟨wr.heap.size, 1, none⟩ = some (.int .u32 q.id) := by simp [World.cell?, V4.out]
                          have z2 : w4.cell? ⟨wr.heap.size, 2, none⟩ = some (.int .u32 q.n) := by simp [World.cell?, V4.out]
                          have z3 : w4.cell? ⟨wr.heap.size, 3, none⟩ = some (.int .i64 y) := by simp [World.cell?, V4.out]
                          go_wp2_with fail
                          refine (take_calls T4.out.two id y i0 i1 (by have := HNN.out; omega)).mono ?_
                          rw [HS'.out]
                          rintro e w5 ⟨rfl, hb5, ho5⟩
                          have T5 := Lib.hid (T4.out.second (n := 4 + 2 * j + 2) hb5 ho5 (by omega) (by omega))
                          have V5 := Lib.hid (only_keeps ho5 V4.out (by have := HVA.out; omega) (by have := HVA.out; omega))
                          clear hb5 ho5
                          obtain ⟨r1, hr1⟩ : ∃ r, (m' id).getD 0 = r := ⟨_, rfl⟩
                          obtain ⟨r2, hr2⟩ : ∃ r, (m' id).isSome = r := ⟨_, rfl⟩
                          have R1 := Lib.hid hr1
                          have R2 := Lib.hid hr2
                          clear hr1 hr2
                          go_wp2_with fail
                          refine (of_calls T5.out.one id i0 i1).mono ?_
                          rw [R1.out, R2.out]
                          rintro e w8 ⟨rfl, rfl⟩
                          go_wp2_with fail
                          refine (of_calls T5.out.two id i0 i1).mono ?_
                          rw [← E.out, R1.out, R2.out]
                          rintro e w9 ⟨rfl, rfl⟩
                          go_wp2_with fail
                          go_roundg gk'
                          case measure => have := HGK.out; omega
                          case rel => exact ⟨j + 1, _, _, _, _, by first | rfl | (simp; done), ⟨by have := HKJ.out; have := HGK.out; omega⟩, ⟨T5.out.more (by omega)⟩, ⟨E.out⟩, ⟨by have := HC.out; have := L1.out; have := D1.out; push_cast; omega⟩⟩
                        · have hsb : (q.id == id) = false := by simp [hs]
                          have HSI := Lib.hid hs
                          clear hs
                          go_wp2_with fail
                          refine (take_calls HTA.out.one q.id y HOk.out.id0 HOk.out.id1 (by have := HNN.out; omega)).mono ?_
                          rw [HR.out]
                          rintro e w4 ⟨rfl, hb4, ho4⟩
                          have T4 := Lib.hid (HTA.out.first (n := 4 + 2 * j + 1) hb4 ho4 (by omega) (by omega))
                          have V4 := Lib.hid (only_keeps ho4 HVX.out (by have := HVA.out; omega) (by have := HVA.out; omega))
                          clear hb4 ho4
                          have z0 : w4.cell? ⟨wr.heap.size, 0, none⟩ = some (.int .i64 q.k) := by simp [World.cell?, V4.out]
                          have z1 : w4.cell? ⟨wr.heap.size, 1, none⟩ = some (.int .u32 q.id) := by simp [World.cell?, V4.out]
                          have z2 : w4.cell? ⟨wr.heap.size, 2, none⟩ = some (.int .u32 q.n) := by simp [World.cell?, V4.out]
                          have z3 : w4.cell? ⟨wr.heap.size, 3, none⟩ = some (.int .i64 y) := by simp [World.cell?, V4.out]
                          have E := Lib.hid ((L3.out id (Ne.symm HSI.out)).trans HM.out)
                          obtain ⟨r1, hr1⟩ : ∃ r, (m' id).getD 0 = r := ⟨_, rfl⟩
                          obtain ⟨r2, hr2⟩ : ∃ r, (m' id).isSome = r := ⟨_, rfl⟩
                          have R1 := Lib.hid hr1
                          have R2 := Lib.hid hr2
                          clear hr1 hr2
                          go_wp2_with fail
                          refine (of_calls T4.out.one id i0 i1).mono ?_
                          rw [R1.out, R2.out]
                          rintro e w8 ⟨rfl, rfl⟩
                          go_wp2_with fail
                          refine (of_calls T4.out.two id i0 i1).mono ?_
                          rw [← E.out, R1.out, R2.out]
                          rintro e w9 ⟨rfl, rfl⟩
                          go_wp2_with fail
                          go_roundg gk'
                          case measure => have := HGK.out; omega
                          case rel => exact ⟨j + 1, _, _, _, _, by first | rfl | (simp; done), ⟨by have := HKJ.out; have := HGK.out; omega⟩, ⟨T4.out.more (by omega)⟩, ⟨E.out⟩, ⟨by have := HC.out; have := L1.out; push_cast; omega⟩⟩

                    · have kb4 : (q.k == 4) = false := by simp [hk4]
                      have HK4 := Lib.hid hk4
                      clear hk4
                      as_aux_lemma =>
                        by_cases hs : q.id = id
                        · have hsb : (q.id == id) = true := by simp [hs]
                          have HSI := Lib.hid hs
                          clear hs
                          have E := Lib.hid HM.out
                          obtain ⟨r1, hr1⟩ : ∃ r, (m1 id).getD 0 = r := ⟨_, rfl⟩
                          obtain ⟨r2, hr2⟩ : ∃ r, (m1 id).isSome = r := ⟨_, rfl⟩
                          have R1 := Lib.hid hr1
                          have R2 := Lib.hid hr2
                          clear hr1 hr2
                          go_wp2_with fail
                          refine (of_calls HTA.out.one id i0 i1).mono ?_
                          rw [R1.out, R2.out]
                          rintro e w8 ⟨rfl, rfl⟩
                          go_wp2_with fail
                          refine (of_calls HTA.out.two id i0 i1).mono ?_
                          rw [← E.out, R1.out, R2.out]
                          rintro e w9 ⟨rfl, rfl⟩
                          go_wp2_with fail
                          go_roundg gk'
                          case measure => have := HGK.out; omega
                          case rel => exact ⟨j + 1, _, _, _, _, by first | rfl | (simp; done), ⟨by have := HKJ.out; have := HGK.out; omega⟩, ⟨HTA.out.more (by omega)⟩, ⟨E.out⟩, ⟨by have := HC.out; push_cast; omega⟩⟩
                        · have hsb : (q.id == id) = false := by simp [hs]
                          have HSI := Lib.hid hs
                          clear hs
                          have E := Lib.hid HM.out
                          obtain ⟨r1, hr1⟩ : ∃ r, (m1 id).getD 0 = r := ⟨_, rfl⟩
                          obtain ⟨r2, hr2⟩ : ∃ r, (m1 id).isSome = r := ⟨_, rfl⟩
                          have R1 := Lib.hid hr1
                          have R2 := Lib.hid hr2
                          clear hr1 hr2
                          go_wp2_with fail
                          refine (of_calls HTA.out.one id i0 i1).mono ?_
                          rw [R1.out, R2.out]
                          rintro e w8 ⟨rfl, rfl⟩
                          go_wp2_with fail
                          refine (of_calls HTA.out.two id i0 i1).mono ?_
                          rw [← E.out, R1.out, R2.out]
                          rintro e w9 ⟨rfl, rfl⟩
                          go_wp2_with fail
                          go_roundg gk'
                          case measure => have := HGK.out; omega
                          case rel => exact ⟨j + 1, _, _, _, _, by first | rfl | (simp; done), ⟨by have := HKJ.out; have := HGK.out; omega⟩, ⟨HTA.out.more (by omega)⟩, ⟨E.out⟩, ⟨by have := HC.out; push_cast; omega⟩⟩

        · go_wp2_with fail
          go_ret
          exact ⟨by first | rfl | (simp; done), HT.out.below⟩

theorem apart_walk (w : World) (id : Int) (hi : (Lit.int .u32 id).wf = true) (A : Option Addr) (cap : Nat) (l : List Act4) (hA : Acts w A l) (hc : l.length ≤ cap) :
    Calls Try.prog 3 #[.int .u32 id, .slice A l.length cap] w fun e w' => e = .returned (.bool true) ∧ Below w.heap.size w w' :=
  apart_law w id (u32_of_wf hi).1 (u32_of_wf hi).2 A cap l hA hc
end Go.Proofs.Ytkaijdhnnfldkac.WinApart
