/- The first window that is told last counts, whatever was told between; a stream that is opened then has it. No condition. The walk. -/
import Derived.Test.YtkaijdhnnfldkabWin
set_option linter.unusedVariables false
set_option linter.unusedSimpArgs false
namespace Go.Proofs.Ytkaijdhnnfldkab.WinFirst
open Go.RowKit Go.Maps Go.Proofs.YtkaijdhnnfldkabW.PrintMore Go.Proofs.YtkaijdhnnfldkabW.PrintWords Go.Proofs.Ytkaijdhnnfldkab.Book Go.Proofs.Ytkaijdhnnfldkab.Win

/-- Two books that hold the same, apart. -/
structure Two (w0 w : World) (g1 b1 g2 b2 : Nat) (c f : Int) (m : Int → Option Int) (N : Nat) : Prop where
  one : BookAt w g1 b1 c f m N
  two : BookAt w g2 b2 c f m N
  low : w0.heap.size ≤ g1 ∧ w0.heap.size ≤ b1 ∧ w0.heap.size ≤ g2 ∧ w0.heap.size ≤ b2
  ne : g1 ≠ g2 ∧ g1 ≠ b2 ∧ b1 ≠ g2 ∧ b1 ≠ b2
  below : Below w0.heap.size w0 w

section
variable {w0 w w4 w5 : World} {g1 b1 g2 b2 N N' : Nat} {c f c' f' : Int} {m m' : Int → Option Int}
theorem Two.alloc (h : Two w0 w g1 b1 g2 b2 c f m N) (o : Obj) : Two w0 (w.alloc o) g1 b1 g2 b2 c f m N :=
  ⟨h.one.kept (Below.heap_alloc w o _ h.one.lt.1) (Below.heap_alloc w o _ h.one.lt.2), h.two.kept (Below.heap_alloc w o _ h.two.lt.1) (Below.heap_alloc w o _ h.two.lt.2), h.low, h.ne, h.below.alloc h.below.size o⟩
theorem Two.other (h : Two w0 w g1 b1 g2 b2 c f m N) (o : Only w w4 g1 b1) : BookAt w4 g2 b2 c f m N := h.two.only o (Ne.symm h.ne.1) (Ne.symm h.ne.2.2.1) (Ne.symm h.ne.2.1) (Ne.symm h.ne.2.2.2)
theorem Two.both (h : Two w0 w g1 b1 g2 b2 c f m N) (h1 : BookAt w4 g1 b1 c' f' m' N') (o1 : Only w w4 g1 b1) (h2 : BookAt w5 g2 b2 c' f' m' N') (o2 : Only w4 w5 g2 b2) : Two w0 w5 g1 b1 g2 b2 c' f' m' N' :=
  ⟨h1.only o2 h.ne.1 h.ne.2.1 h.ne.2.2.1 h.ne.2.2.2, h2, h.low, h.ne, below_only (below_only h.below o1 h.low.1 h.low.2.1 h.below.size) o2 h.low.2.2.1 h.low.2.2.2 (Nat.le_trans h.below.size o1.size)⟩
theorem Two.more (h : Two w0 w g1 b1 g2 b2 c f m N) {n : Nat} (hn : N ≤ n) : Two w0 w g1 b1 g2 b2 c f m n := ⟨h.one.more hn, h.two.more hn, h.low, h.ne, h.below⟩
/-- The act's own variable, behind the first call. -/
theorem Two.var (h : Two w0 w g1 b1 g2 b2 c f m N) {X : Obj} (o1 : Only (w.alloc X) w4 g1 b1) : w4.heap[w.heap.size]? = some X := by
  rw [o1.block w.heap.size (by simp) (by have := h.one.lt.1; omega) (by have := h.one.lt.2; omega), show (w.alloc X).heap = w.heap.push X from rfl]
  exact Array.getElem?_push_size
end

theorem wrap_twice (v n m f : Int) : wrap64 (wrap64 (v + wrap64 (n - f)) + wrap64 (m - n)) = wrap64 (v + wrap64 (m - f)) := by
  unfold wrap64
  omega
theorem maps_twice (M : Int → Option Int) (n m f : Int) : (fun id => ((M id).map fun v => wrap64 (v + wrap64 (n - f))).map fun v => wrap64 (v + wrap64 (m - n))) = fun id => (M id).map fun v => wrap64 (v + wrap64 (m - f)) := by
  funext id
  cases M id with
  | none => rfl
  | some v => simp [wrap_twice]

set_option maxHeartbeats 6400000 in
set_option maxRecDepth 100000 in
theorem first_law (w : World) (A : Option Addr) (cap : Nat) (l : List Act4) (hA : Acts w A l) (hc : l.length ≤ cap) (n m id : Int) (n0 : 0 ≤ n) (n1 : n < 4294967296) (m0 : 0 ≤ m) (m1 : m < 4294967296) (i0 : 0 ≤ id) (i1 : id < 4294967296) :
    Calls Try.prog 6 #[.slice A l.length cap, .int .u32 n, .int .u32 m, .int .u32 id] w fun e w' => e = .returned (.bool true) ∧ Below w.heap.size w w' := by
  have HA := Lib.hid hA
  clear hA
  by_cases hlong : 100 < l.length
  · go_enter Try.func6, Try.ntmps6
    go_wp2_with fail
    refine (awake_calls _).mono ?_
    rintro e w1 ⟨rfl, hB1⟩
    go_wp2_with fail
    go_ret
    exact ⟨by first | rfl | (simp; done), hB1⟩
  · have hshort : l.length ≤ 100 := by omega
    have hld : decide (100 < l.length) = false := decide_eq_false hlong
    clear hlong
    by_cases hid : id = 0
    · subst hid
      go_enter Try.func6, Try.ntmps6
      go_wp2_with fail
      refine (awake_calls _).mono ?_
      rintro e w1 ⟨rfl, hB1⟩
      go_wp2_with fail
      go_ret
      exact ⟨by first | rfl | (simp; done), hB1⟩
    · have hidb : (id == 0) = false := by simp [hid]
      have HI := Lib.hid hid
      clear hid
      go_enter Try.func6, Try.ntmps6
      go_wp2_with fail
      refine (awake_calls _).mono ?_
      rintro e w1 ⟨rfl, hB1⟩
      have HB1 := Lib.hid hB1
      clear hB1
      go_wp2_with fail
      refine (new_calls _).mono ?_
      rintro e w2 ⟨g1, b1, rfl, hb2, hg1, hbb1, hB2⟩
      have K2 := Lib.hid hb2
      have HB2 := Lib.hid hB2
      have HG1 := Lib.hid (show w1.heap.size ≤ g1 ∧ w1.heap.size ≤ b1 from ⟨hg1, hbb1⟩)
      clear hb2 hB2 hg1 hbb1
      go_wp2_with fail
      refine (new_calls _).mono ?_
      rintro e w3 ⟨g2, b2, rfl, hb3, hg2, hbb2, hB3⟩
      have lt2 := K2.out.lt
      have HT := Lib.hid (show Two w w3 g1 b1 g2 b2 65535 65535 (fun _ => none) 0 from
        ⟨K2.out.kept (hB3.block _ lt2.1) (hB3.block _ lt2.2), hb3, ⟨by have := HG1.out; have := HB1.out.size; omega, by have := HG1.out; have := HB1.out.size; omega, by have := HB2.out.size; have := HB1.out.size; omega, by have := HB2.out.size; have := HB1.out.size; omega⟩,
          ⟨by omega, by omega, by omega, by omega⟩, HB1.out.trans ((HB2.out.mono HB1.out.size).trans (hB3.mono (by have := HB2.out.size; have := HB1.out.size; omega)))⟩)
      clear hb3 hg2 hbb2 hB3 lt2 K2 HB1 HB2 HG1
      go_wp2_with fail
      go_loopg [11] (l.length) (fun kq v11 w' => ∃ (j : Nat) (c : Int) (M : Int → Option Int), v11 = .int .i64 j ∧ Aside0 (kq + j = l.length) ∧ Aside0 (Two w w' g1 b1 g2 b2 c 65535 M (2 * j)))
      case atStart => exact ⟨0, _, _, rfl, ⟨by omega⟩, ⟨HT.out⟩⟩
      case round =>
        clear HT
        obtain ⟨j, c, M, rfl, HK, HT⟩ := hrel
        by_cases hj : j < l.length
        · obtain ⟨ad, rfl, hlt, x0, x1, x2, x3⟩ := HA.out.cell j l[j] (List.getElem?_eq_getElem hj)
          obtain ⟨q, hq⟩ : ∃ q, l[j] = q := ⟨_, rfl⟩
          rw [hq] at x0 x1 x2 x3
          have HOk := Lib.hid (HA.out.ok q (by rw [← hq]; exact List.getElem_mem hj))
          have hbl := HT.out.below
          have y0 := (hbl.cell (p := ad.add (j * 4)) (by rw [add_block]; exact hlt)).trans x0
          have y1 := (hbl.cell (p := ⟨(ad.add (j * 4)).block, (ad.add (j * 4)).off + 1, none⟩) (by rw [add_block]; exact hlt)).trans x1
          have y2 := (hbl.cell (p := ⟨(ad.add (j * 4)).block, (ad.add (j * 4)).off + 2, none⟩) (by rw [add_block]; exact hlt)).trans x2
          have y3 := (hbl.cell (p := ⟨(ad.add (j * 4)).block, (ad.add (j * 4)).off + 3, none⟩) (by rw [add_block]; exact hlt)).trans x3
          clear hbl x0 x1 x2 x3 hq
          have HHT := Lib.hid (HT.out.alloc (.cells #[.int .i64 q.k, .int .u32 q.id, .int .u32 q.n, .int .i64 q.want] 33))
          have HJ := Lib.hid hj
          have HKJ := Lib.hid HK.out
          by_cases hk0 : q.k = 0
          · have kb0 : (q.k == 0) = true := by simp [hk0]
            have kb2 : (q.k == 2) = false := by simp [hk0]
            have kb4 : (q.k == 4) = false := by simp [hk0]
            have HQ := Lib.hid hk0
            clear hk0
            go_wp2_with fail
            refine (open_calls HHT.out.one q.id HOk.out.id0 HOk.out.id1 (by have := HKJ.out; have := hshort; omega)).mono ?_
            rintro e w4 ⟨rfl, hb4, ho4⟩
            have hv := HT.out.var ho4
            have z0 : w4.cell? ⟨wr.heap.size, 0, none⟩ = some (.int .i64 q.k) := by simp [World.cell?, hv]
            have z1 : w4.cell? ⟨wr.heap.size, 1, none⟩ = some (.int .u32 q.id) := by simp [World.cell?, hv]
            have z2 : w4.cell? ⟨wr.heap.size, 2, none⟩ = some (.int .u32 q.n) := by simp [World.cell?, hv]
            have z3 : w4.cell? ⟨wr.heap.size, 3, none⟩ = some (.int .i64 q.want) := by simp [World.cell?, hv]
            have HX := Lib.hid (HHT.out.other ho4)
            have HY := Lib.hid hb4
            have HZ := Lib.hid ho4
            clear hb4 ho4 hv
            go_wp2_with fail
            refine (open_calls HX.out q.id HOk.out.id0 HOk.out.id1 (by have := HKJ.out; have := hshort; omega)).mono ?_
            rintro e w5 ⟨rfl, hb5, ho5⟩
            have HN := Lib.hid (HHT.out.both HY.out HZ.out hb5 ho5)
            clear hb5 ho5
            go_wp2
            obtain ⟨k', rfl⟩ : ∃ q, gk = q + 1 := ⟨gk - 1, by have := HKJ.out; have := HJ.out; omega⟩
            go_roundg k'
            case measure => omega
            case rel => exact ⟨j + 1, _, _, by first | rfl | (simp; done), ⟨by have := HKJ.out; omega⟩, ⟨HN.out.more (by omega)⟩⟩
          · have kb0 : (q.k == 0) = false := by simp [hk0]
            clear hk0
            by_cases hk2 : q.k = 2
            · have kb2 : (q.k == 2) = true := by simp [hk2]
              have kb0 : (q.k == 0) = false := by simp [hk2]
              have kb4 : (q.k == 4) = false := by simp [hk2]
              have HQ := Lib.hid hk2
              clear hk2
              go_wp2_with fail
              refine (grow_calls HHT.out.one q.id q.n HOk.out.id0 HOk.out.id1 HOk.out.n0 HOk.out.n1 (by have := HKJ.out; have := hshort; omega)).mono ?_
              rintro e w4 ⟨rfl, hb4, ho4⟩
              have hv := HT.out.var ho4
              have z0 : w4.cell? ⟨wr.heap.size, 0, none⟩ = some (.int .i64 q.k) := by simp [World.cell?, hv]
              have z1 : w4.cell? ⟨wr.heap.size, 1, none⟩ = some (.int .u32 q.id) := by simp [World.cell?, hv]
              have z2 : w4.cell? ⟨wr.heap.size, 2, none⟩ = some (.int .u32 q.n) := by simp [World.cell?, hv]
              have z3 : w4.cell? ⟨wr.heap.size, 3, none⟩ = some (.int .i64 q.want) := by simp [World.cell?, hv]
              have HX := Lib.hid (HHT.out.other ho4)
              have HY := Lib.hid hb4
              have HZ := Lib.hid ho4
              clear hb4 ho4 hv
              go_wp2_with fail
              refine (grow_calls HX.out q.id q.n HOk.out.id0 HOk.out.id1 HOk.out.n0 HOk.out.n1 (by have := HKJ.out; have := hshort; omega)).mono ?_
              rintro e w5 ⟨rfl, hb5, ho5⟩
              have HN := Lib.hid (HHT.out.both HY.out HZ.out hb5 ho5)
              clear hb5 ho5
              go_wp2
              obtain ⟨k', rfl⟩ : ∃ q, gk = q + 1 := ⟨gk - 1, by have := HKJ.out; have := HJ.out; omega⟩
              go_roundg k'
              case measure => omega
              case rel => exact ⟨j + 1, _, _, by first | rfl | (simp; done), ⟨by have := HKJ.out; omega⟩, ⟨HN.out.more (by omega)⟩⟩
            · have kb2 : (q.k == 2) = false := by simp [hk2]
              clear hk2
              by_cases hk4 : q.k = 4
              · have kb4 : (q.k == 4) = true := by simp [hk4]
                have kb0 : (q.k == 0) = false := by simp [hk4]
                have kb2 : (q.k == 2) = false := by simp [hk4]
                have HQ := Lib.hid hk4
                clear hk4
                go_wp2_with fail
                refine (take_calls HHT.out.one q.id q.want HOk.out.id0 HOk.out.id1 (by have := HKJ.out; have := hshort; omega)).mono ?_
                rintro e w4 ⟨rfl, hb4, ho4⟩
                have hv := HT.out.var ho4
                have z0 : w4.cell? ⟨wr.heap.size, 0, none⟩ = some (.int .i64 q.k) := by simp [World.cell?, hv]
                have z1 : w4.cell? ⟨wr.heap.size, 1, none⟩ = some (.int .u32 q.id) := by simp [World.cell?, hv]
                have z2 : w4.cell? ⟨wr.heap.size, 2, none⟩ = some (.int .u32 q.n) := by simp [World.cell?, hv]
                have z3 : w4.cell? ⟨wr.heap.size, 3, none⟩ = some (.int .i64 q.want) := by simp [World.cell?, hv]
                have HX := Lib.hid (HHT.out.other ho4)
                have HY := Lib.hid hb4
                have HZ := Lib.hid ho4
                clear hb4 ho4 hv
                go_wp2_with fail
                refine (take_calls HX.out q.id q.want HOk.out.id0 HOk.out.id1 (by have := HKJ.out; have := hshort; omega)).mono ?_
                rintro e w5 ⟨rfl, hb5, ho5⟩
                have HN := Lib.hid (HHT.out.both HY.out HZ.out hb5 ho5)
                clear hb5 ho5
                go_wp2
                obtain ⟨k', rfl⟩ : ∃ q, gk = q + 1 := ⟨gk - 1, by have := HKJ.out; have := HJ.out; omega⟩
                go_roundg k'
                case measure => omega
                case rel => exact ⟨j + 1, _, _, by first | rfl | (simp; done), ⟨by have := HKJ.out; omega⟩, ⟨HN.out.more (by omega)⟩⟩
              · have kb4 : (q.k == 4) = false := by simp [hk4]
                clear hk4
                go_wp2
                obtain ⟨k', rfl⟩ : ∃ q, gk = q + 1 := ⟨gk - 1, by have := HKJ.out; have := HJ.out; omega⟩
                go_roundg k'
                case measure => omega
                case rel => exact ⟨j + 1, _, _, by first | rfl | (simp; done), ⟨by have := HKJ.out; omega⟩, ⟨HHT.out.more (by omega)⟩⟩
        · have HJJ := Lib.hid (show j ≤ l.length by have := HK.out; omega)
          clear HK
          have HT0 := Lib.hid HT.out
          clear HT
          have hN : 2 * j < 1000000 := by have := hshort; have := HJJ.out; omega
          have HNN := Lib.hid hN
          clear hN
          go_wp2_with fail
          refine (initial_calls HT0.out.one n n0 n1 HNN.out).mono ?_
          intro e w4 h4
          rcases h4 with ⟨rfl, hb4, ho4, _⟩ | ⟨b1', rfl, hb4, ho4, hb1', _, _⟩
          · have HB4 := Lib.hid (below_only HT0.out.below ho4 HT0.out.low.1 HT0.out.low.2.1 HT0.out.below.size)
            clear hb4 ho4
            go_wp2_with fail
            go_ret
            exact ⟨by first | rfl | (simp; done), HB4.out⟩
          · have K1 := Lib.hid hb4
            have O1 := Lib.hid ho4
            have L1 := Lib.hid hb1'
            have B4 := Lib.hid (below_only HT0.out.below ho4 HT0.out.low.1 HT0.out.low.2.1 HT0.out.below.size)
            have C4 := Lib.hid (HT0.out.other ho4)
            clear hb4 ho4 hb1'
            go_wp2_with fail
            refine (initial_calls K1.out m m0 m1 HNN.out).mono ?_
            intro e w5 h5
            rcases h5 with ⟨rfl, hb5, ho5, _⟩ | ⟨b1'', rfl, hb5, ho5, hb1'', hm5, hall⟩
            · have HB5 := Lib.hid (below_only B4.out ho5 HT0.out.low.1 (by have := L1.out; have := HT0.out.below.size; omega) B4.out.size)
              clear hb5 ho5
              go_wp2_with fail
              go_ret
              exact ⟨by first | rfl | (simp; done), HB5.out⟩
            · rw [maps_twice] at hb5
              have B5 := Lib.hid (below_only B4.out ho5 HT0.out.low.1 (by have := L1.out; have := HT0.out.below.size; omega) B4.out.size)
              have C5 := Lib.hid (C4.out.only ho5 (Ne.symm HT0.out.ne.1) (by have := L1.out; have := HT0.out.two.lt; omega) (Ne.symm HT0.out.ne.2.1) (by have := L1.out; have := HT0.out.two.lt; omega))
              have K5 := Lib.hid hb5
              have L5 := Lib.hid hb1''
              have HALL := Lib.hid hall
              have S45 := Lib.hid (show wr.heap.size ≤ w4.heap.size ∧ w4.heap.size ≤ w5.heap.size from ⟨O1.out.size, ho5.size⟩)
              clear hb5 ho5 hb1'' hall
              go_wp2_with fail
              refine (initial_calls C5.out m m0 m1 HNN.out).mono ?_
              intro e w6 h6
              rcases h6 with ⟨rfl, _, _, h | ⟨x, v, x0, x1, hv, hbig⟩⟩ | ⟨b2', rfl, hb6, ho6, hb2', _, _⟩
              · exact absurd h (by omega)
              · exfalso
                have := HALL.out x (wrap64 (v + wrap64 (n - 65535))) x0 x1 (by rw [hv]; rfl)
                rw [wrap_twice] at this
                omega
              · have HT6 := Lib.hid (show Two w w6 g1 b1'' g2 b2' c m (fun id => (M id).map fun v => wrap64 (v + wrap64 (m - 65535))) (2 * j) from
                  ⟨K5.out.only ho6 HT0.out.ne.1 HT0.out.ne.2.1 (by have := L5.out; have := HT0.out.two.lt; have := S45.out; omega) (by have := L5.out; have := HT0.out.two.lt; have := S45.out; omega), hb6,
                    ⟨HT0.out.low.1, by have := L5.out; have := B4.out.size; omega, HT0.out.low.2.2.1, by have := B5.out.size; omega⟩,
                    ⟨HT0.out.ne.1, by have := HT0.out.one.lt; have := S45.out; omega, by have := L5.out; have := HT0.out.two.lt; have := S45.out; omega, by have := K5.out.lt; omega⟩,
                    below_only B5.out ho6 HT0.out.low.2.2.1 HT0.out.low.2.2.2 B5.out.size⟩)
                generalize (fun id => (M id).map fun v => wrap64 (v + wrap64 (m - 65535))) = F at HT6
                clear hb6 ho6 hb2' K1 O1 L1 B4 C4 B5 C5 K5 L5 HALL S45 HT0
                go_wp2_with fail
                refine (conn_calls HT6.out.one).mono ?_
                rintro e w7 ⟨rfl, rfl⟩
                go_wp2_with fail
                refine (conn_calls HT6.out.two).mono ?_
                rintro e w8 ⟨rfl, rfl⟩
                go_wp2_with fail
                go_loopg [13] (l.length) (fun kq v13 w' => ∃ (i : Nat), v13 = .int .i64 i ∧ Aside0 (kq + i = l.length) ∧ Aside0 (w' = w6))
                case atStart => exact ⟨0, rfl, ⟨by omega⟩, ⟨rfl⟩⟩
                case round =>
                  obtain ⟨i, rfl, HK, HW6⟩ := hrel
                  obtain rfl := HW6.out
                  clear HW6
                  by_cases hi : i < l.length
                  · obtain ⟨ad, rfl, hlt, x0, x1, x2, x3⟩ := HA.out.cell i l[i] (List.getElem?_eq_getElem hi)
                    obtain ⟨q, hq⟩ : ∃ q, l[i] = q := ⟨_, rfl⟩
                    rw [hq] at x0 x1 x2 x3
                    have HOk := Lib.hid (HA.out.ok q (by rw [← hq]; exact List.getElem_mem hi))
                    have hbl := HT6.out.below
                    have y1 := (hbl.cell (p := ⟨(ad.add (i * 4)).block, (ad.add (i * 4)).off + 1, none⟩) (by rw [add_block]; exact hlt)).trans x1
                    have HJ := Lib.hid hi
                    have HKJ := Lib.hid HK.out
                    clear hbl x0 x1 x2 x3 hq HK
                    go_wp2_with fail
                    refine (of_calls HT6.out.one q.id HOk.out.id0 HOk.out.id1).mono ?_
                    obtain ⟨r1, hr1⟩ : ∃ r, (F q.id).getD 0 = r := ⟨_, rfl⟩
                    obtain ⟨r2, hr2⟩ : ∃ r, (F q.id).isSome = r := ⟨_, rfl⟩
                    rw [hr1, hr2]
                    have H1 := Lib.hid hr1
                    have H2 := Lib.hid hr2
                    clear hr1 hr2
                    rintro e w9 ⟨rfl, rfl⟩
                    go_wp2_with fail
                    refine (of_calls HT6.out.two q.id HOk.out.id0 HOk.out.id1).mono ?_
                    rw [H1.out, H2.out]
                    rintro e w10 ⟨rfl, rfl⟩
                    go_wp2_with fail
                    obtain ⟨k', rfl⟩ : ∃ q, gk = q + 1 := ⟨gk - 1, by have := HKJ.out; have := HJ.out; omega⟩
                    go_roundg k'
                    case measure => omega
                    case rel => exact ⟨i + 1, by first | rfl | (simp; done), ⟨by have := HKJ.out; omega⟩, ⟨rfl⟩⟩
                  · clear HK
                    go_wp2_with fail
                    refine (open_calls HT6.out.one id i0 i1 HNN.out).mono ?_
                    rintro e w9 ⟨rfl, hb9, ho9⟩
                    have B9 := Lib.hid (below_only HT6.out.below ho9 HT6.out.low.1 HT6.out.low.2.1 HT6.out.below.size)
                    have K9 := Lib.hid hb9
                    clear hb9 ho9
                    go_wp2_with fail
                    refine (of_calls K9.out id i0 i1).mono ?_
                    rw [show (upd F id m id).getD 0 = m by simp [upd], show (upd F id m id).isSome = true by simp [upd]]
                    rintro e w10 ⟨rfl, rfl⟩
                    go_wp2_with fail
                    go_ret
                    exact ⟨by first | rfl | (simp; done), B9.out⟩
theorem first_walk (w : World) (A : Option Addr) (cap : Nat) (l : List Act4) (hA : Acts w A l) (hc : l.length ≤ cap) (n : Int) (hn : (Lit.int .u32 n).wf = true) (m : Int) (hm : (Lit.int .u32 m).wf = true) (id : Int) (hi : (Lit.int .u32 id).wf = true) :
    Calls Try.prog 6 #[.slice A l.length cap, .int .u32 n, .int .u32 m, .int .u32 id] w fun e w' => e = .returned (.bool true) ∧ Below w.heap.size w w' :=
  first_law w A cap l hA hc n m id (u32_of_wf hn).1 (u32_of_wf hn).2 (u32_of_wf hm).1 (u32_of_wf hm).2 (u32_of_wf hi).1 (u32_of_wf hi).2
end Go.Proofs.Ytkaijdhnnfldkab.WinFirst
