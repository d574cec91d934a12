/- The law HeadWrong. -/
import Derived.Test.YtdpoookgmckclaaDoorMHApp
import Derived.Test.YtdpoookgmckclaaDoorMHWrong
set_option linter.unusedVariables false
set_option linter.unusedSimpArgs false
namespace Go.Proofs.YtdpoookgmckclaaDoor.M
open Go.RowKit Go.Maps Go.Proofs.YtdpoookgmckclaaDoorW.PrintWords Go.Proofs.YtdpoookgmckclaaDoorW.PrintLast Go.Proofs.YtdpoookgmckclaaDoorW.PrintMore
attribute [local go_sem] max2_int min2_int max_two min_two max_three min_three max_four min_four
attribute [local go_sem ↓] Go.wp_at_zero Go.wp_at_succ
theorem flCells_get (xs : List Fl) : ∀ (j i : Nat) (x : Fl), xs[j]? = some x → i < 3 → (flCells xs)[j * 3 + i]? = ([.string x.n, .string x.v, .bool x.nv] : List Value)[i]? := by
  induction xs with
  | nil => intro j i x h; exact absurd h (by simp)
  | cons y xs ih =>
    intro j i x h hi
    have e : flCells (y :: xs) = [.string y.n, .string y.v, .bool y.nv] ++ flCells xs := rfl
    rw [e]
    cases j with
    | zero =>
      rw [List.getElem?_cons_zero] at h
      obtain rfl := Option.some.inj h
      rw [Nat.zero_mul, Nat.zero_add, List.getElem?_append_left (by simpa using hi)]
    | succ j =>
      rw [List.getElem?_cons_succ] at h
      rw [List.getElem?_append_right (by simp; omega)]
      have := ih j i x h hi
      rw [← this]
      congr 1
      simp
      omega
theorem fl_sat {w : World} {g : Nat} {xs : List Fl} (h : SAt w g (flCells xs).toArray 41) (hl : xs.length ≤ 1000000) : kF.C w (some ⟨g, 0, none⟩) xs.length xs := by
  refine ⟨rfl, by omega, fun hn => ⟨_, rfl, fun j p hp => ⟨_, rfl, kF_mk w p, fun i u hu => ?_⟩⟩⟩
  have hi : i < 3 := (List.getElem?_eq_some_iff.1 hu).1
  have h1 := flCells_get xs j i p hp hi
  have h2 := h.cell (j * 3 + i)
  have ha : (⟨g, 0, none⟩ : Addr).add (j * 3 + i) = ⟨g, j * 3 + i, none⟩ := by unfold Addr.add; split <;> simp_all
  show w.cell? ((⟨g, 0, none⟩ : Addr).add (j * 3 + i)) = some u
  rw [ha, h2, List.getElem?_toArray, h1, hu]
theorem at_fl2 {w : World} {ad : Addr} {n : Nat} {xs : List Fl} (h : kF.C w (some ad) n xs) {k : Nat} (h1 : k < n) {x : Fl} (hx : xs.getD k zFl = x) : w.cell? (ad.add (k * 3)) = some (.string x.n) ∧ w.cell? ⟨(ad.add (k * 3)).block, (ad.add (k * 3)).off + 1, none⟩ = some (.string x.v) ∧ w.cell? ⟨(ad.add (k * 3)).block, (ad.add (k * 3)).off + 2, none⟩ = some (.bool x.nv) := by
  obtain ⟨ad', x', e, hx', h2⟩ := at_fl h k h1
  obtain rfl := Option.some.inj e
  obtain rfl := hx.symm.trans hx'
  exact h2
theorem add0 (g n : Nat) : (⟨g, 0, none⟩ : Addr).add n = ⟨g, n, none⟩ := by unfold Addr.add; split <;> simp_all
theorem mem_fl {xs : List Fl} {k : Nat} (hk : k < xs.length) {x : Fl} (hx : xs.getD k zFl = x) : x ∈ xs := by
  rw [List.getD_eq_getElem?_getD, List.getElem?_eq_getElem hk] at hx
  rw [← hx]
  exact List.getElem_mem hk
def wl : List Fl := wrongL.map fun f => ⟨f.1, f.2, false⟩
theorem wl_mem {x : Fl} (hx : x ∈ wl) : x.f ∈ wrongL := by
  obtain ⟨f, hf, rfl⟩ := List.mem_map.1 hx
  exact hf
theorem wl_small {x : Fl} (hx : x ∈ wl) : x.n.size ≤ 1000 ∧ x.v.size ≤ 1000 := by
  have : ∀ y ∈ wl, y.n.size ≤ 1000 ∧ y.v.size ≤ 1000 := by decide
  exact this x hx
theorem few_more {xs : List Fl} (h : FewF xs) (hl : xs.length ≤ 200) {x : Fl} (h1 : x.n.size ≤ 100000) (h2 : x.v.size ≤ 100000) : FewF (xs ++ [x]) := by
  refine ⟨by simp; omega, fun y hy => ?_, fun y hy => ?_⟩
  all_goals
    rcases List.mem_append.1 hy with hy | hy
  · exact h.n y hy
  · obtain rfl := List.mem_singleton.1 hy; exact h1
  · exact h.v y hy
  · obtain rfl := List.mem_singleton.1 hy; exact h2
set_option maxHeartbeats 40000000 in
set_option maxRecDepth 100000 in
theorem wrong_calls (A : Option Addr) (cp : Nat) (xs : List Fl) (at_ : Int) (w : World) (hr : kF.C w A xs.length xs) (hcp : xs.length ≤ cp) (hi : FlIn xs) (ha : -9223372036854775808 ≤ at_ ∧ at_ ≤ 9223372036854775807) :
    Calls Tryd.prog 5 #[.slice A xs.length cp, .int .i64 at_] w fun e w' => e = .returned (.bool true) ∧ Below w.heap.size w w' := by
  have HRd := Aside0.mk hr
  have HCp := Lib.hid hcp
  have HI := Aside0.mk hi
  have HAt := Lib.hid ha
  clear hr hcp hi ha
  go_enter Tryd.func5, Tryd.ntmps5
  go_wp2_with fail
  refine (awake20_calls _).mono ?_
  rintro e w1 ⟨rfl, hb⟩
  have HB1 := Aside0.mk hb
  clear hb
  go_wp2_with fail
  refine (fewFields_calls A cp xs _ (Kd.C_below HRd.out HB1.out) HI.out).mono ?_
  rintro e w2 ⟨b, rfl, hfew, hb⟩
  have HB2 := Aside0.mk (below_step HB1.out hb)
  clear hb HB1
  cases b with
  | false =>
    clear hfew
    go_wp2_with fail
    go_ret
    exact ⟨rfl, HB2.out⟩
  | true =>
  have HFw := Aside0.mk (hfew rfl)
  clear hfew
  by_cases hl : 200 < xs.length
  · have d1 : decide ((200 : Int) < (xs.length : Int)) = true := decide_eq_true (by omega)
    have d2 : decide (200 < xs.length) = true := decide_eq_true hl
    clear hl
    go_wp2_with fail
    go_ret
    exact ⟨rfl, HB2.out⟩
  have d1 : decide ((200 : Int) < (xs.length : Int)) = false := decide_eq_false (by omega)
  have d2 : decide (200 < xs.length) = false := decide_eq_false hl
  have hlen : xs.length ≤ 200 := by omega
  clear hl
  have HFF := Aside0.mk HFw.out.few
  go_wp2_with fail
  refine (request_calls A cp xs _ (Kd.C_below HRd.out HB2.out) HCp.out HFF.out).mono ?_
  cases hR : requestF (xs.map Fl.f) with
  | none =>
    clear hR
    unfold reqE
    rintro e w3 ⟨rfl, hb⟩
    have HB3 := Aside0.mk (below_step HB2.out hb)
    clear hb HB2
    have hal := below_alloc (Below.refl w3.heap.size w3) (.cells #[.string ⟨#[]⟩, .string ⟨#[]⟩, .string ⟨#[]⟩, .string ⟨#[]⟩, .bool false, .int .i64 0] 26 (0, 0))
    have HB4 := Aside0.mk (below_step HB3.out hal)
    clear hal
    go_upto_region 6 with fail
    generalize w3.alloc (.cells #[.string ⟨#[]⟩, .string ⟨#[]⟩, .string ⟨#[]⟩, .string ⟨#[]⟩, .bool false, .int .i64 0] 26 (0, 0)) = w4 at *
    go_wp2_with fail
    go_ret
    exact ⟨rfl, HB4.out⟩
  | some X =>
  have HX := Aside0.mk hR
  clear hR
  obtain ⟨m0, m1, m2, m3⟩ := X
  unfold reqE
  rintro e w3 ⟨rfl, hb⟩
  have HB3 := Aside0.mk (below_step HB2.out hb)
  clear hb HB2
  have hal := below_alloc (Below.refl w3.heap.size w3) (.cells #[.string m0, .string m1, .string ⟨#[]⟩, .string m2, .bool false, .int .i64 m3] 26 (0, 0))
  have HB4 := Aside0.mk (below_step HB3.out hal)
  clear hal HB3
  go_upto_region 6 with fail
  generalize w3.alloc (.cells #[.string m0, .string m1, .string ⟨#[]⟩, .string m2, .bool false, .int .i64 m3] 26 (0, 0)) = w4 at *
  generalize w3.heap.size = q0 at *
  go_upto_region 9 with fail
  have hal := below_alloc (Below.refl w4.heap.size w4) (.cells (flCells wl).toArray 41 (0, 0))
  have HB5 := Aside0.mk (below_step HB4.out hal)
  have HX5 := Aside0.mk (SAt.new w4 (flCells wl).toArray 41)
  change Code.wp _ _ _ _ (w4.alloc (.cells (flCells wl).toArray 41 (0, 0)))
  clear hal HB4
  generalize w4.alloc (.cells (flCells wl).toArray 41 (0, 0)) = w5 at *
  generalize w4.heap.size = gw at *
  go_wp2_with fail
  go_loopg [8] 10 (fun kq v8 w' => ∃ k : Nat, v8 = .int .i64 k ∧ Aside0 (kq + k = 10) ∧ Aside0 (Below w.heap.size w w') ∧ Aside0 (SAt w' gw (flCells wl).toArray 41))
  case atStart => exact ⟨0, rfl, ⟨rfl⟩, HB5, HX5⟩
  case round =>
  clear HB5 HX5
  obtain ⟨k, rfl, HK, HB, HXw⟩ := hrel
  cases gk with
  | zero =>
  obtain rfl : k = 10 := by have := HK.out; omega
  clear HK HXw
  by_cases c0 : at_ < 0
  · have d3 : decide (at_ < 0) = true := decide_eq_true c0
    clear c0
    go_wp2_with fail
    go_ret
    exact ⟨rfl, HB.out⟩
  have d3 : decide (at_ < 0) = false := decide_eq_false c0
  by_cases c1 : (xs.length : Int) ≤ at_
  · have d4 : decide ((xs.length : Int) ≤ at_) = true := decide_eq_true c1
    clear c0 c1
    go_wp2_with fail
    go_ret
    exact ⟨rfl, HB.out⟩
  have d4 : decide ((xs.length : Int) ≤ at_) = false := decide_eq_false c1
  obtain ⟨i, rfl⟩ : ∃ i : Nat, at_ = (i : Int) := ⟨at_.toNat, by omega⟩
  have hk : i < xs.length := by omega
  have q1 : (0 : Int) ≤ (i : Int) := by omega
  have q2 : (i : Int) < (xs.length : Int) := by omega
  obtain ⟨ad, x, rfl, hx, -⟩ := at_fl (Kd.C_below HRd.out HB.out) i hk
  have hmem := mem_fl hk hx
  obtain ⟨hz, hw⟩ := wrong_at HX.out (f := x.f) (List.mem_map.2 ⟨x, hmem, rfl⟩)
  have HZ := Lib.hid (show x.n.size ≠ 0 from hz)
  have HW := Lib.hid hw
  have HWf := Lib.hid (few_more HFF.out hlen (x := x) (HFF.out.n x hmem) (HFF.out.v x hmem))
  have HXk := Aside0.mk (And.intro hk hx)
  clear hz hw hmem c0 c1 hk hx
  have HCk := Aside0.mk (show ∀ w', Below wr.drew.heap.size wr.drew w' → w'.cell? (ad.add (i * 3)) = some (.string x.n) ∧ w'.cell? ⟨(ad.add (i * 3)).block, (ad.add (i * 3)).off + 1, none⟩ = some (.string x.v) ∧ w'.cell? ⟨(ad.add (i * 3)).block, (ad.add (i * 3)).off + 2, none⟩ = some (.bool x.nv) from fun w' hb => at_fl2 (Kd.C_below (show kF.C wr.drew (some ad) xs.length xs from Kd.C_below HRd.out HB.out.drew) hb) HXk.out.1 HXk.out.2)
  have HRx := Aside0.mk (show ∀ w', Below wr.drew.heap.size wr.drew w' → kF.C w' (some ad) xs.length xs from fun w' hb => Kd.C_below (Kd.C_below HRd.out HB.out.drew) hb)
  have HBd := Aside0.mk (show Below w.heap.size w wr.drew from HB.out.drew)
  go_wp2_with fail
  refine start_ (n := 10) (S := fun w' => (w'.cell? (ad.add (i * 3)) = some (.string x.n) ∧ w'.cell? ⟨(ad.add (i * 3)).block, (ad.add (i * 3)).off + 1, none⟩ = some (.string x.v) ∧ w'.cell? ⟨(ad.add (i * 3)).block, (ad.add (i * 3)).off + 2, none⟩ = some (.bool x.nv)) ∧ Aside0 (Below wr.drew.heap.size wr.drew w')) (ds := []) (Array.replicate 10 false) (by kernel_rfl) (by kernel_rfl) rfl ⟨HCk.out _ (Below.refl _ _), ⟨Below.refl _ _⟩⟩ (fun hS => ?_)
  have HS := Aside0.mk (show ∀ w', Below wr.drew.heap.size wr.drew w' → (w'.cell? (ad.add (i * 3)) = some (.string x.n) ∧ w'.cell? ⟨(ad.add (i * 3)).block, (ad.add (i * 3)).off + 1, none⟩ = some (.string x.v) ∧ w'.cell? ⟨(ad.add (i * 3)).block, (ad.add (i * 3)).off + 2, none⟩ = some (.bool x.nv)) ∧ Aside0 (Below wr.drew.heap.size wr.drew w') from fun w' hb => ⟨HCk.out w' hb, ⟨hb⟩⟩)
  have HI0 := Aside0.mk (Below.refl wr.drew.heap.size wr.drew)
  clear HCk HB
  generalize hB0 : wr.drew.heap.size = B0 at *
  generalize wr.drew = w0 at *
  have HB0 := Lib.hid (show Bas w0 B0 from hB0)
  clear hB0
  refine dpure 1 (some 78) rfl rfl (by kernel_rfl) (fun _ _ _ h => h) (by rfl) (v := ?_) (a' := ?_) ?_ ?_ ?_
  rotate_left 2
  · intro w'; go_simp; with_reducible rfl
  · simp only [Act.put, List.setIfInBounds_toArray, List.set_cons_zero, List.set_cons_succ]; rfl
  refine dpure 3 (some 80) rfl rfl (by kernel_rfl) (fun _ _ _ h => h) (by rfl) (v := ?_) (a' := ?_) ?_ ?_ ?_
  rotate_left 2
  · intro w'; go_simp; with_reducible rfl
  · simp only [Act.put, List.setIfInBounds_toArray, List.set_cons_zero, List.set_cons_succ]; rfl
  refine dpure 4 (some 81) rfl rfl (by kernel_rfl) (fun _ _ _ h => h) (by rfl) (v := ?_) (a' := ?_) ?_ ?_ ?_
  rotate_left 2
  · intro w'; go_simp; with_reducible rfl
  · simp only [Act.put, List.setIfInBounds_toArray, List.set_cons_zero, List.set_cons_succ]; rfl
  refine dpure 5 (some 82) rfl rfl (by kernel_rfl) (fun _ _ _ h => h) (by rfl) (v := ?_) (a' := ?_) ?_ ?_ ?_
  rotate_left 2
  · intro w'; go_simp; with_reducible rfl
  · simp only [Act.put, List.setIfInBounds_toArray, List.set_cons_zero, List.set_cons_succ]; rfl
  refine dtake 6 (some 83) rfl rfl (by kernel_rfl) (fun _ _ _ h => h) (by rfl) hS (v := ?_) (a' := ?_) ?_ ?_ ?_
  rotate_left 2
  · rintro w' ⟨⟨s0,s1,s2⟩,_⟩; go_simp; with_reducible rfl
  · simp only [Act.put, List.setIfInBounds_toArray, List.set_cons_zero, List.set_cons_succ]; rfl
  clear hS
  refine join_ (σ := Value × Value × Value × Value) 1 #[true, true, true, true, true, true, true, true, true, false]
    (fun s => [(77, s.1), (79, s.2.1), (85, s.2.2.1), (84, s.2.2.2)])
    (fun s w' => FR w' B0 s.2.2.1 (xs ++ [x]) ∧ Below B0 w0 w') ?_ (fun JT => ?_)
  · rintro ⟨va, vb, vc, vu⟩ wq ⟨hv, hbl⟩
    simp only [] at hv hbl
    have hys := show List.map Fl.f (xs ++ [x]) = List.map Fl.f xs ++ [x.f] from List.map_append
    have hwf := HWf.out
    generalize xs ++ [x] = ys at hv hys hwf
    have HYs := Lib.hid hys
    have HYf := Lib.hid hwf
    clear hys hwf
    obtain ⟨An, cn, rfl, hlc, hrc⟩ := Kd.R_reads hv
    have HRn := Aside0.mk hrc
    have HLn := Lib.hid hlc
    have hbl := below_bas HB0.out hbl
    have HB9 := Aside0.mk (below_step HBd.out hbl)
    clear hv hbl hlc hrc HBd HRx HS HI0
    refine norm_ (a' := ?_) ?_ ?_
    rotate_left
    · simp only [putAll, Act.put, List.setIfInBounds_toArray, List.set_cons_zero, List.set_cons_succ]; rfl
    refine dpure 9 (some 11) rfl rfl (by kernel_rfl) (fun _ _ _ h => h) (by rfl) (v := ?_) (a' := ?_) ?_ ?_ ?_
    rotate_left 2
    · intro w'; go_simp; with_reducible rfl
    · simp only [Act.put, List.setIfInBounds_toArray, List.set_cons_zero, List.set_cons_succ]; rfl
    refine done_ (by kernel_rfl) ?_
    go_wp2_with fail
    refine (request_calls An cn ys _ HRn.out HLn.out HYf.out).mono ?_
    rw [HYs.out]
    cases hR : requestF (List.map Fl.f xs ++ [x.f]) with
    | none =>
      clear hR
      unfold reqE
      rintro e w3 ⟨rfl, hb⟩
      have HB10 := Aside0.mk (below_step HB9.out hb)
      clear hb HB9
      have hal := below_alloc (Below.refl w3.heap.size w3) (.cells #[.string ⟨#[]⟩, .string ⟨#[]⟩, .string ⟨#[]⟩, .string ⟨#[]⟩, .bool false, .int .i64 0] 26 (0, 0))
      have HB11 := Aside0.mk (below_step HB10.out hal)
      clear hal
      go_upto_region 19 with fail
      generalize w3.alloc (.cells #[.string ⟨#[]⟩, .string ⟨#[]⟩, .string ⟨#[]⟩, .string ⟨#[]⟩, .bool false, .int .i64 0] 26 (0, 0)) = w4 at *
      generalize w3.heap.size = qz at *
      obtain ⟨e0, e1, e2⟩ := at_fl2 (Kd.C_below HRd.out HB11.out) HXk.out.1 HXk.out.2
      go_wp2_with fail
      go_ret
      exact ⟨rfl, HB11.out⟩
    | some Y =>
      have h3 := HW.out.resolve_left (fun e => by rw [hR] at e; exact absurd e (by simp))
      obtain ⟨n0, n1, n2, n3⟩ := Y
      clear hR HW
      unfold reqE
      rintro e w3 ⟨rfl, hb⟩
      have HB10 := Aside0.mk (below_step HB9.out hb)
      clear hb HB9
      have hal := below_alloc (Below.refl w3.heap.size w3) (.cells #[.string n0, .string n1, .string ⟨#[]⟩, .string n2, .bool false, .int .i64 n3] 26 (0, 0))
      have HB11 := Aside0.mk (below_step HB10.out hal)
      clear hal
      go_upto_region 19 with fail
      generalize w3.alloc (.cells #[.string n0, .string n1, .string ⟨#[]⟩, .string n2, .bool false, .int .i64 n3] 26 (0, 0)) = w4 at *
      generalize w3.heap.size = qz at *
      obtain ⟨e0, e1, e2⟩ := at_fl2 (Kd.C_below HRd.out HB11.out) HXk.out.1 HXk.out.2
      obtain ⟨g1, g2, g3⟩ := h3
      obtain ⟨s1, s2, s3⟩ := const_no (s := x.n) g2 (L := [99, 111, 110, 116, 101, 110, 116, 45, 108, 101, 110, 103, 116, 104]) rfl
      obtain ⟨s4, s5, s6⟩ := const_no (s := x.n) g3 (L := [99, 111, 110, 116, 101, 110, 116, 45, 116, 121, 112, 101]) rfl
      have hz := HZ.out
      have hx0 := bt_nat x.n 0 (Nat.pos_of_ne_zero HZ.out)
      have z1 : 0 < x.n.size := by omega
      have z2 : (0 : Int) < (x.n.size : Int) := by omega
      obtain ⟨a, ha⟩ : ∃ a, bt x.n ((0 : Nat) : Int) = a := ⟨_, rfl⟩
      rw [show ((0 : Nat) : Int) = 0 from rfl] at ha
      rw [show ((0 : Nat) : Int) = 0 from rfl, ha] at hx0
      have g1 : bt x.n 0 ≠ 58 := g1
      rw [ha] at g1
      have g4 : (a != 58) = true := by rw [bne_iff_ne]; exact g1
      clear ha hz g1 g2 g3
      go_wp2_with fail
      go_ret
      exact ⟨rfl, HB11.out⟩
  simp only [putAll, Act.put, List.setIfInBounds_toArray, List.set_cons_zero, List.set_cons_succ] at JT
  refine wpAnyLast_ready (rs := [0, 7]) (by kernel_rfl) (by simp) (AllReadyL.cons rfl (by decide) (fun K hK => ?_) (AllReadyL.cons rfl (by decide) (fun K hK => ?_) AllReadyL.nil))
  · skip
    have hb := below_alloc (Below.refl w0.heap.size w0) (.cells #[] 41)
    have HI1 := Aside0.mk (below_stepB HB0.out HI0.out hb)
    have HV1 := Aside0.mk (fr_nil (base := B0) w0 (below_sz HB0.out HI0.out))
    refine event_step (by kernel_rfl) (v := .slice (some ⟨w0.heap.size, 0, none⟩) 0 0) (w1 := w0.alloc (.cells #[] 41)) (by go_simp; done) ?_
    refine hK _ _ (HS.out _ HI1.out) (fun hS => ?_)
    clear hK K
    refine norm_ (a' := Act.put _ (some 77) (.slice (some ⟨w0.heap.size, 0, none⟩) 0 0)) rfl ?_
    refine norm_ (a' := ?_) ?_ ?_
    rotate_left
    · simp only [Act.put, List.setIfInBounds_toArray, List.set_cons_zero, List.set_cons_succ]; rfl
    clear hS
    clear hb
    generalize w0.alloc (.cells #[] 41) = w1 at *
    generalize Value.slice (some ⟨w0.heap.size, 0, none⟩) 0 0 = va at *
    refine wpAnyLast_ready (rs := [2, 7]) (by kernel_rfl) (by simp) (AllReadyL.cons rfl (by decide) (fun K hK => ?_) (AllReadyL.cons rfl (by decide) (fun K hK => ?_) AllReadyL.nil))
    · skip
      refine appF_step (w0 := w0) (base := B0) (c := cp) (some 79) rfl (by rfl) (.tmp 77) (.tmp 78) (by kernel_rfl) (by kernel_rfl) (by kernel_rfl) HV1.out (HRx.out _ HI1.out) HI1.out (below_sz HB0.out HI1.out) (by simp; omega) ?_
      intro v1 w2 ho hb hg hob
      have HI2 := Aside0.mk hb
      have HV2 := Aside0.mk (show FR w2 B0 v1 xs from ho)
      clear ho hb hg hob
      obtain ⟨vb1, hvb⟩ : ∃ v, v1 = v := ⟨_, rfl⟩
      rw [hvb] at HV2 ⊢
      clear hvb
      refine hK _ _ (HS.out _ HI2.out) (fun hS => ?_)
      clear hK K
      refine norm_ (a' := Act.put _ (some 79) vb1) rfl ?_
      refine norm_ (a' := ?_) ?_ ?_
      rotate_left
      · simp only [Act.put, List.setIfInBounds_toArray, List.set_cons_zero, List.set_cons_succ]; rfl
      clear hS
      refine wpAnyLast_ready (rs := [7]) (by kernel_rfl) (by simp) (AllReadyL.cons rfl (by decide) (fun K hK => ?_) AllReadyL.nil)
      · skip
        have hb := below_alloc (Below.refl w2.heap.size w2) (.cells #[.string x.n, .string x.v, .bool x.nv] 41)
        have HI3 := Aside0.mk (below_stepB HB0.out HI2.out hb)
        have HV3 := Aside0.mk (Kd.R_below HV2.out hb)
        have HU3 := Aside0.mk (show FR (w2.alloc (.cells #[.string x.n, .string x.v, .bool x.nv] 41)) B0 (.slice (some ⟨w2.heap.size, 0, none⟩) 1 1) [x] from fr_one (base := B0) w2 (below_sz HB0.out HI2.out) _)
        have HA3 := Aside0.mk (apart_lit HV2.out 1 1)
        refine event_step (by kernel_rfl) (v := .slice (some ⟨w2.heap.size, 0, none⟩) 1 1) (w1 := w2.alloc (.cells #[.string x.n, .string x.v, .bool x.nv] 41)) (by first | (go_simp; done) | (go_simp; rfl)) ?_
        refine hK _ _ (HS.out _ HI3.out) (fun hS => ?_)
        clear hK K
        refine norm_ (a' := Act.put _ (some 84) (.slice (some ⟨w2.heap.size, 0, none⟩) 1 1)) rfl ?_
        refine norm_ (a' := ?_) ?_ ?_
        rotate_left
        · simp only [Act.put, List.setIfInBounds_toArray, List.set_cons_zero, List.set_cons_succ]; rfl
        clear hS
        clear hb
        generalize w2.alloc (.cells #[.string x.n, .string x.v, .bool x.nv] 41) = w3 at *
        generalize w2.heap.size = gl at *
        refine wpAnyLast_ready (rs := [8]) (by kernel_rfl) (by simp) (AllReadyL.cons rfl (by decide) (fun K hK => ?_) AllReadyL.nil)
        · skip
          refine appF_step (w0 := w0) (base := B0) (c := 1) (some 85) rfl (by rfl) (.tmp 79) (.tmp 84) (by kernel_rfl) (by kernel_rfl) (by kernel_rfl) HV3.out (Kd.R_reads' HU3.out).2.2 HI3.out (below_sz HB0.out HI3.out) (by simp; omega) ?_
          intro v1 w4 ho hb hg hob
          have HI4 := Aside0.mk hb
          have HV4 := Aside0.mk (show FR w4 B0 v1 (xs ++ [x]) from ho)
          clear ho hb hg hob
          refine hK _ _ (HS.out _ HI4.out) (fun hS => ?_)
          clear hK K
          refine norm_ (a' := Act.put _ (some 85) v1) rfl ?_
          refine norm_ (a' := ?_) ?_ ?_
          rotate_left
          · simp only [Act.put, List.setIfInBounds_toArray, List.set_cons_zero, List.set_cons_succ]; rfl
          clear hS
          refine lcast (l' := #[true, true, true, true, true, true, true, true, true, false]) (by kernel_rfl) ?_
          exact JT (va, vb1, v1, .slice (some ⟨gl, 0, none⟩) 1 1) w4 ⟨HV4.out, HI4.out⟩
    · skip
      have hb := below_alloc (Below.refl w1.heap.size w1) (.cells #[.string x.n, .string x.v, .bool x.nv] 41)
      have HI2 := Aside0.mk (below_stepB HB0.out HI1.out hb)
      have HV2 := Aside0.mk (Kd.R_below HV1.out hb)
      have HU2 := Aside0.mk (show FR (w1.alloc (.cells #[.string x.n, .string x.v, .bool x.nv] 41)) B0 (.slice (some ⟨w1.heap.size, 0, none⟩) 1 1) [x] from fr_one (base := B0) w1 (below_sz HB0.out HI1.out) _)
      have HA2 := Aside0.mk (apart_lit HV1.out 1 1)
      refine event_step (by kernel_rfl) (v := .slice (some ⟨w1.heap.size, 0, none⟩) 1 1) (w1 := w1.alloc (.cells #[.string x.n, .string x.v, .bool x.nv] 41)) (by first | (go_simp; done) | (go_simp; rfl)) ?_
      refine hK _ _ (HS.out _ HI2.out) (fun hS => ?_)
      clear hK K
      refine norm_ (a' := Act.put _ (some 84) (.slice (some ⟨w1.heap.size, 0, none⟩) 1 1)) rfl ?_
      refine norm_ (a' := ?_) ?_ ?_
      rotate_left
      · simp only [Act.put, List.setIfInBounds_toArray, List.set_cons_zero, List.set_cons_succ]; rfl
      clear hS
      clear hb
      generalize w1.alloc (.cells #[.string x.n, .string x.v, .bool x.nv] 41) = w2 at *
      generalize w1.heap.size = gl at *
      refine wpAnyLast_ready (rs := [2]) (by kernel_rfl) (by simp) (AllReadyL.cons rfl (by decide) (fun K hK => ?_) AllReadyL.nil)
      · skip
        refine appF_step (w0 := w0) (base := B0) (c := cp) (some 79) rfl (by rfl) (.tmp 77) (.tmp 78) (by kernel_rfl) (by kernel_rfl) (by kernel_rfl) HV2.out (HRx.out _ HI2.out) HI2.out (below_sz HB0.out HI2.out) (by simp; omega) ?_
        intro v1 w3 ho hb hg hob
        have HI3 := Aside0.mk hb
        have HV3 := Aside0.mk (show FR w3 B0 v1 xs from ho)
        have HU3 := Aside0.mk (fr_side HU2.out HA2.out hg)
        have HA3 := Aside0.mk (HA2.out.grow HU2.out hob)
        clear ho hb hg hob
        obtain ⟨vb1, hvb⟩ : ∃ v, v1 = v := ⟨_, rfl⟩
        rw [hvb] at HV3 ⊢
        rw [hvb] at HA3
        clear hvb
        refine hK _ _ (HS.out _ HI3.out) (fun hS => ?_)
        clear hK K
        refine norm_ (a' := Act.put _ (some 79) vb1) rfl ?_
        refine norm_ (a' := ?_) ?_ ?_
        rotate_left
        · simp only [Act.put, List.setIfInBounds_toArray, List.set_cons_zero, List.set_cons_succ]; rfl
        clear hS
        refine wpAnyLast_ready (rs := [8]) (by kernel_rfl) (by simp) (AllReadyL.cons rfl (by decide) (fun K hK => ?_) AllReadyL.nil)
        · skip
          refine appF_step (w0 := w0) (base := B0) (c := 1) (some 85) rfl (by rfl) (.tmp 79) (.tmp 84) (by kernel_rfl) (by kernel_rfl) (by kernel_rfl) HV3.out (Kd.R_reads' HU3.out).2.2 HI3.out (below_sz HB0.out HI3.out) (by simp; omega) ?_
          intro v1 w4 ho hb hg hob
          have HI4 := Aside0.mk hb
          have HV4 := Aside0.mk (show FR w4 B0 v1 (xs ++ [x]) from ho)
          clear ho hb hg hob
          refine hK _ _ (HS.out _ HI4.out) (fun hS => ?_)
          clear hK K
          refine norm_ (a' := Act.put _ (some 85) v1) rfl ?_
          refine norm_ (a' := ?_) ?_ ?_
          rotate_left
          · simp only [Act.put, List.setIfInBounds_toArray, List.set_cons_zero, List.set_cons_succ]; rfl
          clear hS
          refine lcast (l' := #[true, true, true, true, true, true, true, true, true, false]) (by kernel_rfl) ?_
          exact JT (va, vb1, v1, .slice (some ⟨gl, 0, none⟩) 1 1) w4 ⟨HV4.out, HI4.out⟩
  · skip
    have hb := below_alloc (Below.refl w0.heap.size w0) (.cells #[.string x.n, .string x.v, .bool x.nv] 41)
    have HI1 := Aside0.mk (below_stepB HB0.out HI0.out hb)
    have HU1 := Aside0.mk (show FR (w0.alloc (.cells #[.string x.n, .string x.v, .bool x.nv] 41)) B0 (.slice (some ⟨w0.heap.size, 0, none⟩) 1 1) [x] from fr_one (base := B0) w0 (below_sz HB0.out HI0.out) _)
    refine event_step (by kernel_rfl) (v := .slice (some ⟨w0.heap.size, 0, none⟩) 1 1) (w1 := w0.alloc (.cells #[.string x.n, .string x.v, .bool x.nv] 41)) (by first | (go_simp; done) | (go_simp; rfl)) ?_
    refine hK _ _ (HS.out _ HI1.out) (fun hS => ?_)
    clear hK K
    refine norm_ (a' := Act.put _ (some 84) (.slice (some ⟨w0.heap.size, 0, none⟩) 1 1)) rfl ?_
    refine norm_ (a' := ?_) ?_ ?_
    rotate_left
    · simp only [Act.put, List.setIfInBounds_toArray, List.set_cons_zero, List.set_cons_succ]; rfl
    clear hS
    clear hb
    generalize w0.alloc (.cells #[.string x.n, .string x.v, .bool x.nv] 41) = w1 at *
    generalize w0.heap.size = gl at *
    refine wpAnyLast_ready (rs := [0]) (by kernel_rfl) (by simp) (AllReadyL.cons rfl (by decide) (fun K hK => ?_) AllReadyL.nil)
    · skip
      have hb := below_alloc (Below.refl w1.heap.size w1) (.cells #[] 41)
      have HI2 := Aside0.mk (below_stepB HB0.out HI1.out hb)
      have HU2 := Aside0.mk (Kd.R_below HU1.out hb)
      have HV2 := Aside0.mk (fr_nil (base := B0) w1 (below_sz HB0.out HI1.out))
      have HA2 := Aside0.mk (apart_nil HU1.out 0 0)
      refine event_step (by kernel_rfl) (v := .slice (some ⟨w1.heap.size, 0, none⟩) 0 0) (w1 := w1.alloc (.cells #[] 41)) (by go_simp; done) ?_
      refine hK _ _ (HS.out _ HI2.out) (fun hS => ?_)
      clear hK K
      refine norm_ (a' := Act.put _ (some 77) (.slice (some ⟨w1.heap.size, 0, none⟩) 0 0)) rfl ?_
      refine norm_ (a' := ?_) ?_ ?_
      rotate_left
      · simp only [Act.put, List.setIfInBounds_toArray, List.set_cons_zero, List.set_cons_succ]; rfl
      clear hS
      clear hb
      generalize w1.alloc (.cells #[] 41) = w2 at *
      generalize Value.slice (some ⟨w1.heap.size, 0, none⟩) 0 0 = va at *
      refine wpAnyLast_ready (rs := [2]) (by kernel_rfl) (by simp) (AllReadyL.cons rfl (by decide) (fun K hK => ?_) AllReadyL.nil)
      · skip
        refine appF_step (w0 := w0) (base := B0) (c := cp) (some 79) rfl (by rfl) (.tmp 77) (.tmp 78) (by kernel_rfl) (by kernel_rfl) (by kernel_rfl) HV2.out (HRx.out _ HI2.out) HI2.out (below_sz HB0.out HI2.out) (by simp; omega) ?_
        intro v1 w3 ho hb hg hob
        have HI3 := Aside0.mk hb
        have HV3 := Aside0.mk (show FR w3 B0 v1 xs from ho)
        have HU3 := Aside0.mk (fr_side HU2.out HA2.out hg)
        have HA3 := Aside0.mk (HA2.out.grow HU2.out hob)
        clear ho hb hg hob
        obtain ⟨vb1, hvb⟩ : ∃ v, v1 = v := ⟨_, rfl⟩
        rw [hvb] at HV3 ⊢
        rw [hvb] at HA3
        clear hvb
        refine hK _ _ (HS.out _ HI3.out) (fun hS => ?_)
        clear hK K
        refine norm_ (a' := Act.put _ (some 79) vb1) rfl ?_
        refine norm_ (a' := ?_) ?_ ?_
        rotate_left
        · simp only [Act.put, List.setIfInBounds_toArray, List.set_cons_zero, List.set_cons_succ]; rfl
        clear hS
        refine wpAnyLast_ready (rs := [8]) (by kernel_rfl) (by simp) (AllReadyL.cons rfl (by decide) (fun K hK => ?_) AllReadyL.nil)
        · skip
          refine appF_step (w0 := w0) (base := B0) (c := 1) (some 85) rfl (by rfl) (.tmp 79) (.tmp 84) (by kernel_rfl) (by kernel_rfl) (by kernel_rfl) HV3.out (Kd.R_reads' HU3.out).2.2 HI3.out (below_sz HB0.out HI3.out) (by simp; omega) ?_
          intro v1 w4 ho hb hg hob
          have HI4 := Aside0.mk hb
          have HV4 := Aside0.mk (show FR w4 B0 v1 (xs ++ [x]) from ho)
          clear ho hb hg hob
          refine hK _ _ (HS.out _ HI4.out) (fun hS => ?_)
          clear hK K
          refine norm_ (a' := Act.put _ (some 85) v1) rfl ?_
          refine norm_ (a' := ?_) ?_ ?_
          rotate_left
          · simp only [Act.put, List.setIfInBounds_toArray, List.set_cons_zero, List.set_cons_succ]; rfl
          clear hS
          refine lcast (l' := #[true, true, true, true, true, true, true, true, true, false]) (by kernel_rfl) ?_
          exact JT (va, vb1, v1, .slice (some ⟨gl, 0, none⟩) 1 1) w4 ⟨HV4.out, HI4.out⟩
  | succ j =>
    have hk : k < 10 := by have := HK.out; omega
    have hC0 : kF.C wr (some ⟨gw, 0, none⟩) 10 wl := fl_sat HXw.out (by decide)
    obtain ⟨ad, x, e, hx, -⟩ := at_fl hC0 k hk
    obtain rfl := Option.some.inj e
    have hmem : x ∈ wl := mem_fl hk hx
    have hnone : requestF (List.map Fl.f (xs ++ [x])) = none := by rw [List.map_append]; exact wrong_all HX.out _ (wl_mem hmem)
    have HRq := Lib.hid (show reqE (requestF (List.map Fl.f (xs ++ [x]))) = .tuple #[.agg #[.string ⟨#[]⟩, .string ⟨#[]⟩, .string ⟨#[]⟩, .string ⟨#[]⟩, .bool false, .int .i64 0], .int .i64 100] by rw [hnone]; rfl)
    have HWf := Lib.hid (few_more HFF.out hlen (x := x) (by have := wl_small hmem; omega) (by have := wl_small hmem; omega))
    have q1 : (0 : Int) ≤ (k : Int) := by omega
    have q2 : (k : Int) < 10 := by omega
    have HCk := Aside0.mk (show ∀ w', Below wr.drew.heap.size wr.drew w' → w'.cell? ⟨gw, k * 3, none⟩ = some (.string x.n) ∧ w'.cell? ⟨gw, k * 3 + 1, none⟩ = some (.string x.v) ∧ w'.cell? ⟨gw, k * 3 + 2, none⟩ = some (.bool x.nv) from fun w' hb => by
      have h := at_fl2 (Kd.C_below (fl_sat HXw.out.drew (by decide) : kF.C wr.drew (some ⟨gw, 0, none⟩) 10 wl) hb) hk hx
      rw [add0] at h
      exact h)
    have HRx := Aside0.mk (show ∀ w', Below wr.drew.heap.size wr.drew w' → kF.C w' A xs.length xs from fun w' hb => Kd.C_below (Kd.C_below HRd.out HB.out.drew) hb)
    have HBd := Aside0.mk (show Below w.heap.size w wr.drew from HB.out.drew)
    have HXd := Aside0.mk (show SAt wr.drew gw _ _ from HXw.out.drew)
    clear hmem hnone hC0 hx e
    go_wp2_with fail
    refine start_ (n := 16) (S := fun w' => (w'.cell? ⟨gw, k * 3, none⟩ = some (.string x.n) ∧ w'.cell? ⟨gw, k * 3 + 1, none⟩ = some (.string x.v) ∧ w'.cell? ⟨gw, k * 3 + 2, none⟩ = some (.bool x.nv)) ∧ Aside0 (Below wr.drew.heap.size wr.drew w')) (ds := [14]) (Array.replicate 16 false) (by kernel_rfl) (by kernel_rfl) rfl ⟨HCk.out _ (Below.refl _ _), ⟨Below.refl _ _⟩⟩ (fun hS => ?_)
    have HS := Aside0.mk (show ∀ w', Below wr.drew.heap.size wr.drew w' → (w'.cell? ⟨gw, k * 3, none⟩ = some (.string x.n) ∧ w'.cell? ⟨gw, k * 3 + 1, none⟩ = some (.string x.v) ∧ w'.cell? ⟨gw, k * 3 + 2, none⟩ = some (.bool x.nv)) ∧ Aside0 (Below wr.drew.heap.size wr.drew w') from fun w' hb => ⟨HCk.out w' hb, ⟨hb⟩⟩)
    have HI0 := Aside0.mk (Below.refl wr.drew.heap.size wr.drew)
    clear HCk HB HXw
    generalize hB0 : wr.drew.heap.size = B0 at *
    generalize wr.drew = w0 at *
    have HB0 := Lib.hid (show Bas w0 B0 from hB0)
    clear hB0
    refine dpure 1 (some 51) rfl rfl (by kernel_rfl) (fun _ _ _ h => h) (by rfl) (v := ?_) (a' := ?_) ?_ ?_ ?_
    rotate_left 2
    · intro w'; go_simp; with_reducible rfl
    · simp only [Act.put, List.setIfInBounds_toArray, List.set_cons_zero, List.set_cons_succ]; rfl
    refine dpure 3 (some 53) rfl rfl (by kernel_rfl) (fun _ _ _ h => h) (by rfl) (v := ?_) (a' := ?_) ?_ ?_ ?_
    rotate_left 2
    · intro w'; go_simp; with_reducible rfl
    · simp only [Act.put, List.setIfInBounds_toArray, List.set_cons_zero, List.set_cons_succ]; rfl
    refine dpure 4 (some 54) rfl rfl (by kernel_rfl) (fun _ _ _ h => h) (by rfl) (v := ?_) (a' := ?_) ?_ ?_ ?_
    rotate_left 2
    · intro w'; go_simp; with_reducible rfl
    · simp only [Act.put, List.setIfInBounds_toArray, List.set_cons_zero, List.set_cons_succ]; rfl
    refine dpure 5 (some 55) rfl rfl (by kernel_rfl) (fun _ _ _ h => h) (by rfl) (v := ?_) (a' := ?_) ?_ ?_ ?_
    rotate_left 2
    · intro w'; go_simp; with_reducible rfl
    · simp only [Act.put, List.setIfInBounds_toArray, List.set_cons_zero, List.set_cons_succ]; rfl
    refine dtake 6 (some 56) rfl rfl (by kernel_rfl) (fun _ _ _ h => h) (by rfl) hS (v := ?_) (a' := ?_) ?_ ?_ ?_
    rotate_left 2
    · rintro w' ⟨⟨s0,s1,s2⟩,_⟩; go_simp; with_reducible rfl
    · simp only [Act.put, List.setIfInBounds_toArray, List.set_cons_zero, List.set_cons_succ]; rfl
    clear hS
    refine join_ (σ := Value × Value × Value × Value × Nat) 2 #[true, true, true, true, true, true, true, true, true, true, true, true, true, true, false, false]
      (fun s => [(50, s.1), (52, s.2.1), (58, s.2.2.1), (57, s.2.2.2.1), (59, .tuple #[.agg #[.string ⟨#[]⟩, .string ⟨#[]⟩, .string ⟨#[]⟩, .string ⟨#[]⟩, .bool false, .int .i64 0], .int .i64 100]), (49, .tuple #[.agg #[.string ⟨#[]⟩, .string ⟨#[]⟩, .string ⟨#[]⟩, .string ⟨#[]⟩, .bool false, .int .i64 0], .int .i64 100]), (60, .agg #[.string ⟨#[]⟩, .string ⟨#[]⟩, .string ⟨#[]⟩, .string ⟨#[]⟩, .bool false, .int .i64 0]), (61, .int .i64 100), (9, .pointer (some ⟨s.2.2.2.2, 0, none⟩))])
      (fun s w' => SAt w' s.2.2.2.2 #[.string ⟨#[]⟩, .string ⟨#[]⟩, .string ⟨#[]⟩, .string ⟨#[]⟩, .bool false, .int .i64 0] 26 ∧ Below B0 w0 w' ∧ B0 ≤ s.2.2.2.2) ?_ (fun JT => ?_)
    · rintro ⟨va, vb, vc, vu, qb⟩ wq ⟨hQ, hbl, hle⟩
      simp only [] at hQ hbl hle
      refine norm_ (a' := ?_) ?_ ?_
      rotate_left
      · simp only [putAll, Act.put, List.setIfInBounds_toArray, List.set_cons_zero, List.set_cons_succ]; rfl
      obtain ⟨w9, hw9, hl, hb9⟩ := six_laid hQ hbl hle (.string ⟨#[]⟩) (.string ⟨#[]⟩) (.string ⟨#[]⟩) (.string ⟨#[]⟩) (.bool false) (.int .i64 0)
      have HQ := Aside0.mk hQ
      clear hQ hbl hle
      have x0 := HQ.out.is 0 rfl
      have x1 := HQ.out.is 1 rfl
      have x2 := HQ.out.is 2 rfl
      have x3 := HQ.out.is 3 rfl
      have x4 := HQ.out.is 4 rfl
      have x5 := HQ.out.is 5 rfl
      have y0 := HQ.out.frozen 0
      have y1 := HQ.out.frozen 1
      have y2 := HQ.out.frozen 2
      have y3 := HQ.out.frozen 3
      have y4 := HQ.out.frozen 4
      have y5 := HQ.out.frozen 5
      refine dlast 14 (Array.getElem?_eq_getElem (by decide)) (by kernel_rfl) (by decide) (fun K hK => ?_)
      refine dskip (w1 := w9) (by rfl) rfl (by rw [hw9]; go_simp; done) ?_
      refine hK.out _ _ ?_
      clear x0 x1 x2 x3 x4 x5 y0 y1 y2 y3 y4 y5 hK K hw9 HQ
      have hb9 := below_bas HB0.out hb9
      have HB9 := Aside0.mk (below_step HBd.out hb9)
      have HX9 := Aside0.mk (HXd.out.below hb9)
      have l0 := hl.is 0 rfl
      clear hl hb9 HXd HBd
      refine dpure 15 (some 10) rfl rfl (by kernel_rfl) (fun _ _ _ h => h) (by rfl) (v := ?_) (a' := ?_) ?_ ?_ ?_
      rotate_left 2
      · intro w'; go_simp; with_reducible rfl
      · simp only [Act.put, List.setIfInBounds_toArray, List.set_cons_zero, List.set_cons_succ]; rfl
      refine done_ (by kernel_rfl) ?_
      clear HI0 HS HRx HRq HWf
      go_wp2_with fail
      go_roundg j
      case measure => omega
      case rel => exact ⟨k + 1, by go_num, ⟨by have := HK.out; omega⟩, HB9, HX9⟩
    simp only [putAll, Act.put, List.setIfInBounds_toArray, List.set_cons_zero, List.set_cons_succ] at JT
    refine wpAnyLast_ready (rs := [0, 7, 13]) (by kernel_rfl) (by simp) (AllReadyL.cons rfl (by decide) (fun K hK => ?_) (AllReadyL.cons rfl (by decide) (fun K hK => ?_) (AllReadyL.cons rfl (by decide) (fun K hK => ?_) AllReadyL.nil)))
    · skip
      have hb := below_alloc (Below.refl w0.heap.size w0) (.cells #[] 41)
      have HI1 := Aside0.mk (below_stepB HB0.out HI0.out hb)
      have HV1 := Aside0.mk (fr_nil (base := B0) w0 (below_sz HB0.out HI0.out))
      refine event_step (by kernel_rfl) (v := .slice (some ⟨w0.heap.size, 0, none⟩) 0 0) (w1 := w0.alloc (.cells #[] 41)) (by go_simp; done) ?_
      refine hK _ _ (HS.out _ HI1.out) (fun hS => ?_)
      clear hK K
      refine norm_ (a' := Act.put _ (some 50) (.slice (some ⟨w0.heap.size, 0, none⟩) 0 0)) rfl ?_
      refine norm_ (a' := ?_) ?_ ?_
      rotate_left
      · simp only [Act.put, List.setIfInBounds_toArray, List.set_cons_zero, List.set_cons_succ]; rfl
      clear hS
      clear hb
      generalize w0.alloc (.cells #[] 41) = w1 at *
      generalize Value.slice (some ⟨w0.heap.size, 0, none⟩) 0 0 = va at *
      refine wpAnyLast_ready (rs := [2, 7, 13]) (by kernel_rfl) (by simp) (AllReadyL.cons rfl (by decide) (fun K hK => ?_) (AllReadyL.cons rfl (by decide) (fun K hK => ?_) (AllReadyL.cons rfl (by decide) (fun K hK => ?_) AllReadyL.nil)))
      · skip
        refine appF_step (w0 := w0) (base := B0) (c := cp) (some 52) rfl (by rfl) (.tmp 50) (.tmp 51) (by kernel_rfl) (by kernel_rfl) (by kernel_rfl) HV1.out (HRx.out _ HI1.out) HI1.out (below_sz HB0.out HI1.out) (by simp; omega) ?_
        intro v1 w2 ho hb hg hob
        have HI2 := Aside0.mk hb
        have HV2 := Aside0.mk (show FR w2 B0 v1 xs from ho)
        clear ho hb hg hob
        obtain ⟨vb1, hvb⟩ : ∃ v, v1 = v := ⟨_, rfl⟩
        rw [hvb] at HV2 ⊢
        clear hvb
        refine hK _ _ (HS.out _ HI2.out) (fun hS => ?_)
        clear hK K
        refine norm_ (a' := Act.put _ (some 52) vb1) rfl ?_
        refine norm_ (a' := ?_) ?_ ?_
        rotate_left
        · simp only [Act.put, List.setIfInBounds_toArray, List.set_cons_zero, List.set_cons_succ]; rfl
        clear hS
        refine wpAnyLast_ready (rs := [7, 13]) (by kernel_rfl) (by simp) (AllReadyL.cons rfl (by decide) (fun K hK => ?_) (AllReadyL.cons rfl (by decide) (fun K hK => ?_) AllReadyL.nil))
        · skip
          have hb := below_alloc (Below.refl w2.heap.size w2) (.cells #[.string x.n, .string x.v, .bool x.nv] 41)
          have HI3 := Aside0.mk (below_stepB HB0.out HI2.out hb)
          have HV3 := Aside0.mk (Kd.R_below HV2.out hb)
          have HU3 := Aside0.mk (show FR (w2.alloc (.cells #[.string x.n, .string x.v, .bool x.nv] 41)) B0 (.slice (some ⟨w2.heap.size, 0, none⟩) 1 1) [x] from fr_one (base := B0) w2 (below_sz HB0.out HI2.out) _)
          have HA3 := Aside0.mk (apart_lit HV2.out 1 1)
          refine event_step (by kernel_rfl) (v := .slice (some ⟨w2.heap.size, 0, none⟩) 1 1) (w1 := w2.alloc (.cells #[.string x.n, .string x.v, .bool x.nv] 41)) (by first | (go_simp; done) | (go_simp; rfl)) ?_
          refine hK _ _ (HS.out _ HI3.out) (fun hS => ?_)
          clear hK K
          refine norm_ (a' := Act.put _ (some 57) (.slice (some ⟨w2.heap.size, 0, none⟩) 1 1)) rfl ?_
          refine norm_ (a' := ?_) ?_ ?_
          rotate_left
          · simp only [Act.put, List.setIfInBounds_toArray, List.set_cons_zero, List.set_cons_succ]; rfl
          clear hS
          clear hb
          generalize w2.alloc (.cells #[.string x.n, .string x.v, .bool x.nv] 41) = w3 at *
          generalize w2.heap.size = gl at *
          refine wpAnyLast_ready (rs := [8, 13]) (by kernel_rfl) (by simp) (AllReadyL.cons rfl (by decide) (fun K hK => ?_) (AllReadyL.cons rfl (by decide) (fun K hK => ?_) AllReadyL.nil))
          · skip
            refine appF_step (w0 := w0) (base := B0) (c := 1) (some 58) rfl (by rfl) (.tmp 52) (.tmp 57) (by kernel_rfl) (by kernel_rfl) (by kernel_rfl) HV3.out (Kd.R_reads' HU3.out).2.2 HI3.out (below_sz HB0.out HI3.out) (by simp; omega) ?_
            intro v1 w4 ho hb hg hob
            have HI4 := Aside0.mk hb
            have HV4 := Aside0.mk (show FR w4 B0 v1 (xs ++ [x]) from ho)
            clear ho hb hg hob
            obtain ⟨An, cn, rfl, hlc, hrc⟩ := Kd.R_reads HV4.out
            have HW4 := Aside0.mk (show kF.C w4 An (xs ++ [x]).length (xs ++ [x]) from hrc)
            have HWl := Lib.hid (show (xs ++ [x]).length ≤ cn from hlc)
            clear hlc hrc
            refine hK _ _ (HS.out _ HI4.out) (fun hS => ?_)
            clear hK K
            refine norm_ (a' := Act.put _ (some 58) (.slice An (xs ++ [x]).length cn)) rfl ?_
            refine norm_ (a' := ?_) ?_ ?_
            rotate_left
            · simp only [Act.put, List.setIfInBounds_toArray, List.set_cons_zero, List.set_cons_succ]; rfl
            clear hS
            refine wpAnyLast_ready (rs := [9, 13]) (by kernel_rfl) (by simp) (AllReadyL.cons rfl (by decide) (fun K hK => ?_) (AllReadyL.cons rfl (by decide) (fun K hK => ?_) AllReadyL.nil))
            · skip
              refine goes_ Tryd.func9 (by kernel_rfl) rfl #[.slice An (xs ++ [x]).length cn] (by rfl) rfl rfl (by kernel_rfl) ?_
              refine (request_calls An cn (xs ++ [x]) _ HW4.out HWl.out HWf.out).mono ?_
              rw [HRq.out]
              rintro e w5 ⟨rfl, hb⟩
              refine ⟨_, rfl, ?_⟩
              have HI5 := Aside0.mk (below_stepB HB0.out HI4.out hb)
              refine hK _ _ (HS.out _ HI5.out) (fun hS => ?_)
              clear hK K
              refine norm_ (a' := Act.put _ (some 59) (.tuple #[.agg #[.string ⟨#[]⟩, .string ⟨#[]⟩, .string ⟨#[]⟩, .string ⟨#[]⟩, .bool false, .int .i64 0], .int .i64 100])) rfl ?_
              refine norm_ (a' := ?_) ?_ ?_
              rotate_left
              · simp only [Act.put, List.setIfInBounds_toArray, List.set_cons_zero, List.set_cons_succ]; rfl
              clear hS
              refine dpure 10 (some 49) rfl rfl (by kernel_rfl) (fun _ _ _ h => h) (by rfl) (v := ?_) (a' := ?_) ?_ ?_ ?_
              rotate_left 2
              · intro w'; go_simp; with_reducible rfl
              · simp only [Act.put, List.setIfInBounds_toArray, List.set_cons_zero, List.set_cons_succ]; rfl
              refine dpure 11 (some 60) rfl rfl (by kernel_rfl) (fun _ _ _ h => h) (by rfl) (v := ?_) (a' := ?_) ?_ ?_ ?_
              rotate_left 2
              · intro w'; go_simp; with_reducible rfl
              · simp only [Act.put, List.setIfInBounds_toArray, List.set_cons_zero, List.set_cons_succ]; rfl
              refine dpure 12 (some 61) rfl rfl (by kernel_rfl) (fun _ _ _ h => h) (by rfl) (v := ?_) (a' := ?_) ?_ ?_ ?_
              rotate_left 2
              · intro w'; go_simp; with_reducible rfl
              · simp only [Act.put, List.setIfInBounds_toArray, List.set_cons_zero, List.set_cons_succ]; rfl
              clear hb
              refine wpAnyLast_ready (rs := [13]) (by kernel_rfl) (by simp) (AllReadyL.cons rfl (by decide) (fun K hK => ?_) AllReadyL.nil)
              · skip
                have hb := below_alloc (Below.refl w5.heap.size w5) (.cells #[.string ⟨#[]⟩, .string ⟨#[]⟩, .string ⟨#[]⟩, .string ⟨#[]⟩, .bool false, .int .i64 0] 26 (0, 0))
                have HI6 := Aside0.mk (below_stepB HB0.out HI5.out hb)
                have HB6 := Aside0.mk (SAt.new w5 #[.string ⟨#[]⟩, .string ⟨#[]⟩, .string ⟨#[]⟩, .string ⟨#[]⟩, .bool false, .int .i64 0] 26)
                have HQ := Lib.hid ((below_sz HB0.out HI5.out))
                refine event_step (by kernel_rfl) (v := .pointer (some ⟨w5.heap.size, 0, none⟩)) (w1 := w5.alloc (.cells #[.string ⟨#[]⟩, .string ⟨#[]⟩, .string ⟨#[]⟩, .string ⟨#[]⟩, .bool false, .int .i64 0] 26 (0, 0))) (by go_simp; done) ?_
                refine hK _ _ (HS.out _ HI6.out) (fun hS => ?_)
                clear hK K
                refine norm_ (a' := Act.put _ (some 9) (.pointer (some ⟨w5.heap.size, 0, none⟩))) rfl ?_
                refine norm_ (a' := ?_) ?_ ?_
                rotate_left
                · simp only [Act.put, List.setIfInBounds_toArray, List.set_cons_zero, List.set_cons_succ]; rfl
                clear hS
                clear hb
                generalize w5.alloc (.cells #[.string ⟨#[]⟩, .string ⟨#[]⟩, .string ⟨#[]⟩, .string ⟨#[]⟩, .bool false, .int .i64 0] 26 (0, 0)) = w6 at *
                generalize w5.heap.size = qb at *
                refine lcast (l' := #[true, true, true, true, true, true, true, true, true, true, true, true, true, true, false, false]) (by kernel_rfl) ?_
                exact JT (va, vb1, .slice An (xs ++ [x]).length cn, .slice (some ⟨gl, 0, none⟩) 1 1, qb) w6 ⟨HB6.out, HI6.out, HQ.out⟩
            · skip
              have hb := below_alloc (Below.refl w4.heap.size w4) (.cells #[.string ⟨#[]⟩, .string ⟨#[]⟩, .string ⟨#[]⟩, .string ⟨#[]⟩, .bool false, .int .i64 0] 26 (0, 0))
              have HI5 := Aside0.mk (below_stepB HB0.out HI4.out hb)
              have HW5 := Aside0.mk (Kd.C_below HW4.out hb)
              have HB5 := Aside0.mk (SAt.new w4 #[.string ⟨#[]⟩, .string ⟨#[]⟩, .string ⟨#[]⟩, .string ⟨#[]⟩, .bool false, .int .i64 0] 26)
              have HQ := Lib.hid ((below_sz HB0.out HI4.out))
              refine event_step (by kernel_rfl) (v := .pointer (some ⟨w4.heap.size, 0, none⟩)) (w1 := w4.alloc (.cells #[.string ⟨#[]⟩, .string ⟨#[]⟩, .string ⟨#[]⟩, .string ⟨#[]⟩, .bool false, .int .i64 0] 26 (0, 0))) (by go_simp; done) ?_
              refine hK _ _ (HS.out _ HI5.out) (fun hS => ?_)
              clear hK K
              refine norm_ (a' := Act.put _ (some 9) (.pointer (some ⟨w4.heap.size, 0, none⟩))) rfl ?_
              refine norm_ (a' := ?_) ?_ ?_
              rotate_left
              · simp only [Act.put, List.setIfInBounds_toArray, List.set_cons_zero, List.set_cons_succ]; rfl
              clear hS
              clear hb
              generalize w4.alloc (.cells #[.string ⟨#[]⟩, .string ⟨#[]⟩, .string ⟨#[]⟩, .string ⟨#[]⟩, .bool false, .int .i64 0] 26 (0, 0)) = w5 at *
              generalize w4.heap.size = qb at *
              refine wpAnyLast_ready (rs := [9]) (by kernel_rfl) (by simp) (AllReadyL.cons rfl (by decide) (fun K hK => ?_) AllReadyL.nil)
              · skip
                refine goes_ Tryd.func9 (by kernel_rfl) rfl #[.slice An (xs ++ [x]).length cn] (by rfl) rfl rfl (by kernel_rfl) ?_
                refine (request_calls An cn (xs ++ [x]) _ HW5.out HWl.out HWf.out).mono ?_
                rw [HRq.out]
                rintro e w6 ⟨rfl, hb⟩
                refine ⟨_, rfl, ?_⟩
                have HI6 := Aside0.mk (below_stepB HB0.out HI5.out hb)
                have HB6 := Aside0.mk (HB5.out.below hb)
                refine hK _ _ (HS.out _ HI6.out) (fun hS => ?_)
                clear hK K
                refine norm_ (a' := Act.put _ (some 59) (.tuple #[.agg #[.string ⟨#[]⟩, .string ⟨#[]⟩, .string ⟨#[]⟩, .string ⟨#[]⟩, .bool false, .int .i64 0], .int .i64 100])) rfl ?_
                refine norm_ (a' := ?_) ?_ ?_
                rotate_left
                · simp only [Act.put, List.setIfInBounds_toArray, List.set_cons_zero, List.set_cons_succ]; rfl
                clear hS
                refine dpure 10 (some 49) rfl rfl (by kernel_rfl) (fun _ _ _ h => h) (by rfl) (v := ?_) (a' := ?_) ?_ ?_ ?_
                rotate_left 2
                · intro w'; go_simp; with_reducible rfl
                · simp only [Act.put, List.setIfInBounds_toArray, List.set_cons_zero, List.set_cons_succ]; rfl
                refine dpure 11 (some 60) rfl rfl (by kernel_rfl) (fun _ _ _ h => h) (by rfl) (v := ?_) (a' := ?_) ?_ ?_ ?_
                rotate_left 2
                · intro w'; go_simp; with_reducible rfl
                · simp only [Act.put, List.setIfInBounds_toArray, List.set_cons_zero, List.set_cons_succ]; rfl
                refine dpure 12 (some 61) rfl rfl (by kernel_rfl) (fun _ _ _ h => h) (by rfl) (v := ?_) (a' := ?_) ?_ ?_ ?_
                rotate_left 2
                · intro w'; go_simp; with_reducible rfl
                · simp only [Act.put, List.setIfInBounds_toArray, List.set_cons_zero, List.set_cons_succ]; rfl
                clear hb
                refine lcast (l' := #[true, true, true, true, true, true, true, true, true, true, true, true, true, true, false, false]) (by kernel_rfl) ?_
                exact JT (va, vb1, .slice An (xs ++ [x]).length cn, .slice (some ⟨gl, 0, none⟩) 1 1, qb) w6 ⟨HB6.out, HI6.out, HQ.out⟩
          · skip
            have hb := below_alloc (Below.refl w3.heap.size w3) (.cells #[.string ⟨#[]⟩, .string ⟨#[]⟩, .string ⟨#[]⟩, .string ⟨#[]⟩, .bool false, .int .i64 0] 26 (0, 0))
            have HI4 := Aside0.mk (below_stepB HB0.out HI3.out hb)
            have HV4 := Aside0.mk (Kd.R_below HV3.out hb)
            have HU4 := Aside0.mk (Kd.R_below HU3.out hb)
            have HA4 := HA3
            have HB4 := Aside0.mk (SAt.new w3 #[.string ⟨#[]⟩, .string ⟨#[]⟩, .string ⟨#[]⟩, .string ⟨#[]⟩, .bool false, .int .i64 0] 26)
            have HQ := Lib.hid ((below_sz HB0.out HI3.out))
            refine event_step (by kernel_rfl) (v := .pointer (some ⟨w3.heap.size, 0, none⟩)) (w1 := w3.alloc (.cells #[.string ⟨#[]⟩, .string ⟨#[]⟩, .string ⟨#[]⟩, .string ⟨#[]⟩, .bool false, .int .i64 0] 26 (0, 0))) (by go_simp; done) ?_
            refine hK _ _ (HS.out _ HI4.out) (fun hS => ?_)
            clear hK K
            refine norm_ (a' := Act.put _ (some 9) (.pointer (some ⟨w3.heap.size, 0, none⟩))) rfl ?_
            refine norm_ (a' := ?_) ?_ ?_
            rotate_left
            · simp only [Act.put, List.setIfInBounds_toArray, List.set_cons_zero, List.set_cons_succ]; rfl
            clear hS
            clear hb
            generalize w3.alloc (.cells #[.string ⟨#[]⟩, .string ⟨#[]⟩, .string ⟨#[]⟩, .string ⟨#[]⟩, .bool false, .int .i64 0] 26 (0, 0)) = w4 at *
            generalize w3.heap.size = qb at *
            refine wpAnyLast_ready (rs := [8]) (by kernel_rfl) (by simp) (AllReadyL.cons rfl (by decide) (fun K hK => ?_) AllReadyL.nil)
            · skip
              refine appF_step (w0 := w0) (base := B0) (c := 1) (some 58) rfl (by rfl) (.tmp 52) (.tmp 57) (by kernel_rfl) (by kernel_rfl) (by kernel_rfl) HV4.out (Kd.R_reads' HU4.out).2.2 HI4.out (below_sz HB0.out HI4.out) (by simp; omega) ?_
              intro v1 w5 ho hb hg hob
              have HI5 := Aside0.mk hb
              have HV5 := Aside0.mk (show FR w5 B0 v1 (xs ++ [x]) from ho)
              have HB5 := Aside0.mk (HB4.out.beside HV4.out (by decide) hg)
              clear ho hb hg hob
              obtain ⟨An, cn, rfl, hlc, hrc⟩ := Kd.R_reads HV5.out
              have HW5 := Aside0.mk (show kF.C w5 An (xs ++ [x]).length (xs ++ [x]) from hrc)
              have HWl := Lib.hid (show (xs ++ [x]).length ≤ cn from hlc)
              clear hlc hrc
              refine hK _ _ (HS.out _ HI5.out) (fun hS => ?_)
              clear hK K
              refine norm_ (a' := Act.put _ (some 58) (.slice An (xs ++ [x]).length cn)) rfl ?_
              refine norm_ (a' := ?_) ?_ ?_
              rotate_left
              · simp only [Act.put, List.setIfInBounds_toArray, List.set_cons_zero, List.set_cons_succ]; rfl
              clear hS
              refine wpAnyLast_ready (rs := [9]) (by kernel_rfl) (by simp) (AllReadyL.cons rfl (by decide) (fun K hK => ?_) AllReadyL.nil)
              · skip
                refine goes_ Tryd.func9 (by kernel_rfl) rfl #[.slice An (xs ++ [x]).length cn] (by rfl) rfl rfl (by kernel_rfl) ?_
                refine (request_calls An cn (xs ++ [x]) _ HW5.out HWl.out HWf.out).mono ?_
                rw [HRq.out]
                rintro e w6 ⟨rfl, hb⟩
                refine ⟨_, rfl, ?_⟩
                have HI6 := Aside0.mk (below_stepB HB0.out HI5.out hb)
                have HB6 := Aside0.mk (HB5.out.below hb)
                refine hK _ _ (HS.out _ HI6.out) (fun hS => ?_)
                clear hK K
                refine norm_ (a' := Act.put _ (some 59) (.tuple #[.agg #[.string ⟨#[]⟩, .string ⟨#[]⟩, .string ⟨#[]⟩, .string ⟨#[]⟩, .bool false, .int .i64 0], .int .i64 100])) rfl ?_
                refine norm_ (a' := ?_) ?_ ?_
                rotate_left
                · simp only [Act.put, List.setIfInBounds_toArray, List.set_cons_zero, List.set_cons_succ]; rfl
                clear hS
                refine dpure 10 (some 49) rfl rfl (by kernel_rfl) (fun _ _ _ h => h) (by rfl) (v := ?_) (a' := ?_) ?_ ?_ ?_
                rotate_left 2
                · intro w'; go_simp; with_reducible rfl
                · simp only [Act.put, List.setIfInBounds_toArray, List.set_cons_zero, List.set_cons_succ]; rfl
                refine dpure 11 (some 60) rfl rfl (by kernel_rfl) (fun _ _ _ h => h) (by rfl) (v := ?_) (a' := ?_) ?_ ?_ ?_
                rotate_left 2
                · intro w'; go_simp; with_reducible rfl
                · simp only [Act.put, List.setIfInBounds_toArray, List.set_cons_zero, List.set_cons_succ]; rfl
                refine dpure 12 (some 61) rfl rfl (by kernel_rfl) (fun _ _ _ h => h) (by rfl) (v := ?_) (a' := ?_) ?_ ?_ ?_
                rotate_left 2
                · intro w'; go_simp; with_reducible rfl
                · simp only [Act.put, List.setIfInBounds_toArray, List.set_cons_zero, List.set_cons_succ]; rfl
                clear hb
                refine lcast (l' := #[true, true, true, true, true, true, true, true, true, true, true, true, true, true, false, false]) (by kernel_rfl) ?_
                exact JT (va, vb1, .slice An (xs ++ [x]).length cn, .slice (some ⟨gl, 0, none⟩) 1 1, qb) w6 ⟨HB6.out, HI6.out, HQ.out⟩
        · skip
          have hb := below_alloc (Below.refl w2.heap.size w2) (.cells #[.string ⟨#[]⟩, .string ⟨#[]⟩, .string ⟨#[]⟩, .string ⟨#[]⟩, .bool false, .int .i64 0] 26 (0, 0))
          have HI3 := Aside0.mk (below_stepB HB0.out HI2.out hb)
          have HV3 := Aside0.mk (Kd.R_below HV2.out hb)
          have HB3 := Aside0.mk (SAt.new w2 #[.string ⟨#[]⟩, .string ⟨#[]⟩, .string ⟨#[]⟩, .string ⟨#[]⟩, .bool false, .int .i64 0] 26)
          have HQ := Lib.hid ((below_sz HB0.out HI2.out))
          refine event_step (by kernel_rfl) (v := .pointer (some ⟨w2.heap.size, 0, none⟩)) (w1 := w2.alloc (.cells #[.string ⟨#[]⟩, .string ⟨#[]⟩, .string ⟨#[]⟩, .string ⟨#[]⟩, .bool false, .int .i64 0] 26 (0, 0))) (by go_simp; done) ?_
          refine hK _ _ (HS.out _ HI3.out) (fun hS => ?_)
          clear hK K
          refine norm_ (a' := Act.put _ (some 9) (.pointer (some ⟨w2.heap.size, 0, none⟩))) rfl ?_
          refine norm_ (a' := ?_) ?_ ?_
          rotate_left
          · simp only [Act.put, List.setIfInBounds_toArray, List.set_cons_zero, List.set_cons_succ]; rfl
          clear hS
          clear hb
          generalize w2.alloc (.cells #[.string ⟨#[]⟩, .string ⟨#[]⟩, .string ⟨#[]⟩, .string ⟨#[]⟩, .bool false, .int .i64 0] 26 (0, 0)) = w3 at *
          generalize w2.heap.size = qb at *
          refine wpAnyLast_ready (rs := [7]) (by kernel_rfl) (by simp) (AllReadyL.cons rfl (by decide) (fun K hK => ?_) AllReadyL.nil)
          · skip
            have hb := below_alloc (Below.refl w3.heap.size w3) (.cells #[.string x.n, .string x.v, .bool x.nv] 41)
            have HI4 := Aside0.mk (below_stepB HB0.out HI3.out hb)
            have HV4 := Aside0.mk (Kd.R_below HV3.out hb)
            have HB4 := Aside0.mk (HB3.out.below hb)
            have HU4 := Aside0.mk (show FR (w3.alloc (.cells #[.string x.n, .string x.v, .bool x.nv] 41)) B0 (.slice (some ⟨w3.heap.size, 0, none⟩) 1 1) [x] from fr_one (base := B0) w3 (below_sz HB0.out HI3.out) _)
            have HA4 := Aside0.mk (apart_lit HV3.out 1 1)
            refine event_step (by kernel_rfl) (v := .slice (some ⟨w3.heap.size, 0, none⟩) 1 1) (w1 := w3.alloc (.cells #[.string x.n, .string x.v, .bool x.nv] 41)) (by first | (go_simp; done) | (go_simp; rfl)) ?_
            refine hK _ _ (HS.out _ HI4.out) (fun hS => ?_)
            clear hK K
            refine norm_ (a' := Act.put _ (some 57) (.slice (some ⟨w3.heap.size, 0, none⟩) 1 1)) rfl ?_
            refine norm_ (a' := ?_) ?_ ?_
            rotate_left
            · simp only [Act.put, List.setIfInBounds_toArray, List.set_cons_zero, List.set_cons_succ]; rfl
            clear hS
            clear hb
            generalize w3.alloc (.cells #[.string x.n, .string x.v, .bool x.nv] 41) = w4 at *
            generalize w3.heap.size = gl at *
            refine wpAnyLast_ready (rs := [8]) (by kernel_rfl) (by simp) (AllReadyL.cons rfl (by decide) (fun K hK => ?_) AllReadyL.nil)
            · skip
              refine appF_step (w0 := w0) (base := B0) (c := 1) (some 58) rfl (by rfl) (.tmp 52) (.tmp 57) (by kernel_rfl) (by kernel_rfl) (by kernel_rfl) HV4.out (Kd.R_reads' HU4.out).2.2 HI4.out (below_sz HB0.out HI4.out) (by simp; omega) ?_
              intro v1 w5 ho hb hg hob
              have HI5 := Aside0.mk hb
              have HV5 := Aside0.mk (show FR w5 B0 v1 (xs ++ [x]) from ho)
              have HB5 := Aside0.mk (HB4.out.beside HV4.out (by decide) hg)
              clear ho hb hg hob
              obtain ⟨An, cn, rfl, hlc, hrc⟩ := Kd.R_reads HV5.out
              have HW5 := Aside0.mk (show kF.C w5 An (xs ++ [x]).length (xs ++ [x]) from hrc)
              have HWl := Lib.hid (show (xs ++ [x]).length ≤ cn from hlc)
              clear hlc hrc
              refine hK _ _ (HS.out _ HI5.out) (fun hS => ?_)
              clear hK K
              refine norm_ (a' := Act.put _ (some 58) (.slice An (xs ++ [x]).length cn)) rfl ?_
              refine norm_ (a' := ?_) ?_ ?_
              rotate_left
              · simp only [Act.put, List.setIfInBounds_toArray, List.set_cons_zero, List.set_cons_succ]; rfl
              clear hS
              refine wpAnyLast_ready (rs := [9]) (by kernel_rfl) (by simp) (AllReadyL.cons rfl (by decide) (fun K hK => ?_) AllReadyL.nil)
              · skip
                refine goes_ Tryd.func9 (by kernel_rfl) rfl #[.slice An (xs ++ [x]).length cn] (by rfl) rfl rfl (by kernel_rfl) ?_
                refine (request_calls An cn (xs ++ [x]) _ HW5.out HWl.out HWf.out).mono ?_
                rw [HRq.out]
                rintro e w6 ⟨rfl, hb⟩
                refine ⟨_, rfl, ?_⟩
                have HI6 := Aside0.mk (below_stepB HB0.out HI5.out hb)
                have HB6 := Aside0.mk (HB5.out.below hb)
                refine hK _ _ (HS.out _ HI6.out) (fun hS => ?_)
                clear hK K
                refine norm_ (a' := Act.put _ (some 59) (.tuple #[.agg #[.string ⟨#[]⟩, .string ⟨#[]⟩, .string ⟨#[]⟩, .string ⟨#[]⟩, .bool false, .int .i64 0], .int .i64 100])) rfl ?_
                refine norm_ (a' := ?_) ?_ ?_
                rotate_left
                · simp only [Act.put, List.setIfInBounds_toArray, List.set_cons_zero, List.set_cons_succ]; rfl
                clear hS
                refine dpure 10 (some 49) rfl rfl (by kernel_rfl) (fun _ _ _ h => h) (by rfl) (v := ?_) (a' := ?_) ?_ ?_ ?_
                rotate_left 2
                · intro w'; go_simp; with_reducible rfl
                · simp only [Act.put, List.setIfInBounds_toArray, List.set_cons_zero, List.set_cons_succ]; rfl
                refine dpure 11 (some 60) rfl rfl (by kernel_rfl) (fun _ _ _ h => h) (by rfl) (v := ?_) (a' := ?_) ?_ ?_ ?_
                rotate_left 2
                · intro w'; go_simp; with_reducible rfl
                · simp only [Act.put, List.setIfInBounds_toArray, List.set_cons_zero, List.set_cons_succ]; rfl
                refine dpure 12 (some 61) rfl rfl (by kernel_rfl) (fun _ _ _ h => h) (by rfl) (v := ?_) (a' := ?_) ?_ ?_ ?_
                rotate_left 2
                · intro w'; go_simp; with_reducible rfl
                · simp only [Act.put, List.setIfInBounds_toArray, List.set_cons_zero, List.set_cons_succ]; rfl
                clear hb
                refine lcast (l' := #[true, true, true, true, true, true, true, true, true, true, true, true, true, true, false, false]) (by kernel_rfl) ?_
                exact JT (va, vb1, .slice An (xs ++ [x]).length cn, .slice (some ⟨gl, 0, none⟩) 1 1, qb) w6 ⟨HB6.out, HI6.out, HQ.out⟩
      · skip
        have hb := below_alloc (Below.refl w1.heap.size w1) (.cells #[.string x.n, .string x.v, .bool x.nv] 41)
        have HI2 := Aside0.mk (below_stepB HB0.out HI1.out hb)
        have HV2 := Aside0.mk (Kd.R_below HV1.out hb)
        have HU2 := Aside0.mk (show FR (w1.alloc (.cells #[.string x.n, .string x.v, .bool x.nv] 41)) B0 (.slice (some ⟨w1.heap.size, 0, none⟩) 1 1) [x] from fr_one (base := B0) w1 (below_sz HB0.out HI1.out) _)
        have HA2 := Aside0.mk (apart_lit HV1.out 1 1)
        refine event_step (by kernel_rfl) (v := .slice (some ⟨w1.heap.size, 0, none⟩) 1 1) (w1 := w1.alloc (.cells #[.string x.n, .string x.v, .bool x.nv] 41)) (by first | (go_simp; done) | (go_simp; rfl)) ?_
        refine hK _ _ (HS.out _ HI2.out) (fun hS => ?_)
        clear hK K
        refine norm_ (a' := Act.put _ (some 57) (.slice (some ⟨w1.heap.size, 0, none⟩) 1 1)) rfl ?_
        refine norm_ (a' := ?_) ?_ ?_
        rotate_left
        · simp only [Act.put, List.setIfInBounds_toArray, List.set_cons_zero, List.set_cons_succ]; rfl
        clear hS
        clear hb
        generalize w1.alloc (.cells #[.string x.n, .string x.v, .bool x.nv] 41) = w2 at *
        generalize w1.heap.size = gl at *
        refine wpAnyLast_ready (rs := [2, 13]) (by kernel_rfl) (by simp) (AllReadyL.cons rfl (by decide) (fun K hK => ?_) (AllReadyL.cons rfl (by decide) (fun K hK => ?_) AllReadyL.nil))
        · skip
          refine appF_step (w0 := w0) (base := B0) (c := cp) (some 52) rfl (by rfl) (.tmp 50) (.tmp 51) (by kernel_rfl) (by kernel_rfl) (by kernel_rfl) HV2.out (HRx.out _ HI2.out) HI2.out (below_sz HB0.out HI2.out) (by simp; omega) ?_
          intro v1 w3 ho hb hg hob
          have HI3 := Aside0.mk hb
          have HV3 := Aside0.mk (show FR w3 B0 v1 xs from ho)
          have HU3 := Aside0.mk (fr_side HU2.out HA2.out hg)
          have HA3 := Aside0.mk (HA2.out.grow HU2.out hob)
          clear ho hb hg hob
          obtain ⟨vb1, hvb⟩ : ∃ v, v1 = v := ⟨_, rfl⟩
          rw [hvb] at HV3 ⊢
          rw [hvb] at HA3
          clear hvb
          refine hK _ _ (HS.out _ HI3.out) (fun hS => ?_)
          clear hK K
          refine norm_ (a' := Act.put _ (some 52) vb1) rfl ?_
          refine norm_ (a' := ?_) ?_ ?_
          rotate_left
          · simp only [Act.put, List.setIfInBounds_toArray, List.set_cons_zero, List.set_cons_succ]; rfl
          clear hS
          refine wpAnyLast_ready (rs := [8, 13]) (by kernel_rfl) (by simp) (AllReadyL.cons rfl (by decide) (fun K hK => ?_) (AllReadyL.cons rfl (by decide) (fun K hK => ?_) AllReadyL.nil))
          · skip
            refine appF_step (w0 := w0) (base := B0) (c := 1) (some 58) rfl (by rfl) (.tmp 52) (.tmp 57) (by kernel_rfl) (by kernel_rfl) (by kernel_rfl) HV3.out (Kd.R_reads' HU3.out).2.2 HI3.out (below_sz HB0.out HI3.out) (by simp; omega) ?_
            intro v1 w4 ho hb hg hob
            have HI4 := Aside0.mk hb
            have HV4 := Aside0.mk (show FR w4 B0 v1 (xs ++ [x]) from ho)
            clear ho hb hg hob
            obtain ⟨An, cn, rfl, hlc, hrc⟩ := Kd.R_reads HV4.out
            have HW4 := Aside0.mk (show kF.C w4 An (xs ++ [x]).length (xs ++ [x]) from hrc)
            have HWl := Lib.hid (show (xs ++ [x]).length ≤ cn from hlc)
            clear hlc hrc
            refine hK _ _ (HS.out _ HI4.out) (fun hS => ?_)
            clear hK K
            refine norm_ (a' := Act.put _ (some 58) (.slice An (xs ++ [x]).length cn)) rfl ?_
            refine norm_ (a' := ?_) ?_ ?_
            rotate_left
            · simp only [Act.put, List.setIfInBounds_toArray, List.set_cons_zero, List.set_cons_succ]; rfl
            clear hS
            refine wpAnyLast_ready (rs := [9, 13]) (by kernel_rfl) (by simp) (AllReadyL.cons rfl (by decide) (fun K hK => ?_) (AllReadyL.cons rfl (by decide) (fun K hK => ?_) AllReadyL.nil))
            · skip
              refine goes_ Tryd.func9 (by kernel_rfl) rfl #[.slice An (xs ++ [x]).length cn] (by rfl) rfl rfl (by kernel_rfl) ?_
              refine (request_calls An cn (xs ++ [x]) _ HW4.out HWl.out HWf.out).mono ?_
              rw [HRq.out]
              rintro e w5 ⟨rfl, hb⟩
              refine ⟨_, rfl, ?_⟩
              have HI5 := Aside0.mk (below_stepB HB0.out HI4.out hb)
              refine hK _ _ (HS.out _ HI5.out) (fun hS => ?_)
              clear hK K
              refine norm_ (a' := Act.put _ (some 59) (.tuple #[.agg #[.string ⟨#[]⟩, .string ⟨#[]⟩, .string ⟨#[]⟩, .string ⟨#[]⟩, .bool false, .int .i64 0], .int .i64 100])) rfl ?_
              refine norm_ (a' := ?_) ?_ ?_
              rotate_left
              · simp only [Act.put, List.setIfInBounds_toArray, List.set_cons_zero, List.set_cons_succ]; rfl
              clear hS
              refine dpure 10 (some 49) rfl rfl (by kernel_rfl) (fun _ _ _ h => h) (by rfl) (v := ?_) (a' := ?_) ?_ ?_ ?_
              rotate_left 2
              · intro w'; go_simp; with_reducible rfl
              · simp only [Act.put, List.setIfInBounds_toArray, List.set_cons_zero, List.set_cons_succ]; rfl
              refine dpure 11 (some 60) rfl rfl (by kernel_rfl) (fun _ _ _ h => h) (by rfl) (v := ?_) (a' := ?_) ?_ ?_ ?_
              rotate_left 2
              · intro w'; go_simp; with_reducible rfl
              · simp only [Act.put, List.setIfInBounds_toArray, List.set_cons_zero, List.set_cons_succ]; rfl
              refine dpure 12 (some 61) rfl rfl (by kernel_rfl) (fun _ _ _ h => h) (by rfl) (v := ?_) (a' := ?_) ?_ ?_ ?_
              rotate_left 2
              · intro w'; go_simp; with_reducible rfl
              · simp only [Act.put, List.setIfInBounds_toArray, List.set_cons_zero, List.set_cons_succ]; rfl
              clear hb
              refine wpAnyLast_ready (rs := [13]) (by kernel_rfl) (by simp) (AllReadyL.cons rfl (by decide) (fun K hK => ?_) AllReadyL.nil)
              · skip
                have hb := below_alloc (Below.refl w5.heap.size w5) (.cells #[.string ⟨#[]⟩, .string ⟨#[]⟩, .string ⟨#[]⟩, .string ⟨#[]⟩, .bool false, .int .i64 0] 26 (0, 0))
                have HI6 := Aside0.mk (below_stepB HB0.out HI5.out hb)
                have HB6 := Aside0.mk (SAt.new w5 #[.string ⟨#[]⟩, .string ⟨#[]⟩, .string ⟨#[]⟩, .string ⟨#[]⟩, .bool false, .int .i64 0] 26)
                have HQ := Lib.hid ((below_sz HB0.out HI5.out))
                refine event_step (by kernel_rfl) (v := .pointer (some ⟨w5.heap.size, 0, none⟩)) (w1 := w5.alloc (.cells #[.string ⟨#[]⟩, .string ⟨#[]⟩, .string ⟨#[]⟩, .string ⟨#[]⟩, .bool false, .int .i64 0] 26 (0, 0))) (by go_simp; done) ?_
                refine hK _ _ (HS.out _ HI6.out) (fun hS => ?_)
                clear hK K
                refine norm_ (a' := Act.put _ (some 9) (.pointer (some ⟨w5.heap.size, 0, none⟩))) rfl ?_
                refine norm_ (a' := ?_) ?_ ?_
                rotate_left
                · simp only [Act.put, List.setIfInBounds_toArray, List.set_cons_zero, List.set_cons_succ]; rfl
                clear hS
                clear hb
                generalize w5.alloc (.cells #[.string ⟨#[]⟩, .string ⟨#[]⟩, .string ⟨#[]⟩, .string ⟨#[]⟩, .bool false, .int .i64 0] 26 (0, 0)) = w6 at *
                generalize w5.heap.size = qb at *
                refine lcast (l' := #[true, true, true, true, true, true, true, true, true, true, true, true, true, true, false, false]) (by kernel_rfl) ?_
                exact JT (va, vb1, .slice An (xs ++ [x]).length cn, .slice (some ⟨gl, 0, none⟩) 1 1, qb) w6 ⟨HB6.out, HI6.out, HQ.out⟩
            · skip
              have hb := below_alloc (Below.refl w4.heap.size w4) (.cells #[.string ⟨#[]⟩, .string ⟨#[]⟩, .string ⟨#[]⟩, .string ⟨#[]⟩, .bool false, .int .i64 0] 26 (0, 0))
              have HI5 := Aside0.mk (below_stepB HB0.out HI4.out hb)
              have HW5 := Aside0.mk (Kd.C_below HW4.out hb)
              have HB5 := Aside0.mk (SAt.new w4 #[.string ⟨#[]⟩, .string ⟨#[]⟩, .string ⟨#[]⟩, .string ⟨#[]⟩, .bool false, .int .i64 0] 26)
              have HQ := Lib.hid ((below_sz HB0.out HI4.out))
              refine event_step (by kernel_rfl) (v := .pointer (some ⟨w4.heap.size, 0, none⟩)) (w1 := w4.alloc (.cells #[.string ⟨#[]⟩, .string ⟨#[]⟩, .string ⟨#[]⟩, .string ⟨#[]⟩, .bool false, .int .i64 0] 26 (0, 0))) (by go_simp; done) ?_
              refine hK _ _ (HS.out _ HI5.out) (fun hS => ?_)
              clear hK K
              refine norm_ (a' := Act.put _ (some 9) (.pointer (some ⟨w4.heap.size, 0, none⟩))) rfl ?_
              refine norm_ (a' := ?_) ?_ ?_
              rotate_left
              · simp only [Act.put, List.setIfInBounds_toArray, List.set_cons_zero, List.set_cons_succ]; rfl
              clear hS
              clear hb
              generalize w4.alloc (.cells #[.string ⟨#[]⟩, .string ⟨#[]⟩, .string ⟨#[]⟩, .string ⟨#[]⟩, .bool false, .int .i64 0] 26 (0, 0)) = w5 at *
              generalize w4.heap.size = qb at *
              refine wpAnyLast_ready (rs := [9]) (by kernel_rfl) (by simp) (AllReadyL.cons rfl (by decide) (fun K hK => ?_) AllReadyL.nil)
              · skip
                refine goes_ Tryd.func9 (by kernel_rfl) rfl #[.slice An (xs ++ [x]).length cn] (by rfl) rfl rfl (by kernel_rfl) ?_
                refine (request_calls An cn (xs ++ [x]) _ HW5.out HWl.out HWf.out).mono ?_
                rw [HRq.out]
                rintro e w6 ⟨rfl, hb⟩
                refine ⟨_, rfl, ?_⟩
                have HI6 := Aside0.mk (below_stepB HB0.out HI5.out hb)
                have HB6 := Aside0.mk (HB5.out.below hb)
                refine hK _ _ (HS.out _ HI6.out) (fun hS => ?_)
                clear hK K
                refine norm_ (a' := Act.put _ (some 59) (.tuple #[.agg #[.string ⟨#[]⟩, .string ⟨#[]⟩, .string ⟨#[]⟩, .string ⟨#[]⟩, .bool false, .int .i64 0], .int .i64 100])) rfl ?_
                refine norm_ (a' := ?_) ?_ ?_
                rotate_left
                · simp only [Act.put, List.setIfInBounds_toArray, List.set_cons_zero, List.set_cons_succ]; rfl
                clear hS
                refine dpure 10 (some 49) rfl rfl (by kernel_rfl) (fun _ _ _ h => h) (by rfl) (v := ?_) (a' := ?_) ?_ ?_ ?_
                rotate_left 2
                · intro w'; go_simp; with_reducible rfl
                · simp only [Act.put, List.setIfInBounds_toArray, List.set_cons_zero, List.set_cons_succ]; rfl
                refine dpure 11 (some 60) rfl rfl (by kernel_rfl) (fun _ _ _ h => h) (by rfl) (v := ?_) (a' := ?_) ?_ ?_ ?_
                rotate_left 2
                · intro w'; go_simp; with_reducible rfl
                · simp only [Act.put, List.setIfInBounds_toArray, List.set_cons_zero, List.set_cons_succ]; rfl
                refine dpure 12 (some 61) rfl rfl (by kernel_rfl) (fun _ _ _ h => h) (by rfl) (v := ?_) (a' := ?_) ?_ ?_ ?_
                rotate_left 2
                · intro w'; go_simp; with_reducible rfl
                · simp only [Act.put, List.setIfInBounds_toArray, List.set_cons_zero, List.set_cons_succ]; rfl
                clear hb
                refine lcast (l' := #[true, true, true, true, true, true, true, true, true, true, true, true, true, true, false, false]) (by kernel_rfl) ?_
                exact JT (va, vb1, .slice An (xs ++ [x]).length cn, .slice (some ⟨gl, 0, none⟩) 1 1, qb) w6 ⟨HB6.out, HI6.out, HQ.out⟩
          · skip
            have hb := below_alloc (Below.refl w3.heap.size w3) (.cells #[.string ⟨#[]⟩, .string ⟨#[]⟩, .string ⟨#[]⟩, .string ⟨#[]⟩, .bool false, .int .i64 0] 26 (0, 0))
            have HI4 := Aside0.mk (below_stepB HB0.out HI3.out hb)
            have HV4 := Aside0.mk (Kd.R_below HV3.out hb)
            have HU4 := Aside0.mk (Kd.R_below HU3.out hb)
            have HA4 := HA3
            have HB4 := Aside0.mk (SAt.new w3 #[.string ⟨#[]⟩, .string ⟨#[]⟩, .string ⟨#[]⟩, .string ⟨#[]⟩, .bool false, .int .i64 0] 26)
            have HQ := Lib.hid ((below_sz HB0.out HI3.out))
            refine event_step (by kernel_rfl) (v := .pointer (some ⟨w3.heap.size, 0, none⟩)) (w1 := w3.alloc (.cells #[.string ⟨#[]⟩, .string ⟨#[]⟩, .string ⟨#[]⟩, .string ⟨#[]⟩, .bool false, .int .i64 0] 26 (0, 0))) (by go_simp; done) ?_
            refine hK _ _ (HS.out _ HI4.out) (fun hS => ?_)
            clear hK K
            refine norm_ (a' := Act.put _ (some 9) (.pointer (some ⟨w3.heap.size, 0, none⟩))) rfl ?_
            refine norm_ (a' := ?_) ?_ ?_
            rotate_left
            · simp only [Act.put, List.setIfInBounds_toArray, List.set_cons_zero, List.set_cons_succ]; rfl
            clear hS
            clear hb
            generalize w3.alloc (.cells #[.string ⟨#[]⟩, .string ⟨#[]⟩, .string ⟨#[]⟩, .string ⟨#[]⟩, .bool false, .int .i64 0] 26 (0, 0)) = w4 at *
            generalize w3.heap.size = qb at *
            refine wpAnyLast_ready (rs := [8]) (by kernel_rfl) (by simp) (AllReadyL.cons rfl (by decide) (fun K hK => ?_) AllReadyL.nil)
            · skip
              refine appF_step (w0 := w0) (base := B0) (c := 1) (some 58) rfl (by rfl) (.tmp 52) (.tmp 57) (by kernel_rfl) (by kernel_rfl) (by kernel_rfl) HV4.out (Kd.R_reads' HU4.out).2.2 HI4.out (below_sz HB0.out HI4.out) (by simp; omega) ?_
              intro v1 w5 ho hb hg hob
              have HI5 := Aside0.mk hb
              have HV5 := Aside0.mk (show FR w5 B0 v1 (xs ++ [x]) from ho)
              have HB5 := Aside0.mk (HB4.out.beside HV4.out (by decide) hg)
              clear ho hb hg hob
              obtain ⟨An, cn, rfl, hlc, hrc⟩ := Kd.R_reads HV5.out
              have HW5 := Aside0.mk (show kF.C w5 An (xs ++ [x]).length (xs ++ [x]) from hrc)
              have HWl := Lib.hid (show (xs ++ [x]).length ≤ cn from hlc)
              clear hlc hrc
              refine hK _ _ (HS.out _ HI5.out) (fun hS => ?_)
              clear hK K
              refine norm_ (a' := Act.put _ (some 58) (.slice An (xs ++ [x]).length cn)) rfl ?_
              refine norm_ (a' := ?_) ?_ ?_
              rotate_left
              · simp only [Act.put, List.setIfInBounds_toArray, List.set_cons_zero, List.set_cons_succ]; rfl
              clear hS
              refine wpAnyLast_ready (rs := [9]) (by kernel_rfl) (by simp) (AllReadyL.cons rfl (by decide) (fun K hK => ?_) AllReadyL.nil)
              · skip
                refine goes_ Tryd.func9 (by kernel_rfl) rfl #[.slice An (xs ++ [x]).length cn] (by rfl) rfl rfl (by kernel_rfl) ?_
                refine (request_calls An cn (xs ++ [x]) _ HW5.out HWl.out HWf.out).mono ?_
                rw [HRq.out]
                rintro e w6 ⟨rfl, hb⟩
                refine ⟨_, rfl, ?_⟩
                have HI6 := Aside0.mk (below_stepB HB0.out HI5.out hb)
                have HB6 := Aside0.mk (HB5.out.below hb)
                refine hK _ _ (HS.out _ HI6.out) (fun hS => ?_)
                clear hK K
                refine norm_ (a' := Act.put _ (some 59) (.tuple #[.agg #[.string ⟨#[]⟩, .string ⟨#[]⟩, .string ⟨#[]⟩, .string ⟨#[]⟩, .bool false, .int .i64 0], .int .i64 100])) rfl ?_
                refine norm_ (a' := ?_) ?_ ?_
                rotate_left
                · simp only [Act.put, List.setIfInBounds_toArray, List.set_cons_zero, List.set_cons_succ]; rfl
                clear hS
                refine dpure 10 (some 49) rfl rfl (by kernel_rfl) (fun _ _ _ h => h) (by rfl) (v := ?_) (a' := ?_) ?_ ?_ ?_
                rotate_left 2
                · intro w'; go_simp; with_reducible rfl
                · simp only [Act.put, List.setIfInBounds_toArray, List.set_cons_zero, List.set_cons_succ]; rfl
                refine dpure 11 (some 60) rfl rfl (by kernel_rfl) (fun _ _ _ h => h) (by rfl) (v := ?_) (a' := ?_) ?_ ?_ ?_
                rotate_left 2
                · intro w'; go_simp; with_reducible rfl
                · simp only [Act.put, List.setIfInBounds_toArray, List.set_cons_zero, List.set_cons_succ]; rfl
                refine dpure 12 (some 61) rfl rfl (by kernel_rfl) (fun _ _ _ h => h) (by rfl) (v := ?_) (a' := ?_) ?_ ?_ ?_
                rotate_left 2
                · intro w'; go_simp; with_reducible rfl
                · simp only [Act.put, List.setIfInBounds_toArray, List.set_cons_zero, List.set_cons_succ]; rfl
                clear hb
                refine lcast (l' := #[true, true, true, true, true, true, true, true, true, true, true, true, true, true, false, false]) (by kernel_rfl) ?_
                exact JT (va, vb1, .slice An (xs ++ [x]).length cn, .slice (some ⟨gl, 0, none⟩) 1 1, qb) w6 ⟨HB6.out, HI6.out, HQ.out⟩
        · skip
          have hb := below_alloc (Below.refl w2.heap.size w2) (.cells #[.string ⟨#[]⟩, .string ⟨#[]⟩, .string ⟨#[]⟩, .string ⟨#[]⟩, .bool false, .int .i64 0] 26 (0, 0))
          have HI3 := Aside0.mk (below_stepB HB0.out HI2.out hb)
          have HV3 := Aside0.mk (Kd.R_below HV2.out hb)
          have HU3 := Aside0.mk (Kd.R_below HU2.out hb)
          have HA3 := HA2
          have HB3 := Aside0.mk (SAt.new w2 #[.string ⟨#[]⟩, .string ⟨#[]⟩, .string ⟨#[]⟩, .string ⟨#[]⟩, .bool false, .int .i64 0] 26)
          have HQ := Lib.hid ((below_sz HB0.out HI2.out))
          refine event_step (by kernel_rfl) (v := .pointer (some ⟨w2.heap.size, 0, none⟩)) (w1 := w2.alloc (.cells #[.string ⟨#[]⟩, .string ⟨#[]⟩, .string ⟨#[]⟩, .string ⟨#[]⟩, .bool false, .int .i64 0] 26 (0, 0))) (by go_simp; done) ?_
          refine hK _ _ (HS.out _ HI3.out) (fun hS => ?_)
          clear hK K
          refine norm_ (a' := Act.put _ (some 9) (.pointer (some ⟨w2.heap.size, 0, none⟩))) rfl ?_
          refine norm_ (a' := ?_) ?_ ?_
          rotate_left
          · simp only [Act.put, List.setIfInBounds_toArray, List.set_cons_zero, List.set_cons_succ]; rfl
          clear hS
          clear hb
          generalize w2.alloc (.cells #[.string ⟨#[]⟩, .string ⟨#[]⟩, .string ⟨#[]⟩, .string ⟨#[]⟩, .bool false, .int .i64 0] 26 (0, 0)) = w3 at *
          generalize w2.heap.size = qb at *
          refine wpAnyLast_ready (rs := [2]) (by kernel_rfl) (by simp) (AllReadyL.cons rfl (by decide) (fun K hK => ?_) AllReadyL.nil)
          · skip
            refine appF_step (w0 := w0) (base := B0) (c := cp) (some 52) rfl (by rfl) (.tmp 50) (.tmp 51) (by kernel_rfl) (by kernel_rfl) (by kernel_rfl) HV3.out (HRx.out _ HI3.out) HI3.out (below_sz HB0.out HI3.out) (by simp; omega) ?_
            intro v1 w4 ho hb hg hob
            have HI4 := Aside0.mk hb
            have HV4 := Aside0.mk (show FR w4 B0 v1 xs from ho)
            have HU4 := Aside0.mk (fr_side HU3.out HA3.out hg)
            have HA4 := Aside0.mk (HA3.out.grow HU3.out hob)
            have HB4 := Aside0.mk (HB3.out.beside HV3.out (by decide) hg)
            clear ho hb hg hob
            obtain ⟨vb1, hvb⟩ : ∃ v, v1 = v := ⟨_, rfl⟩
            rw [hvb] at HV4 ⊢
            rw [hvb] at HA4
            clear hvb
            refine hK _ _ (HS.out _ HI4.out) (fun hS => ?_)
            clear hK K
            refine norm_ (a' := Act.put _ (some 52) vb1) rfl ?_
            refine norm_ (a' := ?_) ?_ ?_
            rotate_left
            · simp only [Act.put, List.setIfInBounds_toArray, List.set_cons_zero, List.set_cons_succ]; rfl
            clear hS
            refine wpAnyLast_ready (rs := [8]) (by kernel_rfl) (by simp) (AllReadyL.cons rfl (by decide) (fun K hK => ?_) AllReadyL.nil)
            · skip
              refine appF_step (w0 := w0) (base := B0) (c := 1) (some 58) rfl (by rfl) (.tmp 52) (.tmp 57) (by kernel_rfl) (by kernel_rfl) (by kernel_rfl) HV4.out (Kd.R_reads' HU4.out).2.2 HI4.out (below_sz HB0.out HI4.out) (by simp; omega) ?_
              intro v1 w5 ho hb hg hob
              have HI5 := Aside0.mk hb
              have HV5 := Aside0.mk (show FR w5 B0 v1 (xs ++ [x]) from ho)
              have HB5 := Aside0.mk (HB4.out.beside HV4.out (by decide) hg)
              clear ho hb hg hob
              obtain ⟨An, cn, rfl, hlc, hrc⟩ := Kd.R_reads HV5.out
              have HW5 := Aside0.mk (show kF.C w5 An (xs ++ [x]).length (xs ++ [x]) from hrc)
              have HWl := Lib.hid (show (xs ++ [x]).length ≤ cn from hlc)
              clear hlc hrc
              refine hK _ _ (HS.out _ HI5.out) (fun hS => ?_)
              clear hK K
              refine norm_ (a' := Act.put _ (some 58) (.slice An (xs ++ [x]).length cn)) rfl ?_
              refine norm_ (a' := ?_) ?_ ?_
              rotate_left
              · simp only [Act.put, List.setIfInBounds_toArray, List.set_cons_zero, List.set_cons_succ]; rfl
              clear hS
              refine wpAnyLast_ready (rs := [9]) (by kernel_rfl) (by simp) (AllReadyL.cons rfl (by decide) (fun K hK => ?_) AllReadyL.nil)
              · skip
                refine goes_ Tryd.func9 (by kernel_rfl) rfl #[.slice An (xs ++ [x]).length cn] (by rfl) rfl rfl (by kernel_rfl) ?_
                refine (request_calls An cn (xs ++ [x]) _ HW5.out HWl.out HWf.out).mono ?_
                rw [HRq.out]
                rintro e w6 ⟨rfl, hb⟩
                refine ⟨_, rfl, ?_⟩
                have HI6 := Aside0.mk (below_stepB HB0.out HI5.out hb)
                have HB6 := Aside0.mk (HB5.out.below hb)
                refine hK _ _ (HS.out _ HI6.out) (fun hS => ?_)
                clear hK K
                refine norm_ (a' := Act.put _ (some 59) (.tuple #[.agg #[.string ⟨#[]⟩, .string ⟨#[]⟩, .string ⟨#[]⟩, .string ⟨#[]⟩, .bool false, .int .i64 0], .int .i64 100])) rfl ?_
                refine norm_ (a' := ?_) ?_ ?_
                rotate_left
                · simp only [Act.put, List.setIfInBounds_toArray, List.set_cons_zero, List.set_cons_succ]; rfl
                clear hS
                refine dpure 10 (some 49) rfl rfl (by kernel_rfl) (fun _ _ _ h => h) (by rfl) (v := ?_) (a' := ?_) ?_ ?_ ?_
                rotate_left 2
                · intro w'; go_simp; with_reducible rfl
                · simp only [Act.put, List.setIfInBounds_toArray, List.set_cons_zero, List.set_cons_succ]; rfl
                refine dpure 11 (some 60) rfl rfl (by kernel_rfl) (fun _ _ _ h => h) (by rfl) (v := ?_) (a' := ?_) ?_ ?_ ?_
                rotate_left 2
                · intro w'; go_simp; with_reducible rfl
                · simp only [Act.put, List.setIfInBounds_toArray, List.set_cons_zero, List.set_cons_succ]; rfl
                refine dpure 12 (some 61) rfl rfl (by kernel_rfl) (fun _ _ _ h => h) (by rfl) (v := ?_) (a' := ?_) ?_ ?_ ?_
                rotate_left 2
                · intro w'; go_simp; with_reducible rfl
                · simp only [Act.put, List.setIfInBounds_toArray, List.set_cons_zero, List.set_cons_succ]; rfl
                clear hb
                refine lcast (l' := #[true, true, true, true, true, true, true, true, true, true, true, true, true, true, false, false]) (by kernel_rfl) ?_
                exact JT (va, vb1, .slice An (xs ++ [x]).length cn, .slice (some ⟨gl, 0, none⟩) 1 1, qb) w6 ⟨HB6.out, HI6.out, HQ.out⟩
      · skip
        have hb := below_alloc (Below.refl w1.heap.size w1) (.cells #[.string ⟨#[]⟩, .string ⟨#[]⟩, .string ⟨#[]⟩, .string ⟨#[]⟩, .bool false, .int .i64 0] 26 (0, 0))
        have HI2 := Aside0.mk (below_stepB HB0.out HI1.out hb)
        have HV2 := Aside0.mk (Kd.R_below HV1.out hb)
        have HB2 := Aside0.mk (SAt.new w1 #[.string ⟨#[]⟩, .string ⟨#[]⟩, .string ⟨#[]⟩, .string ⟨#[]⟩, .bool false, .int .i64 0] 26)
        have HQ := Lib.hid ((below_sz HB0.out HI1.out))
        refine event_step (by kernel_rfl) (v := .pointer (some ⟨w1.heap.size, 0, none⟩)) (w1 := w1.alloc (.cells #[.string ⟨#[]⟩, .string ⟨#[]⟩, .string ⟨#[]⟩, .string ⟨#[]⟩, .bool false, .int .i64 0] 26 (0, 0))) (by go_simp; done) ?_
        refine hK _ _ (HS.out _ HI2.out) (fun hS => ?_)
        clear hK K
        refine norm_ (a' := Act.put _ (some 9) (.pointer (some ⟨w1.heap.size, 0, none⟩))) rfl ?_
        refine norm_ (a' := ?_) ?_ ?_
        rotate_left
        · simp only [Act.put, List.setIfInBounds_toArray, List.set_cons_zero, List.set_cons_succ]; rfl
        clear hS
        clear hb
        generalize w1.alloc (.cells #[.string ⟨#[]⟩, .string ⟨#[]⟩, .string ⟨#[]⟩, .string ⟨#[]⟩, .bool false, .int .i64 0] 26 (0, 0)) = w2 at *
        generalize w1.heap.size = qb at *
        refine wpAnyLast_ready (rs := [2, 7]) (by kernel_rfl) (by simp) (AllReadyL.cons rfl (by decide) (fun K hK => ?_) (AllReadyL.cons rfl (by decide) (fun K hK => ?_) AllReadyL.nil))
        · skip
          refine appF_step (w0 := w0) (base := B0) (c := cp) (some 52) rfl (by rfl) (.tmp 50) (.tmp 51) (by kernel_rfl) (by kernel_rfl) (by kernel_rfl) HV2.out (HRx.out _ HI2.out) HI2.out (below_sz HB0.out HI2.out) (by simp; omega) ?_
          intro v1 w3 ho hb hg hob
          have HI3 := Aside0.mk hb
          have HV3 := Aside0.mk (show FR w3 B0 v1 xs from ho)
          have HB3 := Aside0.mk (HB2.out.beside HV2.out (by decide) hg)
          clear ho hb hg hob
          obtain ⟨vb1, hvb⟩ : ∃ v, v1 = v := ⟨_, rfl⟩
          rw [hvb] at HV3 ⊢
          clear hvb
          refine hK _ _ (HS.out _ HI3.out) (fun hS => ?_)
          clear hK K
          refine norm_ (a' := Act.put _ (some 52) vb1) rfl ?_
          refine norm_ (a' := ?_) ?_ ?_
          rotate_left
          · simp only [Act.put, List.setIfInBounds_toArray, List.set_cons_zero, List.set_cons_succ]; rfl
          clear hS
          refine wpAnyLast_ready (rs := [7]) (by kernel_rfl) (by simp) (AllReadyL.cons rfl (by decide) (fun K hK => ?_) AllReadyL.nil)
          · skip
            have hb := below_alloc (Below.refl w3.heap.size w3) (.cells #[.string x.n, .string x.v, .bool x.nv] 41)
            have HI4 := Aside0.mk (below_stepB HB0.out HI3.out hb)
            have HV4 := Aside0.mk (Kd.R_below HV3.out hb)
            have HB4 := Aside0.mk (HB3.out.below hb)
            have HU4 := Aside0.mk (show FR (w3.alloc (.cells #[.string x.n, .string x.v, .bool x.nv] 41)) B0 (.slice (some ⟨w3.heap.size, 0, none⟩) 1 1) [x] from fr_one (base := B0) w3 (below_sz HB0.out HI3.out) _)
            have HA4 := Aside0.mk (apart_lit HV3.out 1 1)
            refine event_step (by kernel_rfl) (v := .slice (some ⟨w3.heap.size, 0, none⟩) 1 1) (w1 := w3.alloc (.cells #[.string x.n, .string x.v, .bool x.nv] 41)) (by first | (go_simp; done) | (go_simp; rfl)) ?_
            refine hK _ _ (HS.out _ HI4.out) (fun hS => ?_)
            clear hK K
            refine norm_ (a' := Act.put _ (some 57) (.slice (some ⟨w3.heap.size, 0, none⟩) 1 1)) rfl ?_
            refine norm_ (a' := ?_) ?_ ?_
            rotate_left
            · simp only [Act.put, List.setIfInBounds_toArray, List.set_cons_zero, List.set_cons_succ]; rfl
            clear hS
            clear hb
            generalize w3.alloc (.cells #[.string x.n, .string x.v, .bool x.nv] 41) = w4 at *
            generalize w3.heap.size = gl at *
            refine wpAnyLast_ready (rs := [8]) (by kernel_rfl) (by simp) (AllReadyL.cons rfl (by decide) (fun K hK => ?_) AllReadyL.nil)
            · skip
              refine appF_step (w0 := w0) (base := B0) (c := 1) (some 58) rfl (by rfl) (.tmp 52) (.tmp 57) (by kernel_rfl) (by kernel_rfl) (by kernel_rfl) HV4.out (Kd.R_reads' HU4.out).2.2 HI4.out (below_sz HB0.out HI4.out) (by simp; omega) ?_
              intro v1 w5 ho hb hg hob
              have HI5 := Aside0.mk hb
              have HV5 := Aside0.mk (show FR w5 B0 v1 (xs ++ [x]) from ho)
              have HB5 := Aside0.mk (HB4.out.beside HV4.out (by decide) hg)
              clear ho hb hg hob
              obtain ⟨An, cn, rfl, hlc, hrc⟩ := Kd.R_reads HV5.out
              have HW5 := Aside0.mk (show kF.C w5 An (xs ++ [x]).length (xs ++ [x]) from hrc)
              have HWl := Lib.hid (show (xs ++ [x]).length ≤ cn from hlc)
              clear hlc hrc
              refine hK _ _ (HS.out _ HI5.out) (fun hS => ?_)
              clear hK K
              refine norm_ (a' := Act.put _ (some 58) (.slice An (xs ++ [x]).length cn)) rfl ?_
              refine norm_ (a' := ?_) ?_ ?_
              rotate_left
              · simp only [Act.put, List.setIfInBounds_toArray, List.set_cons_zero, List.set_cons_succ]; rfl
              clear hS
              refine wpAnyLast_ready (rs := [9]) (by kernel_rfl) (by simp) (AllReadyL.cons rfl (by decide) (fun K hK => ?_) AllReadyL.nil)
              · skip
                refine goes_ Tryd.func9 (by kernel_rfl) rfl #[.slice An (xs ++ [x]).length cn] (by rfl) rfl rfl (by kernel_rfl) ?_
                refine (request_calls An cn (xs ++ [x]) _ HW5.out HWl.out HWf.out).mono ?_
                rw [HRq.out]
                rintro e w6 ⟨rfl, hb⟩
                refine ⟨_, rfl, ?_⟩
                have HI6 := Aside0.mk (below_stepB HB0.out HI5.out hb)
                have HB6 := Aside0.mk (HB5.out.below hb)
                refine hK _ _ (HS.out _ HI6.out) (fun hS => ?_)
                clear hK K
                refine norm_ (a' := Act.put _ (some 59) (.tuple #[.agg #[.string ⟨#[]⟩, .string ⟨#[]⟩, .string ⟨#[]⟩, .string ⟨#[]⟩, .bool false, .int .i64 0], .int .i64 100])) rfl ?_
                refine norm_ (a' := ?_) ?_ ?_
                rotate_left
                · simp only [Act.put, List.setIfInBounds_toArray, List.set_cons_zero, List.set_cons_succ]; rfl
                clear hS
                refine dpure 10 (some 49) rfl rfl (by kernel_rfl) (fun _ _ _ h => h) (by rfl) (v := ?_) (a' := ?_) ?_ ?_ ?_
                rotate_left 2
                · intro w'; go_simp; with_reducible rfl
                · simp only [Act.put, List.setIfInBounds_toArray, List.set_cons_zero, List.set_cons_succ]; rfl
                refine dpure 11 (some 60) rfl rfl (by kernel_rfl) (fun _ _ _ h => h) (by rfl) (v := ?_) (a' := ?_) ?_ ?_ ?_
                rotate_left 2
                · intro w'; go_simp; with_reducible rfl
                · simp only [Act.put, List.setIfInBounds_toArray, List.set_cons_zero, List.set_cons_succ]; rfl
                refine dpure 12 (some 61) rfl rfl (by kernel_rfl) (fun _ _ _ h => h) (by rfl) (v := ?_) (a' := ?_) ?_ ?_ ?_
                rotate_left 2
                · intro w'; go_simp; with_reducible rfl
                · simp only [Act.put, List.setIfInBounds_toArray, List.set_cons_zero, List.set_cons_succ]; rfl
                clear hb
                refine lcast (l' := #[true, true, true, true, true, true, true, true, true, true, true, true, true, true, false, false]) (by kernel_rfl) ?_
                exact JT (va, vb1, .slice An (xs ++ [x]).length cn, .slice (some ⟨gl, 0, none⟩) 1 1, qb) w6 ⟨HB6.out, HI6.out, HQ.out⟩
        · skip
          have hb := below_alloc (Below.refl w2.heap.size w2) (.cells #[.string x.n, .string x.v, .bool x.nv] 41)
          have HI3 := Aside0.mk (below_stepB HB0.out HI2.out hb)
          have HV3 := Aside0.mk (Kd.R_below HV2.out hb)
          have HB3 := Aside0.mk (HB2.out.below hb)
          have HU3 := Aside0.mk (show FR (w2.alloc (.cells #[.string x.n, .string x.v, .bool x.nv] 41)) B0 (.slice (some ⟨w2.heap.size, 0, none⟩) 1 1) [x] from fr_one (base := B0) w2 (below_sz HB0.out HI2.out) _)
          have HA3 := Aside0.mk (apart_lit HV2.out 1 1)
          refine event_step (by kernel_rfl) (v := .slice (some ⟨w2.heap.size, 0, none⟩) 1 1) (w1 := w2.alloc (.cells #[.string x.n, .string x.v, .bool x.nv] 41)) (by first | (go_simp; done) | (go_simp; rfl)) ?_
          refine hK _ _ (HS.out _ HI3.out) (fun hS => ?_)
          clear hK K
          refine norm_ (a' := Act.put _ (some 57) (.slice (some ⟨w2.heap.size, 0, none⟩) 1 1)) rfl ?_
          refine norm_ (a' := ?_) ?_ ?_
          rotate_left
          · simp only [Act.put, List.setIfInBounds_toArray, List.set_cons_zero, List.set_cons_succ]; rfl
          clear hS
          clear hb
          generalize w2.alloc (.cells #[.string x.n, .string x.v, .bool x.nv] 41) = w3 at *
          generalize w2.heap.size = gl at *
          refine wpAnyLast_ready (rs := [2]) (by kernel_rfl) (by simp) (AllReadyL.cons rfl (by decide) (fun K hK => ?_) AllReadyL.nil)
          · skip
            refine appF_step (w0 := w0) (base := B0) (c := cp) (some 52) rfl (by rfl) (.tmp 50) (.tmp 51) (by kernel_rfl) (by kernel_rfl) (by kernel_rfl) HV3.out (HRx.out _ HI3.out) HI3.out (below_sz HB0.out HI3.out) (by simp; omega) ?_
            intro v1 w4 ho hb hg hob
            have HI4 := Aside0.mk hb
            have HV4 := Aside0.mk (show FR w4 B0 v1 xs from ho)
            have HU4 := Aside0.mk (fr_side HU3.out HA3.out hg)
            have HA4 := Aside0.mk (HA3.out.grow HU3.out hob)
            have HB4 := Aside0.mk (HB3.out.beside HV3.out (by decide) hg)
            clear ho hb hg hob
            obtain ⟨vb1, hvb⟩ : ∃ v, v1 = v := ⟨_, rfl⟩
            rw [hvb] at HV4 ⊢
            rw [hvb] at HA4
            clear hvb
            refine hK _ _ (HS.out _ HI4.out) (fun hS => ?_)
            clear hK K
            refine norm_ (a' := Act.put _ (some 52) vb1) rfl ?_
            refine norm_ (a' := ?_) ?_ ?_
            rotate_left
            · simp only [Act.put, List.setIfInBounds_toArray, List.set_cons_zero, List.set_cons_succ]; rfl
            clear hS
            refine wpAnyLast_ready (rs := [8]) (by kernel_rfl) (by simp) (AllReadyL.cons rfl (by decide) (fun K hK => ?_) AllReadyL.nil)
            · skip
              refine appF_step (w0 := w0) (base := B0) (c := 1) (some 58) rfl (by rfl) (.tmp 52) (.tmp 57) (by kernel_rfl) (by kernel_rfl) (by kernel_rfl) HV4.out (Kd.R_reads' HU4.out).2.2 HI4.out (below_sz HB0.out HI4.out) (by simp; omega) ?_
              intro v1 w5 ho hb hg hob
              have HI5 := Aside0.mk hb
              have HV5 := Aside0.mk (show FR w5 B0 v1 (xs ++ [x]) from ho)
              have HB5 := Aside0.mk (HB4.out.beside HV4.out (by decide) hg)
              clear ho hb hg hob
              obtain ⟨An, cn, rfl, hlc, hrc⟩ := Kd.R_reads HV5.out
              have HW5 := Aside0.mk (show kF.C w5 An (xs ++ [x]).length (xs ++ [x]) from hrc)
              have HWl := Lib.hid (show (xs ++ [x]).length ≤ cn from hlc)
              clear hlc hrc
              refine hK _ _ (HS.out _ HI5.out) (fun hS => ?_)
              clear hK K
              refine norm_ (a' := Act.put _ (some 58) (.slice An (xs ++ [x]).length cn)) rfl ?_
              refine norm_ (a' := ?_) ?_ ?_
              rotate_left
              · simp only [Act.put, List.setIfInBounds_toArray, List.set_cons_zero, List.set_cons_succ]; rfl
              clear hS
              refine wpAnyLast_ready (rs := [9]) (by kernel_rfl) (by simp) (AllReadyL.cons rfl (by decide) (fun K hK => ?_) AllReadyL.nil)
              · skip
                refine goes_ Tryd.func9 (by kernel_rfl) rfl #[.slice An (xs ++ [x]).length cn] (by rfl) rfl rfl (by kernel_rfl) ?_
                refine (request_calls An cn (xs ++ [x]) _ HW5.out HWl.out HWf.out).mono ?_
                rw [HRq.out]
                rintro e w6 ⟨rfl, hb⟩
                refine ⟨_, rfl, ?_⟩
                have HI6 := Aside0.mk (below_stepB HB0.out HI5.out hb)
                have HB6 := Aside0.mk (HB5.out.below hb)
                refine hK _ _ (HS.out _ HI6.out) (fun hS => ?_)
                clear hK K
                refine norm_ (a' := Act.put _ (some 59) (.tuple #[.agg #[.string ⟨#[]⟩, .string ⟨#[]⟩, .string ⟨#[]⟩, .string ⟨#[]⟩, .bool false, .int .i64 0], .int .i64 100])) rfl ?_
                refine norm_ (a' := ?_) ?_ ?_
                rotate_left
                · simp only [Act.put, List.setIfInBounds_toArray, List.set_cons_zero, List.set_cons_succ]; rfl
                clear hS
                refine dpure 10 (some 49) rfl rfl (by kernel_rfl) (fun _ _ _ h => h) (by rfl) (v := ?_) (a' := ?_) ?_ ?_ ?_
                rotate_left 2
                · intro w'; go_simp; with_reducible rfl
                · simp only [Act.put, List.setIfInBounds_toArray, List.set_cons_zero, List.set_cons_succ]; rfl
                refine dpure 11 (some 60) rfl rfl (by kernel_rfl) (fun _ _ _ h => h) (by rfl) (v := ?_) (a' := ?_) ?_ ?_ ?_
                rotate_left 2
                · intro w'; go_simp; with_reducible rfl
                · simp only [Act.put, List.setIfInBounds_toArray, List.set_cons_zero, List.set_cons_succ]; rfl
                refine dpure 12 (some 61) rfl rfl (by kernel_rfl) (fun _ _ _ h => h) (by rfl) (v := ?_) (a' := ?_) ?_ ?_ ?_
                rotate_left 2
                · intro w'; go_simp; with_reducible rfl
                · simp only [Act.put, List.setIfInBounds_toArray, List.set_cons_zero, List.set_cons_succ]; rfl
                clear hb
                refine lcast (l' := #[true, true, true, true, true, true, true, true, true, true, true, true, true, true, false, false]) (by kernel_rfl) ?_
                exact JT (va, vb1, .slice An (xs ++ [x]).length cn, .slice (some ⟨gl, 0, none⟩) 1 1, qb) w6 ⟨HB6.out, HI6.out, HQ.out⟩
    · skip
      have hb := below_alloc (Below.refl w0.heap.size w0) (.cells #[.string x.n, .string x.v, .bool x.nv] 41)
      have HI1 := Aside0.mk (below_stepB HB0.out HI0.out hb)
      have HU1 := Aside0.mk (show FR (w0.alloc (.cells #[.string x.n, .string x.v, .bool x.nv] 41)) B0 (.slice (some ⟨w0.heap.size, 0, none⟩) 1 1) [x] from fr_one (base := B0) w0 (below_sz HB0.out HI0.out) _)
      refine event_step (by kernel_rfl) (v := .slice (some ⟨w0.heap.size, 0, none⟩) 1 1) (w1 := w0.alloc (.cells #[.string x.n, .string x.v, .bool x.nv] 41)) (by first | (go_simp; done) | (go_simp; rfl)) ?_
      refine hK _ _ (HS.out _ HI1.out) (fun hS => ?_)
      clear hK K
      refine norm_ (a' := Act.put _ (some 57) (.slice (some ⟨w0.heap.size, 0, none⟩) 1 1)) rfl ?_
      refine norm_ (a' := ?_) ?_ ?_
      rotate_left
      · simp only [Act.put, List.setIfInBounds_toArray, List.set_cons_zero, List.set_cons_succ]; rfl
      clear hS
      clear hb
      generalize w0.alloc (.cells #[.string x.n, .string x.v, .bool x.nv] 41) = w1 at *
      generalize w0.heap.size = gl at *
      refine wpAnyLast_ready (rs := [0, 13]) (by kernel_rfl) (by simp) (AllReadyL.cons rfl (by decide) (fun K hK => ?_) (AllReadyL.cons rfl (by decide) (fun K hK => ?_) AllReadyL.nil))
      · skip
        have hb := below_alloc (Below.refl w1.heap.size w1) (.cells #[] 41)
        have HI2 := Aside0.mk (below_stepB HB0.out HI1.out hb)
        have HU2 := Aside0.mk (Kd.R_below HU1.out hb)
        have HV2 := Aside0.mk (fr_nil (base := B0) w1 (below_sz HB0.out HI1.out))
        have HA2 := Aside0.mk (apart_nil HU1.out 0 0)
        refine event_step (by kernel_rfl) (v := .slice (some ⟨w1.heap.size, 0, none⟩) 0 0) (w1 := w1.alloc (.cells #[] 41)) (by go_simp; done) ?_
        refine hK _ _ (HS.out _ HI2.out) (fun hS => ?_)
        clear hK K
        refine norm_ (a' := Act.put _ (some 50) (.slice (some ⟨w1.heap.size, 0, none⟩) 0 0)) rfl ?_
        refine norm_ (a' := ?_) ?_ ?_
        rotate_left
        · simp only [Act.put, List.setIfInBounds_toArray, List.set_cons_zero, List.set_cons_succ]; rfl
        clear hS
        clear hb
        generalize w1.alloc (.cells #[] 41) = w2 at *
        generalize Value.slice (some ⟨w1.heap.size, 0, none⟩) 0 0 = va at *
        refine wpAnyLast_ready (rs := [2, 13]) (by kernel_rfl) (by simp) (AllReadyL.cons rfl (by decide) (fun K hK => ?_) (AllReadyL.cons rfl (by decide) (fun K hK => ?_) AllReadyL.nil))
        · skip
          refine appF_step (w0 := w0) (base := B0) (c := cp) (some 52) rfl (by rfl) (.tmp 50) (.tmp 51) (by kernel_rfl) (by kernel_rfl) (by kernel_rfl) HV2.out (HRx.out _ HI2.out) HI2.out (below_sz HB0.out HI2.out) (by simp; omega) ?_
          intro v1 w3 ho hb hg hob
          have HI3 := Aside0.mk hb
          have HV3 := Aside0.mk (show FR w3 B0 v1 xs from ho)
          have HU3 := Aside0.mk (fr_side HU2.out HA2.out hg)
          have HA3 := Aside0.mk (HA2.out.grow HU2.out hob)
          clear ho hb hg hob
          obtain ⟨vb1, hvb⟩ : ∃ v, v1 = v := ⟨_, rfl⟩
          rw [hvb] at HV3 ⊢
          rw [hvb] at HA3
          clear hvb
          refine hK _ _ (HS.out _ HI3.out) (fun hS => ?_)
          clear hK K
          refine norm_ (a' := Act.put _ (some 52) vb1) rfl ?_
          refine norm_ (a' := ?_) ?_ ?_
          rotate_left
          · simp only [Act.put, List.setIfInBounds_toArray, List.set_cons_zero, List.set_cons_succ]; rfl
          clear hS
          refine wpAnyLast_ready (rs := [8, 13]) (by kernel_rfl) (by simp) (AllReadyL.cons rfl (by decide) (fun K hK => ?_) (AllReadyL.cons rfl (by decide) (fun K hK => ?_) AllReadyL.nil))
          · skip
            refine appF_step (w0 := w0) (base := B0) (c := 1) (some 58) rfl (by rfl) (.tmp 52) (.tmp 57) (by kernel_rfl) (by kernel_rfl) (by kernel_rfl) HV3.out (Kd.R_reads' HU3.out).2.2 HI3.out (below_sz HB0.out HI3.out) (by simp; omega) ?_
            intro v1 w4 ho hb hg hob
            have HI4 := Aside0.mk hb
            have HV4 := Aside0.mk (show FR w4 B0 v1 (xs ++ [x]) from ho)
            clear ho hb hg hob
            obtain ⟨An, cn, rfl, hlc, hrc⟩ := Kd.R_reads HV4.out
            have HW4 := Aside0.mk (show kF.C w4 An (xs ++ [x]).length (xs ++ [x]) from hrc)
            have HWl := Lib.hid (show (xs ++ [x]).length ≤ cn from hlc)
            clear hlc hrc
            refine hK _ _ (HS.out _ HI4.out) (fun hS => ?_)
            clear hK K
            refine norm_ (a' := Act.put _ (some 58) (.slice An (xs ++ [x]).length cn)) rfl ?_
            refine norm_ (a' := ?_) ?_ ?_
            rotate_left
            · simp only [Act.put, List.setIfInBounds_toArray, List.set_cons_zero, List.set_cons_succ]; rfl
            clear hS
            refine wpAnyLast_ready (rs := [9, 13]) (by kernel_rfl) (by simp) (AllReadyL.cons rfl (by decide) (fun K hK => ?_) (AllReadyL.cons rfl (by decide) (fun K hK => ?_) AllReadyL.nil))
            · skip
              refine goes_ Tryd.func9 (by kernel_rfl) rfl #[.slice An (xs ++ [x]).length cn] (by rfl) rfl rfl (by kernel_rfl) ?_
              refine (request_calls An cn (xs ++ [x]) _ HW4.out HWl.out HWf.out).mono ?_
              rw [HRq.out]
              rintro e w5 ⟨rfl, hb⟩
              refine ⟨_, rfl, ?_⟩
              have HI5 := Aside0.mk (below_stepB HB0.out HI4.out hb)
              refine hK _ _ (HS.out _ HI5.out) (fun hS => ?_)
              clear hK K
              refine norm_ (a' := Act.put _ (some 59) (.tuple #[.agg #[.string ⟨#[]⟩, .string ⟨#[]⟩, .string ⟨#[]⟩, .string ⟨#[]⟩, .bool false, .int .i64 0], .int .i64 100])) rfl ?_
              refine norm_ (a' := ?_) ?_ ?_
              rotate_left
              · simp only [Act.put, List.setIfInBounds_toArray, List.set_cons_zero, List.set_cons_succ]; rfl
              clear hS
              refine dpure 10 (some 49) rfl rfl (by kernel_rfl) (fun _ _ _ h => h) (by rfl) (v := ?_) (a' := ?_) ?_ ?_ ?_
              rotate_left 2
              · intro w'; go_simp; with_reducible rfl
              · simp only [Act.put, List.setIfInBounds_toArray, List.set_cons_zero, List.set_cons_succ]; rfl
              refine dpure 11 (some 60) rfl rfl (by kernel_rfl) (fun _ _ _ h => h) (by rfl) (v := ?_) (a' := ?_) ?_ ?_ ?_
              rotate_left 2
              · intro w'; go_simp; with_reducible rfl
              · simp only [Act.put, List.setIfInBounds_toArray, List.set_cons_zero, List.set_cons_succ]; rfl
              refine dpure 12 (some 61) rfl rfl (by kernel_rfl) (fun _ _ _ h => h) (by rfl) (v := ?_) (a' := ?_) ?_ ?_ ?_
              rotate_left 2
              · intro w'; go_simp; with_reducible rfl
              · simp only [Act.put, List.setIfInBounds_toArray, List.set_cons_zero, List.set_cons_succ]; rfl
              clear hb
              refine wpAnyLast_ready (rs := [13]) (by kernel_rfl) (by simp) (AllReadyL.cons rfl (by decide) (fun K hK => ?_) AllReadyL.nil)
              · skip
                have hb := below_alloc (Below.refl w5.heap.size w5) (.cells #[.string ⟨#[]⟩, .string ⟨#[]⟩, .string ⟨#[]⟩, .string ⟨#[]⟩, .bool false, .int .i64 0] 26 (0, 0))
                have HI6 := Aside0.mk (below_stepB HB0.out HI5.out hb)
                have HB6 := Aside0.mk (SAt.new w5 #[.string ⟨#[]⟩, .string ⟨#[]⟩, .string ⟨#[]⟩, .string ⟨#[]⟩, .bool false, .int .i64 0] 26)
                have HQ := Lib.hid ((below_sz HB0.out HI5.out))
                refine event_step (by kernel_rfl) (v := .pointer (some ⟨w5.heap.size, 0, none⟩)) (w1 := w5.alloc (.cells #[.string ⟨#[]⟩, .string ⟨#[]⟩, .string ⟨#[]⟩, .string ⟨#[]⟩, .bool false, .int .i64 0] 26 (0, 0))) (by go_simp; done) ?_
                refine hK _ _ (HS.out _ HI6.out) (fun hS => ?_)
                clear hK K
                refine norm_ (a' := Act.put _ (some 9) (.pointer (some ⟨w5.heap.size, 0, none⟩))) rfl ?_
                refine norm_ (a' := ?_) ?_ ?_
                rotate_left
                · simp only [Act.put, List.setIfInBounds_toArray, List.set_cons_zero, List.set_cons_succ]; rfl
                clear hS
                clear hb
                generalize w5.alloc (.cells #[.string ⟨#[]⟩, .string ⟨#[]⟩, .string ⟨#[]⟩, .string ⟨#[]⟩, .bool false, .int .i64 0] 26 (0, 0)) = w6 at *
                generalize w5.heap.size = qb at *
                refine lcast (l' := #[true, true, true, true, true, true, true, true, true, true, true, true, true, true, false, false]) (by kernel_rfl) ?_
                exact JT (va, vb1, .slice An (xs ++ [x]).length cn, .slice (some ⟨gl, 0, none⟩) 1 1, qb) w6 ⟨HB6.out, HI6.out, HQ.out⟩
            · skip
              have hb := below_alloc (Below.refl w4.heap.size w4) (.cells #[.string ⟨#[]⟩, .string ⟨#[]⟩, .string ⟨#[]⟩, .string ⟨#[]⟩, .bool false, .int .i64 0] 26 (0, 0))
              have HI5 := Aside0.mk (below_stepB HB0.out HI4.out hb)
              have HW5 := Aside0.mk (Kd.C_below HW4.out hb)
              have HB5 := Aside0.mk (SAt.new w4 #[.string ⟨#[]⟩, .string ⟨#[]⟩, .string ⟨#[]⟩, .string ⟨#[]⟩, .bool false, .int .i64 0] 26)
              have HQ := Lib.hid ((below_sz HB0.out HI4.out))
              refine event_step (by kernel_rfl) (v := .pointer (some ⟨w4.heap.size, 0, none⟩)) (w1 := w4.alloc (.cells #[.string ⟨#[]⟩, .string ⟨#[]⟩, .string ⟨#[]⟩, .string ⟨#[]⟩, .bool false, .int .i64 0] 26 (0, 0))) (by go_simp; done) ?_
              refine hK _ _ (HS.out _ HI5.out) (fun hS => ?_)
              clear hK K
              refine norm_ (a' := Act.put _ (some 9) (.pointer (some ⟨w4.heap.size, 0, none⟩))) rfl ?_
              refine norm_ (a' := ?_) ?_ ?_
              rotate_left
              · simp only [Act.put, List.setIfInBounds_toArray, List.set_cons_zero, List.set_cons_succ]; rfl
              clear hS
              clear hb
              generalize w4.alloc (.cells #[.string ⟨#[]⟩, .string ⟨#[]⟩, .string ⟨#[]⟩, .string ⟨#[]⟩, .bool false, .int .i64 0] 26 (0, 0)) = w5 at *
              generalize w4.heap.size = qb at *
              refine wpAnyLast_ready (rs := [9]) (by kernel_rfl) (by simp) (AllReadyL.cons rfl (by decide) (fun K hK => ?_) AllReadyL.nil)
              · skip
                refine goes_ Tryd.func9 (by kernel_rfl) rfl #[.slice An (xs ++ [x]).length cn] (by rfl) rfl rfl (by kernel_rfl) ?_
                refine (request_calls An cn (xs ++ [x]) _ HW5.out HWl.out HWf.out).mono ?_
                rw [HRq.out]
                rintro e w6 ⟨rfl, hb⟩
                refine ⟨_, rfl, ?_⟩
                have HI6 := Aside0.mk (below_stepB HB0.out HI5.out hb)
                have HB6 := Aside0.mk (HB5.out.below hb)
                refine hK _ _ (HS.out _ HI6.out) (fun hS => ?_)
                clear hK K
                refine norm_ (a' := Act.put _ (some 59) (.tuple #[.agg #[.string ⟨#[]⟩, .string ⟨#[]⟩, .string ⟨#[]⟩, .string ⟨#[]⟩, .bool false, .int .i64 0], .int .i64 100])) rfl ?_
                refine norm_ (a' := ?_) ?_ ?_
                rotate_left
                · simp only [Act.put, List.setIfInBounds_toArray, List.set_cons_zero, List.set_cons_succ]; rfl
                clear hS
                refine dpure 10 (some 49) rfl rfl (by kernel_rfl) (fun _ _ _ h => h) (by rfl) (v := ?_) (a' := ?_) ?_ ?_ ?_
                rotate_left 2
                · intro w'; go_simp; with_reducible rfl
                · simp only [Act.put, List.setIfInBounds_toArray, List.set_cons_zero, List.set_cons_succ]; rfl
                refine dpure 11 (some 60) rfl rfl (by kernel_rfl) (fun _ _ _ h => h) (by rfl) (v := ?_) (a' := ?_) ?_ ?_ ?_
                rotate_left 2
                · intro w'; go_simp; with_reducible rfl
                · simp only [Act.put, List.setIfInBounds_toArray, List.set_cons_zero, List.set_cons_succ]; rfl
                refine dpure 12 (some 61) rfl rfl (by kernel_rfl) (fun _ _ _ h => h) (by rfl) (v := ?_) (a' := ?_) ?_ ?_ ?_
                rotate_left 2
                · intro w'; go_simp; with_reducible rfl
                · simp only [Act.put, List.setIfInBounds_toArray, List.set_cons_zero, List.set_cons_succ]; rfl
                clear hb
                refine lcast (l' := #[true, true, true, true, true, true, true, true, true, true, true, true, true, true, false, false]) (by kernel_rfl) ?_
                exact JT (va, vb1, .slice An (xs ++ [x]).length cn, .slice (some ⟨gl, 0, none⟩) 1 1, qb) w6 ⟨HB6.out, HI6.out, HQ.out⟩
          · skip
            have hb := below_alloc (Below.refl w3.heap.size w3) (.cells #[.string ⟨#[]⟩, .string ⟨#[]⟩, .string ⟨#[]⟩, .string ⟨#[]⟩, .bool false, .int .i64 0] 26 (0, 0))
            have HI4 := Aside0.mk (below_stepB HB0.out HI3.out hb)
            have HV4 := Aside0.mk (Kd.R_below HV3.out hb)
            have HU4 := Aside0.mk (Kd.R_below HU3.out hb)
            have HA4 := HA3
            have HB4 := Aside0.mk (SAt.new w3 #[.string ⟨#[]⟩, .string ⟨#[]⟩, .string ⟨#[]⟩, .string ⟨#[]⟩, .bool false, .int .i64 0] 26)
            have HQ := Lib.hid ((below_sz HB0.out HI3.out))
            refine event_step (by kernel_rfl) (v := .pointer (some ⟨w3.heap.size, 0, none⟩)) (w1 := w3.alloc (.cells #[.string ⟨#[]⟩, .string ⟨#[]⟩, .string ⟨#[]⟩, .string ⟨#[]⟩, .bool false, .int .i64 0] 26 (0, 0))) (by go_simp; done) ?_
            refine hK _ _ (HS.out _ HI4.out) (fun hS => ?_)
            clear hK K
            refine norm_ (a' := Act.put _ (some 9) (.pointer (some ⟨w3.heap.size, 0, none⟩))) rfl ?_
            refine norm_ (a' := ?_) ?_ ?_
            rotate_left
            · simp only [Act.put, List.setIfInBounds_toArray, List.set_cons_zero, List.set_cons_succ]; rfl
            clear hS
            clear hb
            generalize w3.alloc (.cells #[.string ⟨#[]⟩, .string ⟨#[]⟩, .string ⟨#[]⟩, .string ⟨#[]⟩, .bool false, .int .i64 0] 26 (0, 0)) = w4 at *
            generalize w3.heap.size = qb at *
            refine wpAnyLast_ready (rs := [8]) (by kernel_rfl) (by simp) (AllReadyL.cons rfl (by decide) (fun K hK => ?_) AllReadyL.nil)
            · skip
              refine appF_step (w0 := w0) (base := B0) (c := 1) (some 58) rfl (by rfl) (.tmp 52) (.tmp 57) (by kernel_rfl) (by kernel_rfl) (by kernel_rfl) HV4.out (Kd.R_reads' HU4.out).2.2 HI4.out (below_sz HB0.out HI4.out) (by simp; omega) ?_
              intro v1 w5 ho hb hg hob
              have HI5 := Aside0.mk hb
              have HV5 := Aside0.mk (show FR w5 B0 v1 (xs ++ [x]) from ho)
              have HB5 := Aside0.mk (HB4.out.beside HV4.out (by decide) hg)
              clear ho hb hg hob
              obtain ⟨An, cn, rfl, hlc, hrc⟩ := Kd.R_reads HV5.out
              have HW5 := Aside0.mk (show kF.C w5 An (xs ++ [x]).length (xs ++ [x]) from hrc)
              have HWl := Lib.hid (show (xs ++ [x]).length ≤ cn from hlc)
              clear hlc hrc
              refine hK _ _ (HS.out _ HI5.out) (fun hS => ?_)
              clear hK K
              refine norm_ (a' := Act.put _ (some 58) (.slice An (xs ++ [x]).length cn)) rfl ?_
              refine norm_ (a' := ?_) ?_ ?_
              rotate_left
              · simp only [Act.put, List.setIfInBounds_toArray, List.set_cons_zero, List.set_cons_succ]; rfl
              clear hS
              refine wpAnyLast_ready (rs := [9]) (by kernel_rfl) (by simp) (AllReadyL.cons rfl (by decide) (fun K hK => ?_) AllReadyL.nil)
              · skip
                refine goes_ Tryd.func9 (by kernel_rfl) rfl #[.slice An (xs ++ [x]).length cn] (by rfl) rfl rfl (by kernel_rfl) ?_
                refine (request_calls An cn (xs ++ [x]) _ HW5.out HWl.out HWf.out).mono ?_
                rw [HRq.out]
                rintro e w6 ⟨rfl, hb⟩
                refine ⟨_, rfl, ?_⟩
                have HI6 := Aside0.mk (below_stepB HB0.out HI5.out hb)
                have HB6 := Aside0.mk (HB5.out.below hb)
                refine hK _ _ (HS.out _ HI6.out) (fun hS => ?_)
                clear hK K
                refine norm_ (a' := Act.put _ (some 59) (.tuple #[.agg #[.string ⟨#[]⟩, .string ⟨#[]⟩, .string ⟨#[]⟩, .string ⟨#[]⟩, .bool false, .int .i64 0], .int .i64 100])) rfl ?_
                refine norm_ (a' := ?_) ?_ ?_
                rotate_left
                · simp only [Act.put, List.setIfInBounds_toArray, List.set_cons_zero, List.set_cons_succ]; rfl
                clear hS
                refine dpure 10 (some 49) rfl rfl (by kernel_rfl) (fun _ _ _ h => h) (by rfl) (v := ?_) (a' := ?_) ?_ ?_ ?_
                rotate_left 2
                · intro w'; go_simp; with_reducible rfl
                · simp only [Act.put, List.setIfInBounds_toArray, List.set_cons_zero, List.set_cons_succ]; rfl
                refine dpure 11 (some 60) rfl rfl (by kernel_rfl) (fun _ _ _ h => h) (by rfl) (v := ?_) (a' := ?_) ?_ ?_ ?_
                rotate_left 2
                · intro w'; go_simp; with_reducible rfl
                · simp only [Act.put, List.setIfInBounds_toArray, List.set_cons_zero, List.set_cons_succ]; rfl
                refine dpure 12 (some 61) rfl rfl (by kernel_rfl) (fun _ _ _ h => h) (by rfl) (v := ?_) (a' := ?_) ?_ ?_ ?_
                rotate_left 2
                · intro w'; go_simp; with_reducible rfl
                · simp only [Act.put, List.setIfInBounds_toArray, List.set_cons_zero, List.set_cons_succ]; rfl
                clear hb
                refine lcast (l' := #[true, true, true, true, true, true, true, true, true, true, true, true, true, true, false, false]) (by kernel_rfl) ?_
                exact JT (va, vb1, .slice An (xs ++ [x]).length cn, .slice (some ⟨gl, 0, none⟩) 1 1, qb) w6 ⟨HB6.out, HI6.out, HQ.out⟩
        · skip
          have hb := below_alloc (Below.refl w2.heap.size w2) (.cells #[.string ⟨#[]⟩, .string ⟨#[]⟩, .string ⟨#[]⟩, .string ⟨#[]⟩, .bool false, .int .i64 0] 26 (0, 0))
          have HI3 := Aside0.mk (below_stepB HB0.out HI2.out hb)
          have HV3 := Aside0.mk (Kd.R_below HV2.out hb)
          have HU3 := Aside0.mk (Kd.R_below HU2.out hb)
          have HA3 := HA2
          have HB3 := Aside0.mk (SAt.new w2 #[.string ⟨#[]⟩, .string ⟨#[]⟩, .string ⟨#[]⟩, .string ⟨#[]⟩, .bool false, .int .i64 0] 26)
          have HQ := Lib.hid ((below_sz HB0.out HI2.out))
          refine event_step (by kernel_rfl) (v := .pointer (some ⟨w2.heap.size, 0, none⟩)) (w1 := w2.alloc (.cells #[.string ⟨#[]⟩, .string ⟨#[]⟩, .string ⟨#[]⟩, .string ⟨#[]⟩, .bool false, .int .i64 0] 26 (0, 0))) (by go_simp; done) ?_
          refine hK _ _ (HS.out _ HI3.out) (fun hS => ?_)
          clear hK K
          refine norm_ (a' := Act.put _ (some 9) (.pointer (some ⟨w2.heap.size, 0, none⟩))) rfl ?_
          refine norm_ (a' := ?_) ?_ ?_
          rotate_left
          · simp only [Act.put, List.setIfInBounds_toArray, List.set_cons_zero, List.set_cons_succ]; rfl
          clear hS
          clear hb
          generalize w2.alloc (.cells #[.string ⟨#[]⟩, .string ⟨#[]⟩, .string ⟨#[]⟩, .string ⟨#[]⟩, .bool false, .int .i64 0] 26 (0, 0)) = w3 at *
          generalize w2.heap.size = qb at *
          refine wpAnyLast_ready (rs := [2]) (by kernel_rfl) (by simp) (AllReadyL.cons rfl (by decide) (fun K hK => ?_) AllReadyL.nil)
          · skip
            refine appF_step (w0 := w0) (base := B0) (c := cp) (some 52) rfl (by rfl) (.tmp 50) (.tmp 51) (by kernel_rfl) (by kernel_rfl) (by kernel_rfl) HV3.out (HRx.out _ HI3.out) HI3.out (below_sz HB0.out HI3.out) (by simp; omega) ?_
            intro v1 w4 ho hb hg hob
            have HI4 := Aside0.mk hb
            have HV4 := Aside0.mk (show FR w4 B0 v1 xs from ho)
            have HU4 := Aside0.mk (fr_side HU3.out HA3.out hg)
            have HA4 := Aside0.mk (HA3.out.grow HU3.out hob)
            have HB4 := Aside0.mk (HB3.out.beside HV3.out (by decide) hg)
            clear ho hb hg hob
            obtain ⟨vb1, hvb⟩ : ∃ v, v1 = v := ⟨_, rfl⟩
            rw [hvb] at HV4 ⊢
            rw [hvb] at HA4
            clear hvb
            refine hK _ _ (HS.out _ HI4.out) (fun hS => ?_)
            clear hK K
            refine norm_ (a' := Act.put _ (some 52) vb1) rfl ?_
            refine norm_ (a' := ?_) ?_ ?_
            rotate_left
            · simp only [Act.put, List.setIfInBounds_toArray, List.set_cons_zero, List.set_cons_succ]; rfl
            clear hS
            refine wpAnyLast_ready (rs := [8]) (by kernel_rfl) (by simp) (AllReadyL.cons rfl (by decide) (fun K hK => ?_) AllReadyL.nil)
            · skip
              refine appF_step (w0 := w0) (base := B0) (c := 1) (some 58) rfl (by rfl) (.tmp 52) (.tmp 57) (by kernel_rfl) (by kernel_rfl) (by kernel_rfl) HV4.out (Kd.R_reads' HU4.out).2.2 HI4.out (below_sz HB0.out HI4.out) (by simp; omega) ?_
              intro v1 w5 ho hb hg hob
              have HI5 := Aside0.mk hb
              have HV5 := Aside0.mk (show FR w5 B0 v1 (xs ++ [x]) from ho)
              have HB5 := Aside0.mk (HB4.out.beside HV4.out (by decide) hg)
              clear ho hb hg hob
              obtain ⟨An, cn, rfl, hlc, hrc⟩ := Kd.R_reads HV5.out
              have HW5 := Aside0.mk (show kF.C w5 An (xs ++ [x]).length (xs ++ [x]) from hrc)
              have HWl := Lib.hid (show (xs ++ [x]).length ≤ cn from hlc)
              clear hlc hrc
              refine hK _ _ (HS.out _ HI5.out) (fun hS => ?_)
              clear hK K
              refine norm_ (a' := Act.put _ (some 58) (.slice An (xs ++ [x]).length cn)) rfl ?_
              refine norm_ (a' := ?_) ?_ ?_
              rotate_left
              · simp only [Act.put, List.setIfInBounds_toArray, List.set_cons_zero, List.set_cons_succ]; rfl
              clear hS
              refine wpAnyLast_ready (rs := [9]) (by kernel_rfl) (by simp) (AllReadyL.cons rfl (by decide) (fun K hK => ?_) AllReadyL.nil)
              · skip
                refine goes_ Tryd.func9 (by kernel_rfl) rfl #[.slice An (xs ++ [x]).length cn] (by rfl) rfl rfl (by kernel_rfl) ?_
                refine (request_calls An cn (xs ++ [x]) _ HW5.out HWl.out HWf.out).mono ?_
                rw [HRq.out]
                rintro e w6 ⟨rfl, hb⟩
                refine ⟨_, rfl, ?_⟩
                have HI6 := Aside0.mk (below_stepB HB0.out HI5.out hb)
                have HB6 := Aside0.mk (HB5.out.below hb)
                refine hK _ _ (HS.out _ HI6.out) (fun hS => ?_)
                clear hK K
                refine norm_ (a' := Act.put _ (some 59) (.tuple #[.agg #[.string ⟨#[]⟩, .string ⟨#[]⟩, .string ⟨#[]⟩, .string ⟨#[]⟩, .bool false, .int .i64 0], .int .i64 100])) rfl ?_
                refine norm_ (a' := ?_) ?_ ?_
                rotate_left
                · simp only [Act.put, List.setIfInBounds_toArray, List.set_cons_zero, List.set_cons_succ]; rfl
                clear hS
                refine dpure 10 (some 49) rfl rfl (by kernel_rfl) (fun _ _ _ h => h) (by rfl) (v := ?_) (a' := ?_) ?_ ?_ ?_
                rotate_left 2
                · intro w'; go_simp; with_reducible rfl
                · simp only [Act.put, List.setIfInBounds_toArray, List.set_cons_zero, List.set_cons_succ]; rfl
                refine dpure 11 (some 60) rfl rfl (by kernel_rfl) (fun _ _ _ h => h) (by rfl) (v := ?_) (a' := ?_) ?_ ?_ ?_
                rotate_left 2
                · intro w'; go_simp; with_reducible rfl
                · simp only [Act.put, List.setIfInBounds_toArray, List.set_cons_zero, List.set_cons_succ]; rfl
                refine dpure 12 (some 61) rfl rfl (by kernel_rfl) (fun _ _ _ h => h) (by rfl) (v := ?_) (a' := ?_) ?_ ?_ ?_
                rotate_left 2
                · intro w'; go_simp; with_reducible rfl
                · simp only [Act.put, List.setIfInBounds_toArray, List.set_cons_zero, List.set_cons_succ]; rfl
                clear hb
                refine lcast (l' := #[true, true, true, true, true, true, true, true, true, true, true, true, true, true, false, false]) (by kernel_rfl) ?_
                exact JT (va, vb1, .slice An (xs ++ [x]).length cn, .slice (some ⟨gl, 0, none⟩) 1 1, qb) w6 ⟨HB6.out, HI6.out, HQ.out⟩
      · skip
        have hb := below_alloc (Below.refl w1.heap.size w1) (.cells #[.string ⟨#[]⟩, .string ⟨#[]⟩, .string ⟨#[]⟩, .string ⟨#[]⟩, .bool false, .int .i64 0] 26 (0, 0))
        have HI2 := Aside0.mk (below_stepB HB0.out HI1.out hb)
        have HU2 := Aside0.mk (Kd.R_below HU1.out hb)
        have HB2 := Aside0.mk (SAt.new w1 #[.string ⟨#[]⟩, .string ⟨#[]⟩, .string ⟨#[]⟩, .string ⟨#[]⟩, .bool false, .int .i64 0] 26)
        have HQ := Lib.hid ((below_sz HB0.out HI1.out))
        refine event_step (by kernel_rfl) (v := .pointer (some ⟨w1.heap.size, 0, none⟩)) (w1 := w1.alloc (.cells #[.string ⟨#[]⟩, .string ⟨#[]⟩, .string ⟨#[]⟩, .string ⟨#[]⟩, .bool false, .int .i64 0] 26 (0, 0))) (by go_simp; done) ?_
        refine hK _ _ (HS.out _ HI2.out) (fun hS => ?_)
        clear hK K
        refine norm_ (a' := Act.put _ (some 9) (.pointer (some ⟨w1.heap.size, 0, none⟩))) rfl ?_
        refine norm_ (a' := ?_) ?_ ?_
        rotate_left
        · simp only [Act.put, List.setIfInBounds_toArray, List.set_cons_zero, List.set_cons_succ]; rfl
        clear hS
        clear hb
        generalize w1.alloc (.cells #[.string ⟨#[]⟩, .string ⟨#[]⟩, .string ⟨#[]⟩, .string ⟨#[]⟩, .bool false, .int .i64 0] 26 (0, 0)) = w2 at *
        generalize w1.heap.size = qb at *
        refine wpAnyLast_ready (rs := [0]) (by kernel_rfl) (by simp) (AllReadyL.cons rfl (by decide) (fun K hK => ?_) AllReadyL.nil)
        · skip
          have hb := below_alloc (Below.refl w2.heap.size w2) (.cells #[] 41)
          have HI3 := Aside0.mk (below_stepB HB0.out HI2.out hb)
          have HU3 := Aside0.mk (Kd.R_below HU2.out hb)
          have HB3 := Aside0.mk (HB2.out.below hb)
          have HV3 := Aside0.mk (fr_nil (base := B0) w2 (below_sz HB0.out HI2.out))
          have HA3 := Aside0.mk (apart_nil HU2.out 0 0)
          refine event_step (by kernel_rfl) (v := .slice (some ⟨w2.heap.size, 0, none⟩) 0 0) (w1 := w2.alloc (.cells #[] 41)) (by go_simp; done) ?_
          refine hK _ _ (HS.out _ HI3.out) (fun hS => ?_)
          clear hK K
          refine norm_ (a' := Act.put _ (some 50) (.slice (some ⟨w2.heap.size, 0, none⟩) 0 0)) rfl ?_
          refine norm_ (a' := ?_) ?_ ?_
          rotate_left
          · simp only [Act.put, List.setIfInBounds_toArray, List.set_cons_zero, List.set_cons_succ]; rfl
          clear hS
          clear hb
          generalize w2.alloc (.cells #[] 41) = w3 at *
          generalize Value.slice (some ⟨w2.heap.size, 0, none⟩) 0 0 = va at *
          refine wpAnyLast_ready (rs := [2]) (by kernel_rfl) (by simp) (AllReadyL.cons rfl (by decide) (fun K hK => ?_) AllReadyL.nil)
          · skip
            refine appF_step (w0 := w0) (base := B0) (c := cp) (some 52) rfl (by rfl) (.tmp 50) (.tmp 51) (by kernel_rfl) (by kernel_rfl) (by kernel_rfl) HV3.out (HRx.out _ HI3.out) HI3.out (below_sz HB0.out HI3.out) (by simp; omega) ?_
            intro v1 w4 ho hb hg hob
            have HI4 := Aside0.mk hb
            have HV4 := Aside0.mk (show FR w4 B0 v1 xs from ho)
            have HU4 := Aside0.mk (fr_side HU3.out HA3.out hg)
            have HA4 := Aside0.mk (HA3.out.grow HU3.out hob)
            have HB4 := Aside0.mk (HB3.out.beside HV3.out (by decide) hg)
            clear ho hb hg hob
            obtain ⟨vb1, hvb⟩ : ∃ v, v1 = v := ⟨_, rfl⟩
            rw [hvb] at HV4 ⊢
            rw [hvb] at HA4
            clear hvb
            refine hK _ _ (HS.out _ HI4.out) (fun hS => ?_)
            clear hK K
            refine norm_ (a' := Act.put _ (some 52) vb1) rfl ?_
            refine norm_ (a' := ?_) ?_ ?_
            rotate_left
            · simp only [Act.put, List.setIfInBounds_toArray, List.set_cons_zero, List.set_cons_succ]; rfl
            clear hS
            refine wpAnyLast_ready (rs := [8]) (by kernel_rfl) (by simp) (AllReadyL.cons rfl (by decide) (fun K hK => ?_) AllReadyL.nil)
            · skip
              refine appF_step (w0 := w0) (base := B0) (c := 1) (some 58) rfl (by rfl) (.tmp 52) (.tmp 57) (by kernel_rfl) (by kernel_rfl) (by kernel_rfl) HV4.out (Kd.R_reads' HU4.out).2.2 HI4.out (below_sz HB0.out HI4.out) (by simp; omega) ?_
              intro v1 w5 ho hb hg hob
              have HI5 := Aside0.mk hb
              have HV5 := Aside0.mk (show FR w5 B0 v1 (xs ++ [x]) from ho)
              have HB5 := Aside0.mk (HB4.out.beside HV4.out (by decide) hg)
              clear ho hb hg hob
              obtain ⟨An, cn, rfl, hlc, hrc⟩ := Kd.R_reads HV5.out
              have HW5 := Aside0.mk (show kF.C w5 An (xs ++ [x]).length (xs ++ [x]) from hrc)
              have HWl := Lib.hid (show (xs ++ [x]).length ≤ cn from hlc)
              clear hlc hrc
              refine hK _ _ (HS.out _ HI5.out) (fun hS => ?_)
              clear hK K
              refine norm_ (a' := Act.put _ (some 58) (.slice An (xs ++ [x]).length cn)) rfl ?_
              refine norm_ (a' := ?_) ?_ ?_
              rotate_left
              · simp only [Act.put, List.setIfInBounds_toArray, List.set_cons_zero, List.set_cons_succ]; rfl
              clear hS
              refine wpAnyLast_ready (rs := [9]) (by kernel_rfl) (by simp) (AllReadyL.cons rfl (by decide) (fun K hK => ?_) AllReadyL.nil)
              · skip
                refine goes_ Tryd.func9 (by kernel_rfl) rfl #[.slice An (xs ++ [x]).length cn] (by rfl) rfl rfl (by kernel_rfl) ?_
                refine (request_calls An cn (xs ++ [x]) _ HW5.out HWl.out HWf.out).mono ?_
                rw [HRq.out]
                rintro e w6 ⟨rfl, hb⟩
                refine ⟨_, rfl, ?_⟩
                have HI6 := Aside0.mk (below_stepB HB0.out HI5.out hb)
                have HB6 := Aside0.mk (HB5.out.below hb)
                refine hK _ _ (HS.out _ HI6.out) (fun hS => ?_)
                clear hK K
                refine norm_ (a' := Act.put _ (some 59) (.tuple #[.agg #[.string ⟨#[]⟩, .string ⟨#[]⟩, .string ⟨#[]⟩, .string ⟨#[]⟩, .bool false, .int .i64 0], .int .i64 100])) rfl ?_
                refine norm_ (a' := ?_) ?_ ?_
                rotate_left
                · simp only [Act.put, List.setIfInBounds_toArray, List.set_cons_zero, List.set_cons_succ]; rfl
                clear hS
                refine dpure 10 (some 49) rfl rfl (by kernel_rfl) (fun _ _ _ h => h) (by rfl) (v := ?_) (a' := ?_) ?_ ?_ ?_
                rotate_left 2
                · intro w'; go_simp; with_reducible rfl
                · simp only [Act.put, List.setIfInBounds_toArray, List.set_cons_zero, List.set_cons_succ]; rfl
                refine dpure 11 (some 60) rfl rfl (by kernel_rfl) (fun _ _ _ h => h) (by rfl) (v := ?_) (a' := ?_) ?_ ?_ ?_
                rotate_left 2
                · intro w'; go_simp; with_reducible rfl
                · simp only [Act.put, List.setIfInBounds_toArray, List.set_cons_zero, List.set_cons_succ]; rfl
                refine dpure 12 (some 61) rfl rfl (by kernel_rfl) (fun _ _ _ h => h) (by rfl) (v := ?_) (a' := ?_) ?_ ?_ ?_
                rotate_left 2
                · intro w'; go_simp; with_reducible rfl
                · simp only [Act.put, List.setIfInBounds_toArray, List.set_cons_zero, List.set_cons_succ]; rfl
                clear hb
                refine lcast (l' := #[true, true, true, true, true, true, true, true, true, true, true, true, true, true, false, false]) (by kernel_rfl) ?_
                exact JT (va, vb1, .slice An (xs ++ [x]).length cn, .slice (some ⟨gl, 0, none⟩) 1 1, qb) w6 ⟨HB6.out, HI6.out, HQ.out⟩
    · skip
      have hb := below_alloc (Below.refl w0.heap.size w0) (.cells #[.string ⟨#[]⟩, .string ⟨#[]⟩, .string ⟨#[]⟩, .string ⟨#[]⟩, .bool false, .int .i64 0] 26 (0, 0))
      have HI1 := Aside0.mk (below_stepB HB0.out HI0.out hb)
      have HB1 := Aside0.mk (SAt.new w0 #[.string ⟨#[]⟩, .string ⟨#[]⟩, .string ⟨#[]⟩, .string ⟨#[]⟩, .bool false, .int .i64 0] 26)
      have HQ := Lib.hid ((below_sz HB0.out HI0.out))
      refine event_step (by kernel_rfl) (v := .pointer (some ⟨w0.heap.size, 0, none⟩)) (w1 := w0.alloc (.cells #[.string ⟨#[]⟩, .string ⟨#[]⟩, .string ⟨#[]⟩, .string ⟨#[]⟩, .bool false, .int .i64 0] 26 (0, 0))) (by go_simp; done) ?_
      refine hK _ _ (HS.out _ HI1.out) (fun hS => ?_)
      clear hK K
      refine norm_ (a' := Act.put _ (some 9) (.pointer (some ⟨w0.heap.size, 0, none⟩))) rfl ?_
      refine norm_ (a' := ?_) ?_ ?_
      rotate_left
      · simp only [Act.put, List.setIfInBounds_toArray, List.set_cons_zero, List.set_cons_succ]; rfl
      clear hS
      clear hb
      generalize w0.alloc (.cells #[.string ⟨#[]⟩, .string ⟨#[]⟩, .string ⟨#[]⟩, .string ⟨#[]⟩, .bool false, .int .i64 0] 26 (0, 0)) = w1 at *
      generalize w0.heap.size = qb at *
      refine wpAnyLast_ready (rs := [0, 7]) (by kernel_rfl) (by simp) (AllReadyL.cons rfl (by decide) (fun K hK => ?_) (AllReadyL.cons rfl (by decide) (fun K hK => ?_) AllReadyL.nil))
      · skip
        have hb := below_alloc (Below.refl w1.heap.size w1) (.cells #[] 41)
        have HI2 := Aside0.mk (below_stepB HB0.out HI1.out hb)
        have HB2 := Aside0.mk (HB1.out.below hb)
        have HV2 := Aside0.mk (fr_nil (base := B0) w1 (below_sz HB0.out HI1.out))
        refine event_step (by kernel_rfl) (v := .slice (some ⟨w1.heap.size, 0, none⟩) 0 0) (w1 := w1.alloc (.cells #[] 41)) (by go_simp; done) ?_
        refine hK _ _ (HS.out _ HI2.out) (fun hS => ?_)
        clear hK K
        refine norm_ (a' := Act.put _ (some 50) (.slice (some ⟨w1.heap.size, 0, none⟩) 0 0)) rfl ?_
        refine norm_ (a' := ?_) ?_ ?_
        rotate_left
        · simp only [Act.put, List.setIfInBounds_toArray, List.set_cons_zero, List.set_cons_succ]; rfl
        clear hS
        clear hb
        generalize w1.alloc (.cells #[] 41) = w2 at *
        generalize Value.slice (some ⟨w1.heap.size, 0, none⟩) 0 0 = va at *
        refine wpAnyLast_ready (rs := [2, 7]) (by kernel_rfl) (by simp) (AllReadyL.cons rfl (by decide) (fun K hK => ?_) (AllReadyL.cons rfl (by decide) (fun K hK => ?_) AllReadyL.nil))
        · skip
          refine appF_step (w0 := w0) (base := B0) (c := cp) (some 52) rfl (by rfl) (.tmp 50) (.tmp 51) (by kernel_rfl) (by kernel_rfl) (by kernel_rfl) HV2.out (HRx.out _ HI2.out) HI2.out (below_sz HB0.out HI2.out) (by simp; omega) ?_
          intro v1 w3 ho hb hg hob
          have HI3 := Aside0.mk hb
          have HV3 := Aside0.mk (show FR w3 B0 v1 xs from ho)
          have HB3 := Aside0.mk (HB2.out.beside HV2.out (by decide) hg)
          clear ho hb hg hob
          obtain ⟨vb1, hvb⟩ : ∃ v, v1 = v := ⟨_, rfl⟩
          rw [hvb] at HV3 ⊢
          clear hvb
          refine hK _ _ (HS.out _ HI3.out) (fun hS => ?_)
          clear hK K
          refine norm_ (a' := Act.put _ (some 52) vb1) rfl ?_
          refine norm_ (a' := ?_) ?_ ?_
          rotate_left
          · simp only [Act.put, List.setIfInBounds_toArray, List.set_cons_zero, List.set_cons_succ]; rfl
          clear hS
          refine wpAnyLast_ready (rs := [7]) (by kernel_rfl) (by simp) (AllReadyL.cons rfl (by decide) (fun K hK => ?_) AllReadyL.nil)
          · skip
            have hb := below_alloc (Below.refl w3.heap.size w3) (.cells #[.string x.n, .string x.v, .bool x.nv] 41)
            have HI4 := Aside0.mk (below_stepB HB0.out HI3.out hb)
            have HV4 := Aside0.mk (Kd.R_below HV3.out hb)
            have HB4 := Aside0.mk (HB3.out.below hb)
            have HU4 := Aside0.mk (show FR (w3.alloc (.cells #[.string x.n, .string x.v, .bool x.nv] 41)) B0 (.slice (some ⟨w3.heap.size, 0, none⟩) 1 1) [x] from fr_one (base := B0) w3 (below_sz HB0.out HI3.out) _)
            have HA4 := Aside0.mk (apart_lit HV3.out 1 1)
            refine event_step (by kernel_rfl) (v := .slice (some ⟨w3.heap.size, 0, none⟩) 1 1) (w1 := w3.alloc (.cells #[.string x.n, .string x.v, .bool x.nv] 41)) (by first | (go_simp; done) | (go_simp; rfl)) ?_
            refine hK _ _ (HS.out _ HI4.out) (fun hS => ?_)
            clear hK K
            refine norm_ (a' := Act.put _ (some 57) (.slice (some ⟨w3.heap.size, 0, none⟩) 1 1)) rfl ?_
            refine norm_ (a' := ?_) ?_ ?_
            rotate_left
            · simp only [Act.put, List.setIfInBounds_toArray, List.set_cons_zero, List.set_cons_succ]; rfl
            clear hS
            clear hb
            generalize w3.alloc (.cells #[.string x.n, .string x.v, .bool x.nv] 41) = w4 at *
            generalize w3.heap.size = gl at *
            refine wpAnyLast_ready (rs := [8]) (by kernel_rfl) (by simp) (AllReadyL.cons rfl (by decide) (fun K hK => ?_) AllReadyL.nil)
            · skip
              refine appF_step (w0 := w0) (base := B0) (c := 1) (some 58) rfl (by rfl) (.tmp 52) (.tmp 57) (by kernel_rfl) (by kernel_rfl) (by kernel_rfl) HV4.out (Kd.R_reads' HU4.out).2.2 HI4.out (below_sz HB0.out HI4.out) (by simp; omega) ?_
              intro v1 w5 ho hb hg hob
              have HI5 := Aside0.mk hb
              have HV5 := Aside0.mk (show FR w5 B0 v1 (xs ++ [x]) from ho)
              have HB5 := Aside0.mk (HB4.out.beside HV4.out (by decide) hg)
              clear ho hb hg hob
              obtain ⟨An, cn, rfl, hlc, hrc⟩ := Kd.R_reads HV5.out
              have HW5 := Aside0.mk (show kF.C w5 An (xs ++ [x]).length (xs ++ [x]) from hrc)
              have HWl := Lib.hid (show (xs ++ [x]).length ≤ cn from hlc)
              clear hlc hrc
              refine hK _ _ (HS.out _ HI5.out) (fun hS => ?_)
              clear hK K
              refine norm_ (a' := Act.put _ (some 58) (.slice An (xs ++ [x]).length cn)) rfl ?_
              refine norm_ (a' := ?_) ?_ ?_
              rotate_left
              · simp only [Act.put, List.setIfInBounds_toArray, List.set_cons_zero, List.set_cons_succ]; rfl
              clear hS
              refine wpAnyLast_ready (rs := [9]) (by kernel_rfl) (by simp) (AllReadyL.cons rfl (by decide) (fun K hK => ?_) AllReadyL.nil)
              · skip
                refine goes_ Tryd.func9 (by kernel_rfl) rfl #[.slice An (xs ++ [x]).length cn] (by rfl) rfl rfl (by kernel_rfl) ?_
                refine (request_calls An cn (xs ++ [x]) _ HW5.out HWl.out HWf.out).mono ?_
                rw [HRq.out]
                rintro e w6 ⟨rfl, hb⟩
                refine ⟨_, rfl, ?_⟩
                have HI6 := Aside0.mk (below_stepB HB0.out HI5.out hb)
                have HB6 := Aside0.mk (HB5.out.below hb)
                refine hK _ _ (HS.out _ HI6.out) (fun hS => ?_)
                clear hK K
                refine norm_ (a' := Act.put _ (some 59) (.tuple #[.agg #[.string ⟨#[]⟩, .string ⟨#[]⟩, .string ⟨#[]⟩, .string ⟨#[]⟩, .bool false, .int .i64 0], .int .i64 100])) rfl ?_
                refine norm_ (a' := ?_) ?_ ?_
                rotate_left
                · simp only [Act.put, List.setIfInBounds_toArray, List.set_cons_zero, List.set_cons_succ]; rfl
                clear hS
                refine dpure 10 (some 49) rfl rfl (by kernel_rfl) (fun _ _ _ h => h) (by rfl) (v := ?_) (a' := ?_) ?_ ?_ ?_
                rotate_left 2
                · intro w'; go_simp; with_reducible rfl
                · simp only [Act.put, List.setIfInBounds_toArray, List.set_cons_zero, List.set_cons_succ]; rfl
                refine dpure 11 (some 60) rfl rfl (by kernel_rfl) (fun _ _ _ h => h) (by rfl) (v := ?_) (a' := ?_) ?_ ?_ ?_
                rotate_left 2
                · intro w'; go_simp; with_reducible rfl
                · simp only [Act.put, List.setIfInBounds_toArray, List.set_cons_zero, List.set_cons_succ]; rfl
                refine dpure 12 (some 61) rfl rfl (by kernel_rfl) (fun _ _ _ h => h) (by rfl) (v := ?_) (a' := ?_) ?_ ?_ ?_
                rotate_left 2
                · intro w'; go_simp; with_reducible rfl
                · simp only [Act.put, List.setIfInBounds_toArray, List.set_cons_zero, List.set_cons_succ]; rfl
                clear hb
                refine lcast (l' := #[true, true, true, true, true, true, true, true, true, true, true, true, true, true, false, false]) (by kernel_rfl) ?_
                exact JT (va, vb1, .slice An (xs ++ [x]).length cn, .slice (some ⟨gl, 0, none⟩) 1 1, qb) w6 ⟨HB6.out, HI6.out, HQ.out⟩
        · skip
          have hb := below_alloc (Below.refl w2.heap.size w2) (.cells #[.string x.n, .string x.v, .bool x.nv] 41)
          have HI3 := Aside0.mk (below_stepB HB0.out HI2.out hb)
          have HV3 := Aside0.mk (Kd.R_below HV2.out hb)
          have HB3 := Aside0.mk (HB2.out.below hb)
          have HU3 := Aside0.mk (show FR (w2.alloc (.cells #[.string x.n, .string x.v, .bool x.nv] 41)) B0 (.slice (some ⟨w2.heap.size, 0, none⟩) 1 1) [x] from fr_one (base := B0) w2 (below_sz HB0.out HI2.out) _)
          have HA3 := Aside0.mk (apart_lit HV2.out 1 1)
          refine event_step (by kernel_rfl) (v := .slice (some ⟨w2.heap.size, 0, none⟩) 1 1) (w1 := w2.alloc (.cells #[.string x.n, .string x.v, .bool x.nv] 41)) (by first | (go_simp; done) | (go_simp; rfl)) ?_
          refine hK _ _ (HS.out _ HI3.out) (fun hS => ?_)
          clear hK K
          refine norm_ (a' := Act.put _ (some 57) (.slice (some ⟨w2.heap.size, 0, none⟩) 1 1)) rfl ?_
          refine norm_ (a' := ?_) ?_ ?_
          rotate_left
          · simp only [Act.put, List.setIfInBounds_toArray, List.set_cons_zero, List.set_cons_succ]; rfl
          clear hS
          clear hb
          generalize w2.alloc (.cells #[.string x.n, .string x.v, .bool x.nv] 41) = w3 at *
          generalize w2.heap.size = gl at *
          refine wpAnyLast_ready (rs := [2]) (by kernel_rfl) (by simp) (AllReadyL.cons rfl (by decide) (fun K hK => ?_) AllReadyL.nil)
          · skip
            refine appF_step (w0 := w0) (base := B0) (c := cp) (some 52) rfl (by rfl) (.tmp 50) (.tmp 51) (by kernel_rfl) (by kernel_rfl) (by kernel_rfl) HV3.out (HRx.out _ HI3.out) HI3.out (below_sz HB0.out HI3.out) (by simp; omega) ?_
            intro v1 w4 ho hb hg hob
            have HI4 := Aside0.mk hb
            have HV4 := Aside0.mk (show FR w4 B0 v1 xs from ho)
            have HU4 := Aside0.mk (fr_side HU3.out HA3.out hg)
            have HA4 := Aside0.mk (HA3.out.grow HU3.out hob)
            have HB4 := Aside0.mk (HB3.out.beside HV3.out (by decide) hg)
            clear ho hb hg hob
            obtain ⟨vb1, hvb⟩ : ∃ v, v1 = v := ⟨_, rfl⟩
            rw [hvb] at HV4 ⊢
            rw [hvb] at HA4
            clear hvb
            refine hK _ _ (HS.out _ HI4.out) (fun hS => ?_)
            clear hK K
            refine norm_ (a' := Act.put _ (some 52) vb1) rfl ?_
            refine norm_ (a' := ?_) ?_ ?_
            rotate_left
            · simp only [Act.put, List.setIfInBounds_toArray, List.set_cons_zero, List.set_cons_succ]; rfl
            clear hS
            refine wpAnyLast_ready (rs := [8]) (by kernel_rfl) (by simp) (AllReadyL.cons rfl (by decide) (fun K hK => ?_) AllReadyL.nil)
            · skip
              refine appF_step (w0 := w0) (base := B0) (c := 1) (some 58) rfl (by rfl) (.tmp 52) (.tmp 57) (by kernel_rfl) (by kernel_rfl) (by kernel_rfl) HV4.out (Kd.R_reads' HU4.out).2.2 HI4.out (below_sz HB0.out HI4.out) (by simp; omega) ?_
              intro v1 w5 ho hb hg hob
              have HI5 := Aside0.mk hb
              have HV5 := Aside0.mk (show FR w5 B0 v1 (xs ++ [x]) from ho)
              have HB5 := Aside0.mk (HB4.out.beside HV4.out (by decide) hg)
              clear ho hb hg hob
              obtain ⟨An, cn, rfl, hlc, hrc⟩ := Kd.R_reads HV5.out
              have HW5 := Aside0.mk (show kF.C w5 An (xs ++ [x]).length (xs ++ [x]) from hrc)
              have HWl := Lib.hid (show (xs ++ [x]).length ≤ cn from hlc)
              clear hlc hrc
              refine hK _ _ (HS.out _ HI5.out) (fun hS => ?_)
              clear hK K
              refine norm_ (a' := Act.put _ (some 58) (.slice An (xs ++ [x]).length cn)) rfl ?_
              refine norm_ (a' := ?_) ?_ ?_
              rotate_left
              · simp only [Act.put, List.setIfInBounds_toArray, List.set_cons_zero, List.set_cons_succ]; rfl
              clear hS
              refine wpAnyLast_ready (rs := [9]) (by kernel_rfl) (by simp) (AllReadyL.cons rfl (by decide) (fun K hK => ?_) AllReadyL.nil)
              · skip
                refine goes_ Tryd.func9 (by kernel_rfl) rfl #[.slice An (xs ++ [x]).length cn] (by rfl) rfl rfl (by kernel_rfl) ?_
                refine (request_calls An cn (xs ++ [x]) _ HW5.out HWl.out HWf.out).mono ?_
                rw [HRq.out]
                rintro e w6 ⟨rfl, hb⟩
                refine ⟨_, rfl, ?_⟩
                have HI6 := Aside0.mk (below_stepB HB0.out HI5.out hb)
                have HB6 := Aside0.mk (HB5.out.below hb)
                refine hK _ _ (HS.out _ HI6.out) (fun hS => ?_)
                clear hK K
                refine norm_ (a' := Act.put _ (some 59) (.tuple #[.agg #[.string ⟨#[]⟩, .string ⟨#[]⟩, .string ⟨#[]⟩, .string ⟨#[]⟩, .bool false, .int .i64 0], .int .i64 100])) rfl ?_
                refine norm_ (a' := ?_) ?_ ?_
                rotate_left
                · simp only [Act.put, List.setIfInBounds_toArray, List.set_cons_zero, List.set_cons_succ]; rfl
                clear hS
                refine dpure 10 (some 49) rfl rfl (by kernel_rfl) (fun _ _ _ h => h) (by rfl) (v := ?_) (a' := ?_) ?_ ?_ ?_
                rotate_left 2
                · intro w'; go_simp; with_reducible rfl
                · simp only [Act.put, List.setIfInBounds_toArray, List.set_cons_zero, List.set_cons_succ]; rfl
                refine dpure 11 (some 60) rfl rfl (by kernel_rfl) (fun _ _ _ h => h) (by rfl) (v := ?_) (a' := ?_) ?_ ?_ ?_
                rotate_left 2
                · intro w'; go_simp; with_reducible rfl
                · simp only [Act.put, List.setIfInBounds_toArray, List.set_cons_zero, List.set_cons_succ]; rfl
                refine dpure 12 (some 61) rfl rfl (by kernel_rfl) (fun _ _ _ h => h) (by rfl) (v := ?_) (a' := ?_) ?_ ?_ ?_
                rotate_left 2
                · intro w'; go_simp; with_reducible rfl
                · simp only [Act.put, List.setIfInBounds_toArray, List.set_cons_zero, List.set_cons_succ]; rfl
                clear hb
                refine lcast (l' := #[true, true, true, true, true, true, true, true, true, true, true, true, true, true, false, false]) (by kernel_rfl) ?_
                exact JT (va, vb1, .slice An (xs ++ [x]).length cn, .slice (some ⟨gl, 0, none⟩) 1 1, qb) w6 ⟨HB6.out, HI6.out, HQ.out⟩
      · skip
        have hb := below_alloc (Below.refl w1.heap.size w1) (.cells #[.string x.n, .string x.v, .bool x.nv] 41)
        have HI2 := Aside0.mk (below_stepB HB0.out HI1.out hb)
        have HB2 := Aside0.mk (HB1.out.below hb)
        have HU2 := Aside0.mk (show FR (w1.alloc (.cells #[.string x.n, .string x.v, .bool x.nv] 41)) B0 (.slice (some ⟨w1.heap.size, 0, none⟩) 1 1) [x] from fr_one (base := B0) w1 (below_sz HB0.out HI1.out) _)
        refine event_step (by kernel_rfl) (v := .slice (some ⟨w1.heap.size, 0, none⟩) 1 1) (w1 := w1.alloc (.cells #[.string x.n, .string x.v, .bool x.nv] 41)) (by first | (go_simp; done) | (go_simp; rfl)) ?_
        refine hK _ _ (HS.out _ HI2.out) (fun hS => ?_)
        clear hK K
        refine norm_ (a' := Act.put _ (some 57) (.slice (some ⟨w1.heap.size, 0, none⟩) 1 1)) rfl ?_
        refine norm_ (a' := ?_) ?_ ?_
        rotate_left
        · simp only [Act.put, List.setIfInBounds_toArray, List.set_cons_zero, List.set_cons_succ]; rfl
        clear hS
        clear hb
        generalize w1.alloc (.cells #[.string x.n, .string x.v, .bool x.nv] 41) = w2 at *
        generalize w1.heap.size = gl at *
        refine wpAnyLast_ready (rs := [0]) (by kernel_rfl) (by simp) (AllReadyL.cons rfl (by decide) (fun K hK => ?_) AllReadyL.nil)
        · skip
          have hb := below_alloc (Below.refl w2.heap.size w2) (.cells #[] 41)
          have HI3 := Aside0.mk (below_stepB HB0.out HI2.out hb)
          have HU3 := Aside0.mk (Kd.R_below HU2.out hb)
          have HB3 := Aside0.mk (HB2.out.below hb)
          have HV3 := Aside0.mk (fr_nil (base := B0) w2 (below_sz HB0.out HI2.out))
          have HA3 := Aside0.mk (apart_nil HU2.out 0 0)
          refine event_step (by kernel_rfl) (v := .slice (some ⟨w2.heap.size, 0, none⟩) 0 0) (w1 := w2.alloc (.cells #[] 41)) (by go_simp; done) ?_
          refine hK _ _ (HS.out _ HI3.out) (fun hS => ?_)
          clear hK K
          refine norm_ (a' := Act.put _ (some 50) (.slice (some ⟨w2.heap.size, 0, none⟩) 0 0)) rfl ?_
          refine norm_ (a' := ?_) ?_ ?_
          rotate_left
          · simp only [Act.put, List.setIfInBounds_toArray, List.set_cons_zero, List.set_cons_succ]; rfl
          clear hS
          clear hb
          generalize w2.alloc (.cells #[] 41) = w3 at *
          generalize Value.slice (some ⟨w2.heap.size, 0, none⟩) 0 0 = va at *
          refine wpAnyLast_ready (rs := [2]) (by kernel_rfl) (by simp) (AllReadyL.cons rfl (by decide) (fun K hK => ?_) AllReadyL.nil)
          · skip
            refine appF_step (w0 := w0) (base := B0) (c := cp) (some 52) rfl (by rfl) (.tmp 50) (.tmp 51) (by kernel_rfl) (by kernel_rfl) (by kernel_rfl) HV3.out (HRx.out _ HI3.out) HI3.out (below_sz HB0.out HI3.out) (by simp; omega) ?_
            intro v1 w4 ho hb hg hob
            have HI4 := Aside0.mk hb
            have HV4 := Aside0.mk (show FR w4 B0 v1 xs from ho)
            have HU4 := Aside0.mk (fr_side HU3.out HA3.out hg)
            have HA4 := Aside0.mk (HA3.out.grow HU3.out hob)
            have HB4 := Aside0.mk (HB3.out.beside HV3.out (by decide) hg)
            clear ho hb hg hob
            obtain ⟨vb1, hvb⟩ : ∃ v, v1 = v := ⟨_, rfl⟩
            rw [hvb] at HV4 ⊢
            rw [hvb] at HA4
            clear hvb
            refine hK _ _ (HS.out _ HI4.out) (fun hS => ?_)
            clear hK K
            refine norm_ (a' := Act.put _ (some 52) vb1) rfl ?_
            refine norm_ (a' := ?_) ?_ ?_
            rotate_left
            · simp only [Act.put, List.setIfInBounds_toArray, List.set_cons_zero, List.set_cons_succ]; rfl
            clear hS
            refine wpAnyLast_ready (rs := [8]) (by kernel_rfl) (by simp) (AllReadyL.cons rfl (by decide) (fun K hK => ?_) AllReadyL.nil)
            · skip
              refine appF_step (w0 := w0) (base := B0) (c := 1) (some 58) rfl (by rfl) (.tmp 52) (.tmp 57) (by kernel_rfl) (by kernel_rfl) (by kernel_rfl) HV4.out (Kd.R_reads' HU4.out).2.2 HI4.out (below_sz HB0.out HI4.out) (by simp; omega) ?_
              intro v1 w5 ho hb hg hob
              have HI5 := Aside0.mk hb
              have HV5 := Aside0.mk (show FR w5 B0 v1 (xs ++ [x]) from ho)
              have HB5 := Aside0.mk (HB4.out.beside HV4.out (by decide) hg)
              clear ho hb hg hob
              obtain ⟨An, cn, rfl, hlc, hrc⟩ := Kd.R_reads HV5.out
              have HW5 := Aside0.mk (show kF.C w5 An (xs ++ [x]).length (xs ++ [x]) from hrc)
              have HWl := Lib.hid (show (xs ++ [x]).length ≤ cn from hlc)
              clear hlc hrc
              refine hK _ _ (HS.out _ HI5.out) (fun hS => ?_)
              clear hK K
              refine norm_ (a' := Act.put _ (some 58) (.slice An (xs ++ [x]).length cn)) rfl ?_
              refine norm_ (a' := ?_) ?_ ?_
              rotate_left
              · simp only [Act.put, List.setIfInBounds_toArray, List.set_cons_zero, List.set_cons_succ]; rfl
              clear hS
              refine wpAnyLast_ready (rs := [9]) (by kernel_rfl) (by simp) (AllReadyL.cons rfl (by decide) (fun K hK => ?_) AllReadyL.nil)
              · skip
                refine goes_ Tryd.func9 (by kernel_rfl) rfl #[.slice An (xs ++ [x]).length cn] (by rfl) rfl rfl (by kernel_rfl) ?_
                refine (request_calls An cn (xs ++ [x]) _ HW5.out HWl.out HWf.out).mono ?_
                rw [HRq.out]
                rintro e w6 ⟨rfl, hb⟩
                refine ⟨_, rfl, ?_⟩
                have HI6 := Aside0.mk (below_stepB HB0.out HI5.out hb)
                have HB6 := Aside0.mk (HB5.out.below hb)
                refine hK _ _ (HS.out _ HI6.out) (fun hS => ?_)
                clear hK K
                refine norm_ (a' := Act.put _ (some 59) (.tuple #[.agg #[.string ⟨#[]⟩, .string ⟨#[]⟩, .string ⟨#[]⟩, .string ⟨#[]⟩, .bool false, .int .i64 0], .int .i64 100])) rfl ?_
                refine norm_ (a' := ?_) ?_ ?_
                rotate_left
                · simp only [Act.put, List.setIfInBounds_toArray, List.set_cons_zero, List.set_cons_succ]; rfl
                clear hS
                refine dpure 10 (some 49) rfl rfl (by kernel_rfl) (fun _ _ _ h => h) (by rfl) (v := ?_) (a' := ?_) ?_ ?_ ?_
                rotate_left 2
                · intro w'; go_simp; with_reducible rfl
                · simp only [Act.put, List.setIfInBounds_toArray, List.set_cons_zero, List.set_cons_succ]; rfl
                refine dpure 11 (some 60) rfl rfl (by kernel_rfl) (fun _ _ _ h => h) (by rfl) (v := ?_) (a' := ?_) ?_ ?_ ?_
                rotate_left 2
                · intro w'; go_simp; with_reducible rfl
                · simp only [Act.put, List.setIfInBounds_toArray, List.set_cons_zero, List.set_cons_succ]; rfl
                refine dpure 12 (some 61) rfl rfl (by kernel_rfl) (fun _ _ _ h => h) (by rfl) (v := ?_) (a' := ?_) ?_ ?_ ?_
                rotate_left 2
                · intro w'; go_simp; with_reducible rfl
                · simp only [Act.put, List.setIfInBounds_toArray, List.set_cons_zero, List.set_cons_succ]; rfl
                clear hb
                refine lcast (l' := #[true, true, true, true, true, true, true, true, true, true, true, true, true, true, false, false]) (by kernel_rfl) ?_
                exact JT (va, vb1, .slice An (xs ++ [x]).length cn, .slice (some ⟨gl, 0, none⟩) 1 1, qb) w6 ⟨HB6.out, HI6.out, HQ.out⟩
theorem wrongs_all (W : World) (v : Value) (xs : List Fl) (hm : FlV W v xs) (hi : FlIn xs) (n : Int) (hn : (Lit.int .i64 n).wf = true) :
    Calls Tryd.prog 5 #[v, .int .i64 n] W fun e W' => e = .returned (.bool true) ∧ Below W.heap.size W W' := by
  have h : -9223372036854775808 ≤ n ∧ n ≤ 9223372036854775807 := by simpa [Lit.wf, IntKind.min, IntKind.max, IntKind.signed, IntKind.bits] using hn
  obtain ⟨A, c, rfl, hc, hr⟩ := hm
  exact wrong_calls A c xs n W hr hc hi h
end Go.Proofs.YtdpoookgmckclaaDoor.M
