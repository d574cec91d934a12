/- Walks: nunciolaw20.awake, nunciolaw13.FewFields. -/
import Derived.Test.YtdpoookgmckclaaDoorMHMem
set_option linter.unusedVariables false
set_option linter.unusedSimpArgs false
namespace Go.Proofs.YtdpoookgmckclaaDoor.M
open Go.RowKit Go.Maps Go.Proofs.YtdpoookgmckclaaDoorW.PrintWords Go.Proofs.YtdpoookgmckclaaDoorW.PrintLast Go.Proofs.YtdpoookgmckclaaDoorW.PrintMore
attribute [local go_sem] max2_int min2_int max_two min_two max_three min_three max_four min_four
attribute [local go_sem ↓] Go.wp_at_zero Go.wp_at_succ
def aw0 : Fl := ⟨meN, ⟨#[71, 69, 84]⟩, false⟩
def aw1 : Fl := ⟨scN, ⟨#[104, 116, 116, 112, 115]⟩, false⟩
def aw2 : Fl := ⟨paN, ⟨#[47, 120]⟩, false⟩
def aw3 : Fl := ⟨ctN, ⟨#[65, 47, 66, 59, 32, 99]⟩, false⟩
def aw4 : Fl := ⟨clN, ⟨#[53]⟩, false⟩
def aw5 : Fl := ⟨auN, ⟨#[120]⟩, false⟩
def aw6 : Fl := ⟨stN, ⟨#[52, 48, 52]⟩, false⟩
theorem aw_req : requestF ([aw0, aw1, aw2, aw3, aw4].map Fl.f) = some (⟨#[71, 69, 84]⟩, ⟨#[47, 120]⟩, ⟨#[97, 47, 98]⟩, 5) := by decide +kernel
theorem aw_req6 : requestF (([aw0, aw1, aw2, aw3, aw4] ++ [aw5]).map Fl.f) = none := by decide +kernel
theorem aw_res : responseF ([aw6].map Fl.f) = some (404, ⟨#[]⟩, -1) := by decide +kernel
theorem aw_tr : trailersF (([] : List Fl).map Fl.f) = true := by decide +kernel
theorem few_of (xs : List Fl) (h : xs.length ≤ 10000 ∧ (xs.all fun x => decide (x.n.size ≤ 100000) && decide (x.v.size ≤ 100000)) = true) : FewF xs := by
  refine ⟨h.1, fun x hx => ?_, fun x hx => ?_⟩
  · have := List.all_eq_true.1 h.2 x hx
    rw [Bool.and_eq_true] at this
    exact of_decide_eq_true this.1
  · have := List.all_eq_true.1 h.2 x hx
    rw [Bool.and_eq_true] at this
    exact of_decide_eq_true this.2
set_option maxHeartbeats 8000000 in
set_option maxRecDepth 100000 in
theorem awake20_calls (w : World) :
    Calls Tryd.prog 7 #[] w fun e w' => e = .returned (.bool true) ∧ Below w.heap.size w w' := by
  have HL := Aside0.mk (fl_lit w w.heap.size [aw0, aw1, aw2, aw3, aw4] (Nat.le_refl _) (by decide))
  have HB := Aside0.mk (below_alloc (Below.refl w.heap.size w) (.cells (flCells [aw0, aw1, aw2, aw3, aw4]).toArray 41 (0, 0)))
  go_enter Tryd.func7, Tryd.ntmps7
  go_wp2_with fail
  change Calls _ _ _ (w.alloc (.cells (flCells [aw0, aw1, aw2, aw3, aw4]).toArray 41 (0, 0))) _
  generalize w.alloc (.cells (flCells [aw0, aw1, aw2, aw3, aw4]).toArray 41 (0, 0)) = w1 at *
  obtain ⟨g1, hg1⟩ : ∃ g, w.heap.size = g := ⟨_, rfl⟩
  have HL1 := Aside0.mk (show FR w1 w.heap.size (.slice (some ⟨g1, 0, none⟩) 5 5) [aw0, aw1, aw2, aw3, aw4] by have := HL.out; rw [← hg1]; exact this)
  simp only [hg1]
  clear hg1 HL
  refine (request_calls _ _ [aw0, aw1, aw2, aw3, aw4] _ (Kd.R_reads' HL1.out).2.2 (by decide) (few_of _ (by decide +kernel))).mono ?_
  rw [aw_req]
  rintro e w2 ⟨rfl, hb⟩
  unfold reqE
  have HL2 := Aside0.mk (Kd.R_below HL1.out hb)
  have HB2 := Aside0.mk (below_step HB.out hb)
  clear hb HL1 HB
  go_upto_region 3 with fail
  have hal := below_alloc (Below.refl w2.heap.size w2) (.cells #[.string ⟨#[71, 69, 84]⟩, .string ⟨#[47, 120]⟩, .string ⟨#[]⟩, .string ⟨#[97, 47, 98]⟩, .bool false, .int .i64 5] 26 (0, 0))
  have HX3 := Aside0.mk (SAt.new w2 #[.string ⟨#[71, 69, 84]⟩, .string ⟨#[47, 120]⟩, .string ⟨#[]⟩, .string ⟨#[97, 47, 98]⟩, .bool false, .int .i64 5] 26)
  have HL3 := Aside0.mk (Kd.R_below HL2.out hal)
  have HB3 := Aside0.mk (below_step HB2.out hal)
  generalize w2.alloc (.cells #[.string ⟨#[71, 69, 84]⟩, .string ⟨#[47, 120]⟩, .string ⟨#[]⟩, .string ⟨#[97, 47, 98]⟩, .bool false, .int .i64 5] 26 (0, 0)) = w3 at *
  obtain ⟨q, hq⟩ : ∃ g, w2.heap.size = g := ⟨_, rfl⟩
  rw [hq] at HX3 ⊢
  clear hal hq HL2 HB2
  have HO4 := Aside0.mk (Kd.R_alloc HL3.out (.cells (flCells [aw5]).toArray 41 (0, 0)))
  have HR4 := Aside0.mk (fl_lit w3 w.heap.size [aw5] HB3.out.size (by decide))
  have HB4 := Aside0.mk (below_step HB3.out (below_alloc (Below.refl w3.heap.size w3) (.cells (flCells [aw5]).toArray 41 (0, 0))))
  have HX4 := Aside0.mk (HX3.out.below (below_alloc (Below.refl w3.heap.size w3) (.cells (flCells [aw5]).toArray 41 (0, 0))))
  go_wp2_with ((with_reducible refine gate_builtin (b := .append) (xs := #[.tmp 20, .tmp 22]) rfl ?_); at_builtin; go_must (refine appF (w0 := w) (base := w.heap.size) (c := 1) rfl (.tmp 20) (.tmp 22) rfl rfl rfl HO4.out (Kd.R_reads' HR4.out).2.2 HB4.out HB4.out.size (by decide) ?_; intro v5 w5 hO5 hB5 hg5 hat5))
  obtain ⟨A5, c5, rfl⟩ := Kd.R_slice hO5
  have HX5 := Aside0.mk (show SAt w5 q _ _ from blk_grown HX4.out hg5 (Kd.R_ne HO4.out HX4.out (by decide)))
  have HO5 := Aside0.mk hO5
  have HB5 := Aside0.mk hB5
  clear hO5 hB5 hg5 hat5 HO4 HR4 HB4 HX4 HX3 HL3 HB3
  refine (request_calls _ _ ([aw0, aw1, aw2, aw3, aw4] ++ [aw5]) _ (Kd.R_reads' HO5.out).2.2 (Kd.R_reads' HO5.out).2.1 (few_of _ (by decide +kernel))).mono ?_
  rw [aw_req6]
  rintro e w6 ⟨rfl, hb⟩
  unfold reqE
  have HX6 := Aside0.mk (HX5.out.below hb)
  have HB6 := Aside0.mk (below_step HB5.out hb)
  clear hb HX5 HB5 HO5
  go_upto_region 4 with fail
  have hal := below_alloc (Below.refl w6.heap.size w6) (.cells #[.string ⟨#[]⟩, .string ⟨#[]⟩, .string ⟨#[]⟩, .string ⟨#[]⟩, .bool false, .int .i64 0] 26 (0, 0))
  have HX7 := Aside0.mk (HX6.out.below hal)
  have HB7 := Aside0.mk (below_step HB6.out hal)
  generalize w6.alloc (.cells #[.string ⟨#[]⟩, .string ⟨#[]⟩, .string ⟨#[]⟩, .string ⟨#[]⟩, .bool false, .int .i64 0] 26 (0, 0)) = w7 at *
  generalize w6.heap.size = q6 at *
  clear hal HX6 HB6
  have hal := below_alloc (Below.refl w7.heap.size w7) (.cells (flCells [aw6]).toArray 41 (0, 0))
  have HL8 := Aside0.mk (fl_lit w7 w.heap.size [aw6] HB7.out.size (by decide))
  have HX8 := Aside0.mk (HX7.out.below hal)
  have HB8 := Aside0.mk (below_step HB7.out hal)
  go_wp2_with fail
  change Calls _ _ _ (w7.alloc (.cells (flCells [aw6]).toArray 41 (0, 0))) _
  refine (response_calls _ _ [aw6] _ (Kd.R_reads' HL8.out).2.2 (by decide) (few_of _ (by decide +kernel))).mono ?_
  rw [aw_res]
  rintro e w9 ⟨rfl, hb⟩
  unfold resE
  have HX9 := Aside0.mk (HX8.out.below hb)
  have HB9 := Aside0.mk (below_step HB8.out hb)
  clear hb HX8 HB8 HX7 HB7 HL8 hal
  go_upto_region 5 with fail
  have hal := below_alloc (Below.refl w9.heap.size w9) (.cells #[.int .i64 404, .string ⟨#[]⟩, .int .i64 (-1)] 33 (0, 0))
  have HX10 := Aside0.mk (HX9.out.below hal)
  have HY10 := Aside0.mk (SAt.new w9 #[.int .i64 404, .string ⟨#[]⟩, .int .i64 (-1)] 33)
  have HB10 := Aside0.mk (below_step HB9.out hal)
  generalize w9.alloc (.cells #[.int .i64 404, .string ⟨#[]⟩, .int .i64 (-1)] 33 (0, 0)) = w10 at *
  obtain ⟨r, hr⟩ : ∃ g, w9.heap.size = g := ⟨_, rfl⟩
  rw [hr] at HY10 ⊢
  clear hal hr HX9 HB9
  have x0 := HX10.out.is 0 rfl
  have x1 := HX10.out.is 1 rfl
  have x3 := HX10.out.is 3 rfl
  have x5 := HX10.out.is 5 rfl
  have y0 := HY10.out.is 0 rfl
  have y2 := HY10.out.is 2 rfl
  go_wp2_with fail
  refine (trailers_calls none 0 [] _ (Kd.C_nil kF _) (Nat.le_refl _) (few_of _ (by decide +kernel))).mono ?_
  rw [aw_tr]
  rintro e w11 ⟨rfl, hb⟩
  unfold trailE
  have HB11 := Aside0.mk (below_step HB10.out hb)
  clear hb x0 x1 x3 x5 y0 y2
  go_wp2_with fail
  go_ret
  exact ⟨rfl, HB11.out⟩
/-- Fields that are few and short. -/
structure Few20 (xs : List Fl) : Prop where
  len : xs.length ≤ 3000
  n : ∀ x ∈ xs, x.n.size ≤ 3000
  v : ∀ x ∈ xs, x.v.size ≤ 3000
theorem Few20.few {xs : List Fl} (h : Few20 xs) : FewF xs := ⟨by have := h.len; omega, fun x hx => by have := h.n x hx; omega, fun x hx => by have := h.v x hx; omega⟩
/-- How a test ends that says something only where it is met. -/
def SomeF (P : Prop) (Q : World → Prop) (e : Ending) (w' : World) : Prop := ∃ b, e = .returned (.bool b) ∧ (b = true → P) ∧ Q w'
/-- What is asked of fields ahead. -/
structure FlIn (xs : List Fl) : Prop where
  n : ∀ x ∈ xs, x.n.size ≤ 140737488351232
  v : ∀ x ∈ xs, x.v.size ≤ 140737488351232
set_option maxHeartbeats 8000000 in
set_option maxRecDepth 100000 in
theorem fewFields_calls (A : Option Addr) (cp : Nat) (xs : List Fl) (w : World) (hr : kF.C w A xs.length xs) (hi : FlIn xs) :
    Calls Tryd.prog 8 #[.slice A xs.length cp] w fun e w' => SomeF (Few20 xs) (fun w' => Below w.heap.size w w') e w' := by
  have HRd := Aside0.mk hr
  have HI := Aside0.mk hi
  have HB := Aside0.mk (Below.refl w.heap.size w)
  have hmx := Kd.C_max hr
  obtain ⟨n0, hn0⟩ : ∃ n : Nat, min xs.length 3000 = n := ⟨_, rfl⟩
  have hmin : (if (3000 : Int) < (xs.length : Int) then 3000 else (xs.length : Int)) = (n0 : Int) := by split <;> omega
  have HN0 := Aside0.mk hn0
  have hn0' : n0 ≤ 3000 := by omega
  clear hr hi hn0
  go_enter Tryd.func8, Tryd.ntmps8
  go_wp2_with fail
  go_loopg [3, 4] xs.length (fun kq v3 v4 w' => ∃ k n : Nat, v4 = .int .i64 k ∧ v3 = .int .i64 n ∧ Aside0 (kq + k = xs.length) ∧ Aside0 (n ≤ 9000 ∧ n0 ≤ n) ∧ Aside0 (∀ j, j < k → min (xs.getD j zFl).n.size 3000 ≤ n ∧ min (xs.getD j zFl).v.size 3000 ≤ n) ∧ Aside0 (Below w.heap.size w w'))
  case atStart => exact ⟨0, n0, rfl, rfl, ⟨rfl⟩, ⟨by omega⟩, ⟨fun j hj => absurd hj (by omega)⟩, HB⟩
  case round =>
    clear HB
    obtain ⟨k, n, rfl, rfl, HK, HN, HF, HB⟩ := hrel
    have hn9 := HN.out.1
    by_cases hbig : n < 3000
    case neg =>
      have d1 : decide ((n : Int) < 3000) = false := decide_eq_false (by omega)
      have d2 : decide (n < 3000) = false := decide_eq_false hbig
      clear hbig
      by_cases hk : k < xs.length
      · have q2 : (k : Int) < (xs.length : Int) := by omega
        go_wp2_with fail
        go_ret
        exact ⟨false, rfl, fun h => absurd h (by decide), HB.out⟩
      · have q2 : ¬ (k : Int) < (xs.length : Int) := by omega
        go_wp2_with fail
        go_ret
        exact ⟨false, rfl, fun h => absurd h (by decide), HB.out⟩
    have d1 : decide ((n : Int) < 3000) = true := decide_eq_true (by omega)
    have d2 : decide (n < 3000) = true := decide_eq_true hbig
    cases gk with
    | zero =>
      obtain rfl : k = xs.length := by have := HK.out; omega
      have HFew := Aside0.mk (show Few20 xs from by
        have h0 := HN.out.2
        have h1 := HN0.out
        have hall : ∀ x ∈ xs, x.n.size ≤ 3000 ∧ x.v.size ≤ 3000 := by
          intro x hx
          obtain ⟨j, hj, rfl⟩ := List.getElem_of_mem hx
          have := HF.out j hj
          rw [List.getD_eq_getElem?_getD, List.getElem?_eq_getElem hj, Option.getD_some] at this
          omega
        exact ⟨by omega, fun x hx => (hall x hx).1, fun x hx => (hall x hx).2⟩)
      clear hbig
      go_wp2_with fail
      go_ret
      exact ⟨true, rfl, fun _ => HFew.out, HB.out⟩
    | succ j =>
      have hk : k < xs.length := by have := HK.out; omega
      obtain ⟨ad, x, rfl, hx, e0, e1, e2⟩ := at_fl (Kd.C_below HRd.out HB.out) k hk
      have hmem : x ∈ xs := by
        rw [List.getD_eq_getElem?_getD, List.getElem?_eq_getElem hk] at hx
        rw [← hx]
        exact List.getElem_mem hk
      have s1 := HI.out.n x hmem
      have s2 := HI.out.v x hmem
      obtain ⟨u, hu⟩ : ∃ u : Nat, min x.n.size 3000 = u := ⟨_, rfl⟩
      obtain ⟨t, ht⟩ : ∃ u : Nat, min x.v.size 3000 = u := ⟨_, rfl⟩
      have hmu : (if (3000 : Int) < (x.n.size : Int) then 3000 else (x.n.size : Int)) = (u : Int) := by split <;> omega
      have hmt : (if (3000 : Int) < (x.v.size : Int) then 3000 else (x.v.size : Int)) = (t : Int) := by split <;> omega
      have q1 : (0 : Int) ≤ (k : Int) := by omega
      have q2 : (k : Int) < (xs.length : Int) := by omega
      have hw1 : IntKind.i64.wrap ((n : Int) + (u : Int)) = (n : Int) + (u : Int) := by rw [IntKind.wrap_i64]; omega
      have hw2 : IntKind.i64.wrap ((n : Int) + (u : Int) + (t : Int)) = (n : Int) + (u : Int) + (t : Int) := by rw [IntKind.wrap_i64]; omega
      have HF2 := Aside0.mk (show ∀ j, j < k + 1 → min (xs.getD j zFl).n.size 3000 ≤ n + u + t ∧ min (xs.getD j zFl).v.size 3000 ≤ n + u + t from by
        intro j hj
        by_cases he : j = k
        · subst he
          rw [hx]
          omega
        · have := HF.out j (by omega)
          omega)
      have HN2 := Aside0.mk (show n + u + t ≤ 9000 ∧ n0 ≤ n + u + t from by have := HN.out; omega)
      clear hmem hu ht hbig hx
      go_wp2_with fail
      refine dr_start (fun w' => w'.cell? (ad.add (k * 3)) = some (.string x.n) ∧ w'.cell? ⟨(ad.add (k * 3)).block, (ad.add (k * 3)).off + 1, none⟩ = some (.string x.v)) [] (by kernel_rfl) ⟨e0, e1⟩ (fun hS => ?_)
      repeat (first | (refine dr_pure (by kernel_rfl) (by rfl) (fun _ _ _ h => h) (v := ?_) (a' := ?_) ?_ ?_ ?_; rotate_left 2; (focus (intro w'; go_simp; with_reducible rfl)); (focus (simp only [Act.put, List.setIfInBounds_toArray, List.set_cons_zero, List.set_cons_succ]; rfl))) | (refine dr_take (by kernel_rfl) (by rfl) (fun _ _ _ h => h) hS (v := ?_) (a' := ?_) ?_ ?_ ?_; rotate_left 2; (focus (intro w' hS'; go_simp; with_reducible rfl)); (focus (simp only [Act.put, List.setIfInBounds_toArray, List.set_cons_zero, List.set_cons_succ]; rfl))) | (refine dr_off (by kernel_rfl) (by rfl) (fun _ _ _ h => h) (a' := ?_) ?_ ?_; rotate_left; (focus (simp only [Act.put, List.setIfInBounds_toArray, List.set_cons_zero, List.set_cons_succ]; rfl))))
      refine dr_done (by kernel_rfl) ?_
      clear hS e0 e1 e2
      go_wp2_with fail
      go_roundg j
      case measure => omega
      case rel => exact ⟨k + 1, n + u + t, by go_num, by go_num, ⟨by have := HK.out; omega⟩, HN2, HF2, ⟨HB.out.drew⟩⟩
end Go.Proofs.YtdpoookgmckclaaDoor.M
