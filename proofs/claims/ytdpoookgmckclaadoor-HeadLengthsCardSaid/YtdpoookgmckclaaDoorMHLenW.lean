/- Walk of nunciolaw20.HeadLengths, with its plain law. -/
import Derived.Test.YtdpoookgmckclaaDoorMHFew
import Derived.Test.YtdpoookgmckclaaDoorMHLen
import Derived.Test.YtdpoookgmckclaaDoorMNumb
import Derived.Test.YtdpoookgmckclaaDoorRows
import Derived.Stop.LaidErr
import Derived.Laws.Concat
set_option linter.unusedVariables false
set_option linter.unusedSimpArgs false
namespace Go.Proofs.YtdpoookgmckclaaDoor.M
open Go.RowKit Go.Maps Go.Proofs.YtdpoookgmckclaaDoorW.PrintWords Go.Proofs.YtdpoookgmckclaaDoorW.PrintLast Go.Proofs.YtdpoookgmckclaaDoorW.PrintMore
attribute [local go_sem] max2_int min2_int max_two min_two max_three min_three max_four min_four
attribute [local go_sem ↓] Go.wp_at_zero Go.wp_at_succ
theorem flCells_get (xs : List Fl) : ∀ (j i : Nat) (x : Fl), xs[j]? = some x → i < 3 → (flCells xs)[j * 3 + i]? = ([.string x.n, .string x.v, .bool x.nv] : List Value)[i]? := by
  induction xs with
  | nil => intro j i x h; exact absurd h (by simp)
  | cons y xs ih =>
    intro j i x h hi
    have e : flCells (y :: xs) = [.string y.n, .string y.v, .bool y.nv] ++ flCells xs := rfl
    rw [e]
    cases j with
    | zero =>
      rw [List.getElem?_cons_zero] at h
      obtain rfl := Option.some.inj h
      rw [Nat.zero_mul, Nat.zero_add, List.getElem?_append_left (by simpa using hi)]
    | succ j =>
      rw [List.getElem?_cons_succ] at h
      rw [List.getElem?_append_right (by simp; omega)]
      have := ih j i x h hi
      rw [← this]
      congr 1
      simp
      omega
theorem fl_sat {w : World} {g : Nat} {xs : List Fl} (h : SAt w g (flCells xs).toArray 41) (hl : xs.length ≤ 1000000) : kF.C w (some ⟨g, 0, none⟩) xs.length xs := by
  refine ⟨rfl, by omega, fun hn => ⟨_, rfl, fun j p hp => ⟨_, rfl, kF_mk w p, fun i u hu => ?_⟩⟩⟩
  have hi : i < 3 := (List.getElem?_eq_some_iff.1 hu).1
  have h1 := flCells_get xs j i p hp hi
  have h2 := h.cell (j * 3 + i)
  have ha : (⟨g, 0, none⟩ : Addr).add (j * 3 + i) = ⟨g, j * 3 + i, none⟩ := by unfold Addr.add; split <;> simp_all
  show w.cell? ((⟨g, 0, none⟩ : Addr).add (j * 3 + i)) = some u
  rw [ha, h2, List.getElem?_toArray, h1, hu]
def lq0 : Fl := ⟨meN, ⟨#[71, 69, 84]⟩, false⟩
def lq1 : Fl := ⟨scN, ⟨#[104, 116, 116, 112, 115]⟩, false⟩
def lq2 : Fl := ⟨paN, ⟨#[47]⟩, false⟩
def lq3 (v : ByteArray) : Fl := ⟨clN, v, false⟩
def ls0 : Fl := ⟨stN, ⟨#[50, 48, 48]⟩, false⟩
theorem lq_map (v : ByteArray) : [lq0, lq1, lq2, lq3 v].map Fl.f = [l0F, l1F, l2F, (clN, v)] := rfl
theorem ls_map (v : ByteArray) : [ls0, lq3 v].map Fl.f = [s0F, (clN, v)] := rfl
theorem num_size (n : Int) (h : n ≤ 9223372036854775807) : (numF n).size ≤ 1000 := by
  unfold numF
  split
  · exact Nat.zero_le _
  · have h1 := dg_len 18 n.toNat (by omega)
    have h2 : (dgI n.toNat).length = (dgS n.toNat).size := bytesOf_length _
    show (dgS n.toNat).size ≤ 1000
    omega
theorem badV_size (v : ByteArray) (h : v.size ≤ 1000) (k : Nat) : (badV v k).size ≤ 3000 := by
  match k with
  | 0 => show (⟨#[43]⟩ ++ v).size ≤ _; rw [ByteArray.size_append, show (⟨#[43]⟩ : ByteArray).size = 1 from rfl]; omega
  | 1 => show (⟨#[48]⟩ ++ v).size ≤ _; rw [ByteArray.size_append, show (⟨#[48]⟩ : ByteArray).size = 1 from rfl]; omega
  | 2 => show (v ++ ⟨#[120]⟩).size ≤ _; rw [ByteArray.size_append, show (⟨#[120]⟩ : ByteArray).size = 1 from rfl]; omega
  | 3 => show (⟨#[45]⟩ ++ v).size ≤ _; rw [ByteArray.size_append, show (⟨#[45]⟩ : ByteArray).size = 1 from rfl]; omega
  | 4 => show ((v ++ ⟨#[32]⟩) ++ v).size ≤ _; rw [ByteArray.size_append, ByteArray.size_append, show (⟨#[32]⟩ : ByteArray).size = 1 from rfl]; omega
  | k + 5 => exact Nat.zero_le _
theorem lq_few {v : ByteArray} (h : v.size ≤ 3000) : FewF [lq0, lq1, lq2, lq3 v] := by
  refine ⟨by simp, fun x hx => ?_, fun x hx => ?_⟩
  all_goals
    simp only [List.mem_cons, List.not_mem_nil, or_false] at hx
    rcases hx with rfl | rfl | rfl | rfl
  · decide
  · decide
  · decide
  · show clN.size ≤ _; decide
  · decide
  · decide
  · decide
  · show v.size ≤ _; omega
theorem ls_few {v : ByteArray} (h : v.size ≤ 3000) : FewF [ls0, lq3 v] := by
  refine ⟨by simp, fun x hx => ?_, fun x hx => ?_⟩
  all_goals
    simp only [List.mem_cons, List.not_mem_nil, or_false] at hx
    rcases hx with rfl | rfl
  · decide
  · show clN.size ≤ _; decide
  · decide
  · show v.size ≤ _; omega
set_option maxHeartbeats 8000000 in
set_option maxRecDepth 100000 in
theorem lengths_calls (n : Int) (sp : Nat) (w : World) (hn0 : -9223372036854775808 ≤ n) (hn1 : n ≤ 9223372036854775807) (hsp : sp ≤ 255) (ht : Tab w) :
    Calls Tryd.prog 6 #[.int .i64 n, .int .u8 sp] w fun e w' => e = .returned (.bool true) ∧ Below w.heap.size w w' := by
  have HT := Lib.hid ht
  clear ht
  by_cases h0 : n < 0
  · have d1 : decide (n < 0) = true := decide_eq_true h0
    clear h0 hn0 hn1
    go_enter Tryd.func6, Tryd.ntmps6
    go_wp2_with fail
    refine (awake20_calls _).mono ?_
    rintro e w1 ⟨rfl, hb⟩
    have HB := Aside0.mk hb
    clear hb
    go_wp2_with fail
    go_ret
    exact ⟨rfl, HB.out⟩
  have d1 : decide (n < 0) = false := decide_eq_false h0
  by_cases h1 : 999999999 < n
  · have d2 : decide (999999999 < n) = true := decide_eq_true h1
    clear h0 h1 hn0 hn1
    go_enter Tryd.func6, Tryd.ntmps6
    go_wp2_with fail
    refine (awake20_calls _).mono ?_
    rintro e w1 ⟨rfl, hb⟩
    have HB := Aside0.mk hb
    clear hb
    go_wp2_with fail
    go_ret
    exact ⟨rfl, HB.out⟩
  have d2 : decide (999999999 < n) = false := decide_eq_false h1
  have HL := Lib.hid (len_law (n := n) (by omega) (by omega))
  have HZ := Lib.hid (num_size n hn1)
  have HN := Lib.hid (And.intro hn0 hn1)
  clear h0 h1 hn0 hn1
  go_enter Tryd.func6, Tryd.ntmps6
  go_wp2_with fail
  refine (awake20_calls _).mono ?_
  rintro e w1 ⟨rfl, hb⟩
  have HB := Aside0.mk hb
  clear hb
  go_wp2_with fail
  refine (number_calls n _ HN.out.1 HN.out.2 (tab_below HT.out HB.out)).mono ?_
  obtain ⟨v, hv⟩ : ∃ v, numF n = v := ⟨_, rfl⟩
  rw [hv] at HL HZ ⊢
  clear hv
  rintro e w2 ⟨rfl, hb⟩
  have HB2 := Aside0.mk (below_step HB.out hb)
  clear hb HB
  have HX3 := Aside0.mk (SAt.new w2 (flCells [lq0, lq1, lq2, lq3 v]).toArray 41)
  have HB3 := Aside0.mk (below_step HB2.out (below_alloc (Below.refl w2.heap.size w2) (.cells (flCells [lq0, lq1, lq2, lq3 v]).toArray 41 (0, 0))))
  go_wp2_with fail
  change Calls _ _ _ (w2.alloc (.cells (flCells [lq0, lq1, lq2, lq3 v]).toArray 41 (0, 0))) _
  generalize w2.alloc (.cells (flCells [lq0, lq1, lq2, lq3 v]).toArray 41 (0, 0)) = w3 at *
  obtain ⟨g, hg⟩ : ∃ g, w2.heap.size = g := ⟨_, rfl⟩
  have hge := HB2.out.size
  rw [hg] at HX3 hge ⊢
  have HG := Lib.hid hge
  clear hg HB2 hge
  refine (request_calls (some ⟨g, 0, none⟩) 4 [lq0, lq1, lq2, lq3 v] _ (fl_sat HX3.out (by simp)) (by simp) (lq_few (by have := HZ.out; omega))).mono ?_
  rw [lq_map, HL.out.req]
  rintro e w4 ⟨rfl, hb⟩
  unfold reqE
  have HX4 := Aside0.mk (HX3.out.below hb)
  have HB4 := Aside0.mk (below_step HB3.out hb)
  clear hb HX3 HB3
  go_upto_region 8 with fail
  have hal := below_alloc (Below.refl w4.heap.size w4) (.cells #[.string getV, .string slashV, .string ⟨#[]⟩, .string ⟨#[]⟩, .bool false, .int .i64 n] 26 (0, 0))
  have HX5 := Aside0.mk (HX4.out.below hal)
  have HY5 := Aside0.mk (SAt.new w4 #[.string getV, .string slashV, .string ⟨#[]⟩, .string ⟨#[]⟩, .bool false, .int .i64 n] 26)
  have HB5 := Aside0.mk (below_step HB4.out hal)
  generalize w4.alloc (.cells #[.string getV, .string slashV, .string ⟨#[]⟩, .string ⟨#[]⟩, .bool false, .int .i64 n] 26 (0, 0)) = w5 at *
  obtain ⟨q, hq⟩ : ∃ g, w4.heap.size = g := ⟨_, rfl⟩
  rw [hq] at HY5 ⊢
  clear hal hq HX4 HB4
  have e9 : w5.cell? ⟨g, 9, none⟩ = some (.string clN) := HX5.out.is 9 rfl
  have e10 : w5.cell? ⟨g, 10, none⟩ = some (.string v) := HX5.out.is 10 rfl
  have e11 : w5.cell? ⟨g, 11, none⟩ = some (.bool false) := HX5.out.is 11 rfl
  have hal := below_alloc (Below.refl w5.heap.size w5) (.cells (flCells [ls0, lq3 v]).toArray 41 (0, 0))
  have HL6 := Aside0.mk (SAt.new w5 (flCells [ls0, lq3 v]).toArray 41)
  have HX6 := Aside0.mk (HX5.out.below hal)
  have HY6 := Aside0.mk (HY5.out.below hal)
  have HB6 := Aside0.mk (below_step HB5.out hal)
  unfold clN at e9
  go_wp2_with fail
  change Calls _ _ _ (w5.alloc (.cells (flCells [ls0, lq3 v]).toArray 41 (0, 0))) _
  generalize w5.alloc (.cells (flCells [ls0, lq3 v]).toArray 41 (0, 0)) = w6 at *
  obtain ⟨ga, hga⟩ : ∃ g, w5.heap.size = g := ⟨_, rfl⟩
  rw [hga] at HL6 ⊢
  clear hal hga HX5 HY5 HB5 e9 e10 e11
  refine (response_calls (some ⟨ga, 0, none⟩) 2 [ls0, lq3 v] _ (fl_sat HL6.out (by simp)) (by simp) (ls_few (by have := HZ.out; omega))).mono ?_
  rw [ls_map, HL.out.res]
  rintro e w7 ⟨rfl, hb⟩
  unfold resE
  have HX7 := Aside0.mk (HX6.out.below hb)
  have HY7 := Aside0.mk (HY6.out.below hb)
  have HB7 := Aside0.mk (below_step HB6.out hb)
  clear hb HX6 HY6 HB6 HL6
  go_upto_region 9 with fail
  have hal := below_alloc (Below.refl w7.heap.size w7) (.cells #[.int .i64 200, .string ⟨#[]⟩, .int .i64 n] 33 (0, 0))
  have HX8 := Aside0.mk (HX7.out.below hal)
  have HY8 := Aside0.mk (HY7.out.below hal)
  have HZ8 := Aside0.mk (SAt.new w7 #[.int .i64 200, .string ⟨#[]⟩, .int .i64 n] 33)
  have HB8 := Aside0.mk (below_step HB7.out hal)
  generalize w7.alloc (.cells #[.int .i64 200, .string ⟨#[]⟩, .int .i64 n] 33 (0, 0)) = w8 at *
  obtain ⟨r, hr⟩ : ∃ g, w7.heap.size = g := ⟨_, rfl⟩
  rw [hr] at HZ8 ⊢
  clear hal hr HX7 HB7 HY7
  have x5 : w8.cell? ⟨q, 5, none⟩ = some (.int .i64 n) := HY8.out.is 5 rfl
  have z2 : w8.cell? ⟨r, 2, none⟩ = some (.int .i64 n) := HZ8.out.is 2 rfl
  have dn : (n != n) = false := by simp
  go_upto_region 11 with fail
  have hz := HZ.out
  obtain ⟨p0, hp0⟩ : ∃ p, (⟨#[43]⟩ ++ v : ByteArray) = p := ⟨_, rfl⟩
  obtain ⟨p1, hp1⟩ : ∃ p, (⟨#[48]⟩ ++ v : ByteArray) = p := ⟨_, rfl⟩
  obtain ⟨p2, hp2⟩ : ∃ p, (v ++ ⟨#[120]⟩ : ByteArray) = p := ⟨_, rfl⟩
  obtain ⟨p3, hp3⟩ : ∃ p, (⟨#[45]⟩ ++ v : ByteArray) = p := ⟨_, rfl⟩
  obtain ⟨p4, hp4⟩ : ∃ p, (v ++ ⟨#[32]⟩ : ByteArray) = p := ⟨_, rfl⟩
  obtain ⟨p5, hp5⟩ : ∃ p, p4 ++ v = p := ⟨_, rfl⟩
  have A0 := fun W => show (Op.stringOp .add ⟨#[43]⟩ v).run Tryd.prog W = .ok (.string p0) W by rw [← hp0]; exact run_string_add_sum (P := Tryd.prog) W _ v (by show 1 + _ ≤ _; omega)
  have A1 := fun W => show (Op.stringOp .add ⟨#[48]⟩ v).run Tryd.prog W = .ok (.string p1) W by rw [← hp1]; exact run_string_add_sum (P := Tryd.prog) W _ v (by show 1 + _ ≤ _; omega)
  have A2 := fun W => show (Op.stringOp .add v ⟨#[120]⟩).run Tryd.prog W = .ok (.string p2) W by rw [← hp2]; exact run_string_add_sum (P := Tryd.prog) W v _ (by show _ + 1 ≤ _; omega)
  have A3 := fun W => show (Op.stringOp .add ⟨#[45]⟩ v).run Tryd.prog W = .ok (.string p3) W by rw [← hp3]; exact run_string_add_sum (P := Tryd.prog) W _ v (by show 1 + _ ≤ _; omega)
  have A4 := fun W => show (Op.stringOp .add v ⟨#[32]⟩).run Tryd.prog W = .ok (.string p4) W by rw [← hp4]; exact run_string_add_sum (P := Tryd.prog) W v _ (by show _ + 1 ≤ _; omega)
  have A5 := fun W => show (Op.stringOp .add p4 v).run Tryd.prog W = .ok (.string p5) W by rw [← hp5]; exact run_string_add_sum (P := Tryd.prog) W p4 v (by rw [← hp4, ByteArray.size_append]; show _ + 1 + _ ≤ _; omega)
  have HP0 := Lib.hid hp0
  have HP1 := Lib.hid hp1
  have HP2 := Lib.hid hp2
  have HP3 := Lib.hid hp3
  have HP4 := Lib.hid hp4
  have HP5 := Lib.hid hp5
  clear hp0 hp1 hp2 hp3 hp4 hp5 hz
  go_upto_region 12 with fail
  have hal := below_alloc (Below.refl w8.heap.size w8) (.cells #[.string p0, .string p1, .string p2, .string p3, .string p5, .string ⟨#[]⟩] 45 (0, 0))
  have HX9 := Aside0.mk (HX8.out.below hal)
  have HY9 := Aside0.mk (SAt.new w8 #[.string p0, .string p1, .string p2, .string p3, .string p5, .string ⟨#[]⟩] 45)
  have HB9 := Aside0.mk (below_step HB8.out hal)
  generalize w8.alloc (.cells #[.string p0, .string p1, .string p2, .string p3, .string p5, .string ⟨#[]⟩] 45 (0, 0)) = w9 at *
  obtain ⟨b, hb⟩ : ∃ g, w8.heap.size = g := ⟨_, rfl⟩
  rw [hb] at HY9 ⊢
  clear hal hb HX8 HB8 HY8 HZ8 x5 z2 A0 A1 A2 A3 A4 A5
  obtain ⟨k, hk⟩ : ∃ k, sp % 6 = k := ⟨_, rfl⟩
  have hk5 : k < 6 := by omega
  have k1 : IntKind.i64.wrap (sp : Int) = (sp : Int) := by rw [IntKind.wrap_i64]; omega
  have k2 : Int.tmod (sp : Int) 6 = (k : Int) := by rw [Int.tmod_eq_emod_of_nonneg (by omega)]; omega
  have k3 : decide ((k : Int) < 0) = false := decide_eq_false (by omega)
  have k4 : decide ((k : Int) < 6) = true := decide_eq_true (by omega)
  obtain ⟨pk, hpk, hpc⟩ : ∃ pk, badV v k = pk ∧ w9.cell? ⟨b, k, none⟩ = some (.string pk) := by
    refine ⟨_, rfl, ?_⟩
    rw [HY9.out.cell k]
    match k, hk5 with
    | 0, _ => rw [← HP0.out]; rfl
    | 1, _ => rw [← HP1.out]; rfl
    | 2, _ => rw [← HP2.out]; rfl
    | 3, _ => rw [← HP3.out]; rfl
    | 4, _ => rw [← HP5.out, ← HP4.out]; rfl
    | 5, _ => rfl
  have hpz : pk.size ≤ 3000 := by rw [← hpk]; exact badV_size v HZ.out k
  have HPZ := Lib.hid hpz
  have HPK := Lib.hid hpk
  have HK5 := Lib.hid hk5
  have f10 := HX9.out.frozen 10
  have g10 : w9.cell? ⟨g, 10, none⟩ = some (.string v) := HX9.out.is 10 rfl
  clear hk hpk hpz hsp
  go_upto_region 13 with fail
  have HX10 := Aside0.mk (show SAt (w9.setCell ⟨g, 10, none⟩ (.string pk)) g (flCells [lq0, lq1, lq2, lq3 pk]).toArray 41 from HX9.out.set 10 (.string pk))
  have HB10 := Aside0.mk (HB9.out.setCell HG.out (.string pk) : Below w.heap.size w (w9.setCell ⟨g, 10, none⟩ (.string pk)))
  generalize w9.setCell ⟨g, 10, none⟩ (.string pk) = w10 at *
  have hB := HL.out.bad k
  rw [HPK.out] at hB
  have HBad := Lib.hid hB
  clear hB HX9 HB9 HY9 hpc f10 g10 k1 k2 k3 k4 hk5
  go_wp2_with fail
  refine (request_calls (some ⟨g, 0, none⟩) 4 [lq0, lq1, lq2, lq3 pk] _ (fl_sat HX10.out (by simp)) (by simp) (lq_few HPZ.out)).mono ?_
  rw [lq_map, HBad.out.1]
  rintro e w11 ⟨rfl, hb⟩
  unfold reqE
  have HX11 := Aside0.mk (HX10.out.below hb)
  have HB11 := Aside0.mk (below_step HB10.out hb)
  clear hb HX10 HB10
  have e9 : w11.cell? ⟨g, 9, none⟩ = some (.string clN) := HX11.out.is 9 rfl
  have e10 : w11.cell? ⟨g, 10, none⟩ = some (.string pk) := HX11.out.is 10 rfl
  have e11 : w11.cell? ⟨g, 11, none⟩ = some (.bool false) := HX11.out.is 11 rfl
  have hal := below_alloc (Below.refl w11.heap.size w11) (.cells (flCells [ls0, lq3 pk]).toArray 41 (0, 0))
  have HL12 := Aside0.mk (SAt.new w11 (flCells [ls0, lq3 pk]).toArray 41)
  have HB12 := Aside0.mk (below_step HB11.out hal)
  unfold clN at e9
  go_wp2_with fail
  change Calls _ _ _ (w11.alloc (.cells (flCells [ls0, lq3 pk]).toArray 41 (0, 0))) _
  generalize w11.alloc (.cells (flCells [ls0, lq3 pk]).toArray 41 (0, 0)) = w12 at *
  obtain ⟨gb, hgb⟩ : ∃ g, w11.heap.size = g := ⟨_, rfl⟩
  rw [hgb] at HL12 ⊢
  clear hal hgb HX11 HB11 e9 e10 e11
  refine (response_calls (some ⟨gb, 0, none⟩) 2 [ls0, lq3 pk] _ (fl_sat HL12.out (by simp)) (by simp) (ls_few HPZ.out)).mono ?_
  rw [ls_map, HBad.out.2]
  rintro e w13 ⟨rfl, hb⟩
  unfold resE
  have HB13 := Aside0.mk (below_step HB12.out hb)
  clear hb HB12 HL12
  go_wp2_with fail
  go_ret
  exact ⟨rfl, HB13.out⟩
theorem lengths_all (W : World) (n : Int) (hn : (Lit.int .i64 n).wf = true) (a : Int) (hs : (Lit.int .u8 a).wf = true) (ht : Tab W) :
    Calls Tryd.prog 6 #[.int .i64 n, .int .u8 a] W fun e w' => e = .returned (.bool true) ∧ Below W.heap.size W w' := by
  have h : -9223372036854775808 ≤ n ∧ n ≤ 9223372036854775807 := by simpa [Lit.wf, IntKind.min, IntKind.max, IntKind.signed, IntKind.bits] using hn
  have h2 : (0 : Int) ≤ a ∧ a ≤ 255 := by simpa [Lit.wf, IntKind.min, IntKind.max, IntKind.signed, IntKind.bits] using hs
  obtain ⟨sp, rfl⟩ : ∃ sp : Nat, a = (sp : Int) := ⟨a.toNat, by omega⟩
  exact lengths_calls n sp W h.1 h.2 (by omega) ht
end Go.Proofs.YtdpoookgmckclaaDoor.M
