/- The law HeadOther. -/
import Derived.Test.YtdpoookgmckclaaDoorMHApp
import Derived.Test.YtdpoookgmckclaaDoorMHWrong
import Derived.Deep.CutBlock
set_option linter.unusedVariables false
set_option linter.unusedSimpArgs false
namespace Go.Proofs.YtdpoookgmckclaaDoor.M
open Go.RowKit Go.Maps Go.Proofs.YtdpoookgmckclaaDoorW.PrintWords Go.Proofs.YtdpoookgmckclaaDoorW.PrintLast Go.Proofs.YtdpoookgmckclaaDoorW.PrintMore
attribute [local go_sem] max2_int min2_int max_two min_two max_three min_three max_four min_four
attribute [local go_sem ↓] Go.wp_at_zero Go.wp_at_succ
theorem flCells_get (xs : List Fl) : ∀ (j i : Nat) (x : Fl), xs[j]? = some x → i < 3 → (flCells xs)[j * 3 + i]? = ([.string x.n, .string x.v, .bool x.nv] : List Value)[i]? := by
  induction xs with
  | nil => intro j i x h; exact absurd h (by simp)
  | cons y xs ih =>
    intro j i x h hi
    have e : flCells (y :: xs) = [.string y.n, .string y.v, .bool y.nv] ++ flCells xs := rfl
    rw [e]
    cases j with
    | zero =>
      rw [List.getElem?_cons_zero] at h
      obtain rfl := Option.some.inj h
      rw [Nat.zero_mul, Nat.zero_add, List.getElem?_append_left (by simpa using hi)]
    | succ j =>
      rw [List.getElem?_cons_succ] at h
      rw [List.getElem?_append_right (by simp; omega)]
      have := ih j i x h hi
      rw [← this]
      congr 1
      simp
      omega
theorem fl_sat {w : World} {g : Nat} {xs : List Fl} (h : SAt w g (flCells xs).toArray 41) (hl : xs.length ≤ 1000000) : kF.C w (some ⟨g, 0, none⟩) xs.length xs := by
  refine ⟨rfl, by omega, fun hn => ⟨_, rfl, fun j p hp => ⟨_, rfl, kF_mk w p, fun i u hu => ?_⟩⟩⟩
  have hi : i < 3 := (List.getElem?_eq_some_iff.1 hu).1
  have h1 := flCells_get xs j i p hp hi
  have h2 := h.cell (j * 3 + i)
  have ha : (⟨g, 0, none⟩ : Addr).add (j * 3 + i) = ⟨g, j * 3 + i, none⟩ := by unfold Addr.add; split <;> simp_all
  show w.cell? ((⟨g, 0, none⟩ : Addr).add (j * 3 + i)) = some u
  rw [ha, h2, List.getElem?_toArray, h1, hu]
theorem at_fl2 {w : World} {ad : Addr} {n : Nat} {xs : List Fl} (h : kF.C w (some ad) n xs) {k : Nat} (h1 : k < n) {x : Fl} (hx : xs.getD k zFl = x) : w.cell? (ad.add (k * 3)) = some (.string x.n) ∧ w.cell? ⟨(ad.add (k * 3)).block, (ad.add (k * 3)).off + 1, none⟩ = some (.string x.v) ∧ w.cell? ⟨(ad.add (k * 3)).block, (ad.add (k * 3)).off + 2, none⟩ = some (.bool x.nv) := by
  obtain ⟨ad', x', e, hx', h2⟩ := at_fl h k h1
  obtain rfl := Option.some.inj e
  obtain rfl := hx.symm.trans hx'
  exact h2
theorem add0 (g n : Nat) : (⟨g, 0, none⟩ : Addr).add n = ⟨g, n, none⟩ := by unfold Addr.add; split <;> simp_all
theorem mem_fl {xs : List Fl} {k : Nat} (hk : k < xs.length) {x : Fl} (hx : xs.getD k zFl = x) : x ∈ xs := by
  rw [List.getD_eq_getElem?_getD, List.getElem?_eq_getElem hk] at hx
  rw [← hx]
  exact List.getElem_mem hk
theorem few_more {xs : List Fl} (h : FewF xs) (hl : xs.length ≤ 200) {x : Fl} (h1 : x.n.size ≤ 100000) (h2 : x.v.size ≤ 100000) : FewF (xs ++ [x]) := by
  refine ⟨by simp; omega, fun y hy => ?_, fun y hy => ?_⟩
  all_goals
    rcases List.mem_append.1 hy with hy | hy
  · exact h.n y hy
  · obtain rfl := List.mem_singleton.1 hy; exact h1
  · exact h.v y hy
  · obtain rfl := List.mem_singleton.1 hy; exact h2
theorem takeWhile_split (xs : List Fl) : (List.map Fl.f xs).takeWhile pseudoB = List.map Fl.f (xs.take (xs.takeWhile fun y => pseudoS y.n).length) ∧ (List.map Fl.f xs).dropWhile pseudoB = List.map Fl.f (xs.drop (xs.takeWhile fun y => pseudoS y.n).length) ∧ (xs.takeWhile fun y => pseudoS y.n).length ≤ xs.length := by
  induction xs with
  | nil => exact ⟨rfl, rfl, Nat.le_refl _⟩
  | cons x xs ih =>
    obtain ⟨h1, h2, h3⟩ := ih
    have hp : pseudoB (Fl.f x) = pseudoS x.n := rfl
    rw [List.map_cons, List.takeWhile_cons, List.dropWhile_cons, List.takeWhile_cons, hp]
    cases pseudoS x.n with
    | true => simp only [if_true]; rw [h1, h2]; exact ⟨by simp, by simp, by simp; exact h3⟩
    | false => exact ⟨rfl, rfl, Nat.zero_le _⟩
theorem few_mid {xs : List Fl} (h : FewF xs) (hl : xs.length ≤ 200) (n : Nat) {x : Fl} (h1 : x.n.size ≤ 100000) (h2 : x.v.size ≤ 100000) : FewF (xs.take n ++ [x] ++ xs.drop n) := by
  refine ⟨by simp; omega, fun y hy => ?_, fun y hy => ?_⟩
  all_goals
    rcases List.mem_append.1 hy with hy | hy
  · rcases List.mem_append.1 hy with hy | hy
    · exact h.n y (List.mem_of_mem_take hy)
    · obtain rfl := List.mem_singleton.1 hy; exact h1
  · exact h.n y (List.mem_of_mem_drop hy)
  · rcases List.mem_append.1 hy with hy | hy
    · exact h.v y (List.mem_of_mem_take hy)
    · obtain rfl := List.mem_singleton.1 hy; exact h2
  · exact h.v y (List.mem_of_mem_drop hy)
theorem few_turn {xs : List Fl} (h : FewF xs) (n : Nat) : FewF (xs.take n ++ (xs.drop n).reverse) := by
  have hl := h.len
  refine ⟨by simp; omega, fun y hy => ?_, fun y hy => ?_⟩
  all_goals
    rcases List.mem_append.1 hy with hy | hy
  · exact h.n y (List.mem_of_mem_take hy)
  · exact h.n y (List.mem_of_mem_drop (List.mem_reverse.1 hy))
  · exact h.v y (List.mem_of_mem_take hy)
  · exact h.v y (List.mem_of_mem_drop (List.mem_reverse.1 hy))
theorem fl_info : ∃ i, Tryd.prog.info? 41 = some i ∧ i.size = 3 := by
  have h := infoF
  cases e : Tryd.prog.info? 41 with
  | none => rw [e] at h; exact absurd h (by simp)
  | some i => rw [e] at h; exact ⟨i, rfl, congrArg (fun z => z.2.1) (Option.some.inj h)⟩
set_option maxHeartbeats 40000000 in
set_option maxRecDepth 100000 in
theorem other_calls (A : Option Addr) (cp : Nat) (xs : List Fl) (s t : ByteArray) (w : World) (hr : kF.C w A xs.length xs) (hcp : xs.length ≤ cp) (hi : FlIn xs) (hs : s.size ≤ 140737488351232) (ht : t.size ≤ 140737488351232) :
    Calls Tryd.prog 4 #[.slice A xs.length cp, .string s, .string t] w fun e w' => e = .returned (.bool true) ∧ Below w.heap.size w w' := by
  have HRd := Aside0.mk hr
  have HCp := Lib.hid hcp
  have HI := Aside0.mk hi
  clear hr hcp hi
  go_enter Tryd.func4, Tryd.ntmps4
  go_wp2_with fail
  refine (awake20_calls _).mono ?_
  rintro e w1 ⟨rfl, hb⟩
  have HB1 := Aside0.mk hb
  clear hb
  go_wp2_with fail
  refine (fewFields_calls A cp xs _ (Kd.C_below HRd.out HB1.out) HI.out).mono ?_
  rintro e w2 ⟨b, rfl, hfew, hb⟩
  have HB2 := Aside0.mk (below_step HB1.out hb)
  clear hb HB1
  cases b with
  | false =>
    clear hfew
    go_wp2_with fail
    go_ret
    exact ⟨rfl, HB2.out⟩
  | true =>
  have HFw := Aside0.mk (hfew rfl)
  clear hfew
  by_cases hl : 200 < xs.length
  · have d1 : decide ((200 : Int) < (xs.length : Int)) = true := decide_eq_true (by omega)
    have d2 : decide (200 < xs.length) = true := decide_eq_true hl
    clear hl
    go_wp2_with fail
    go_ret
    exact ⟨rfl, HB2.out⟩
  have d1 : decide ((200 : Int) < (xs.length : Int)) = false := decide_eq_false (by omega)
  have d2 : decide (200 < xs.length) = false := decide_eq_false hl
  have hlen : xs.length ≤ 200 := by omega
  clear hl
  by_cases hl : 3000 < s.size
  · have d3 : decide ((3000 : Int) < (s.size : Int)) = true := decide_eq_true (by omega)
    have d4 : decide (3000 < s.size) = true := decide_eq_true hl
    clear hl
    go_wp2_with fail
    go_ret
    exact ⟨rfl, HB2.out⟩
  have d3 : decide ((3000 : Int) < (s.size : Int)) = false := decide_eq_false (by omega)
  have d4 : decide (3000 < s.size) = false := decide_eq_false hl
  have HS1 := Lib.hid (show s.size ≤ 3000 by omega)
  clear hl hs
  by_cases hl : 3000 < t.size
  · have d5 : decide ((3000 : Int) < (t.size : Int)) = true := decide_eq_true (by omega)
    have d6 : decide (3000 < t.size) = true := decide_eq_true hl
    clear hl
    go_wp2_with fail
    go_ret
    exact ⟨rfl, HB2.out⟩
  have d5 : decide ((3000 : Int) < (t.size : Int)) = false := decide_eq_false (by omega)
  have d6 : decide (3000 < t.size) = false := decide_eq_false hl
  have HS2 := Lib.hid (show t.size ≤ 3000 by omega)
  clear hl ht
  have HFF := Aside0.mk HFw.out.few
  go_wp2_with fail
  refine (request_calls A cp xs _ (Kd.C_below HRd.out HB2.out) HCp.out HFF.out).mono ?_
  clear d1 d2 d3 d4 d5 d6
  cases hR : requestF (xs.map Fl.f) with
  | none =>
    clear hR
    unfold reqE
    rintro e w3 ⟨rfl, hb⟩
    have HB3 := Aside0.mk (below_step HB2.out hb)
    clear hb HB2
    have hal := below_alloc (Below.refl w3.heap.size w3) (.cells #[.string ⟨#[]⟩, .string ⟨#[]⟩, .string ⟨#[]⟩, .string ⟨#[]⟩, .bool false, .int .i64 0] 26 (0, 0))
    have HB4 := Aside0.mk (below_step HB3.out hal)
    clear hal
    go_upto_region 6 with fail
    generalize w3.alloc (.cells #[.string ⟨#[]⟩, .string ⟨#[]⟩, .string ⟨#[]⟩, .string ⟨#[]⟩, .bool false, .int .i64 0] 26 (0, 0)) = w4 at *
    go_wp2_with fail
    go_ret
    exact ⟨rfl, HB4.out⟩
  | some X =>
  have HX := Aside0.mk hR
  clear hR
  obtain ⟨m0, m1, m2, m3⟩ := X
  unfold reqE
  rintro e w3 ⟨rfl, hb⟩
  have HB3 := Aside0.mk (below_step HB2.out hb)
  clear hb HB2
  have hal := below_alloc (Below.refl w3.heap.size w3) (.cells #[.string m0, .string m1, .string ⟨#[]⟩, .string m2, .bool false, .int .i64 m3] 26 (0, 0))
  have HB4 := Aside0.mk (below_step HB3.out hal)
  have HQ4 := Aside0.mk (SAt.new w3 #[.string m0, .string m1, .string ⟨#[]⟩, .string m2, .bool false, .int .i64 m3] 26)
  clear hal HB3
  go_upto_region 6 with fail
  generalize w3.alloc (.cells #[.string m0, .string m1, .string ⟨#[]⟩, .string m2, .bool false, .int .i64 m3] 26 (0, 0)) = w4 at *
  generalize w3.heap.size = q0 at *
  obtain ⟨x, hx⟩ : ∃ x : Fl, x = ⟨s, t, false⟩ := ⟨_, rfl⟩
  have hal := below_alloc (Below.refl w4.heap.size w4) (.cells (flCells [⟨s, t, false⟩]).toArray 41 (0, 0))
  have HL5 := Aside0.mk (SAt.new w4 (flCells [⟨s, t, false⟩]).toArray 41)
  have HB5 := Aside0.mk (below_step HB4.out hal)
  have HQ5 := Aside0.mk (HQ4.out.below hal)
  have HXx := Lib.hid hx
  clear hx
  go_wp2_with fail
  change Calls _ _ _ (w4.alloc (.cells (flCells [⟨s, t, false⟩]).toArray 41 (0, 0))) _
  generalize w4.alloc (.cells (flCells [⟨s, t, false⟩]).toArray 41 (0, 0)) = w5 at *
  generalize w4.heap.size = ga at *
  clear hal HB4 HQ4
  have hf1 : FewF [⟨s, t, false⟩] := ⟨by simp, fun y hy => by obtain rfl := List.mem_singleton.1 hy; have := HS1.out; show s.size ≤ _; omega, fun y hy => by obtain rfl := List.mem_singleton.1 hy; have := HS2.out; show t.size ≤ _; omega⟩
  refine (trailers_calls (some ⟨ga, 0, none⟩) 1 [⟨s, t, false⟩] _ (fl_sat HL5.out (by simp)) (by simp) hf1).mono ?_
  clear hf1
  cases hT : trailersF ([⟨s, t, false⟩].map Fl.f) with
  | false =>
    clear hT
    rintro e w6 ⟨rfl, hb⟩
    have HB6 := Aside0.mk (below_step HB5.out hb)
    clear hb HB5
    unfold trailE
    go_wp2_with fail
    go_ret
    exact ⟨rfl, HB6.out⟩
  | true =>
  have HTr := Lib.hid (show trailersF [(s, t)] = true from hT)
  clear hT
  rintro e w6 ⟨rfl, hb⟩
  have HQ6 := Aside0.mk (HQ5.out.below hb)
  have HB6 := Aside0.mk (below_step HB5.out hb)
  clear hb HB5
  clear HQ5 HL5
  unfold trailE
  by_cases g1 : s = ctN
  · obtain ⟨y1, y2, y3⟩ := const_yes g1 (L := [99, 111, 110, 116, 101, 110, 116, 45, 116, 121, 112, 101]) rfl
    clear g1
    go_wp2_with fail
    go_ret
    exact ⟨rfl, HB6.out⟩
  obtain ⟨y1, y2, y3⟩ := const_no g1 (L := [99, 111, 110, 116, 101, 110, 116, 45, 116, 121, 112, 101]) rfl
  by_cases g2 : s = clN
  · obtain ⟨y4, y5, y6⟩ := const_yes g2 (L := [99, 111, 110, 116, 101, 110, 116, 45, 108, 101, 110, 103, 116, 104]) rfl
    clear g1 g2
    go_wp2_with fail
    go_ret
    exact ⟨rfl, HB6.out⟩
  obtain ⟨y4, y5, y6⟩ := const_no g2 (L := [99, 111, 110, 116, 101, 110, 116, 45, 108, 101, 110, 103, 116, 104]) rfl
  have HO := Aside0.mk (other_law HX.out HTr.out g1 g2)
  clear g1 g2 HTr
  go_upto_region 8 with fail
  clear y1 y2 y3 y4 y5 y6
  obtain ⟨n0, hn0⟩ : ∃ n, (xs.takeWhile fun y => pseudoS y.n).length = n := ⟨_, rfl⟩
  have HN0 := Lib.hid hn0
  clear hn0
  go_upto_block 0 with fail
  go_cut [9] from 61 to 84 (fun s9 wx => s9 = .int .i64 n0 ∧ Aside0 (SAt wx q0 #[.string m0, .string m1, .string ⟨#[]⟩, .string m2, .bool false, .int .i64 m3] 26) ∧ Aside0 (Below w.heap.size w wx))
  case first =>
    go_wp2_with fail
    go_loopg [9] xs.length (fun kq v9 w' => ∃ k : Nat, v9 = .int .i64 k ∧ Aside0 (kq + k = xs.length) ∧ Aside0 (k + ((xs.drop k).takeWhile fun y => pseudoS y.n).length = n0) ∧ Aside0 (SAt w' q0 #[.string m0, .string m1, .string ⟨#[]⟩, .string m2, .bool false, .int .i64 m3] 26) ∧ Aside0 (Below w.heap.size w w'))
    case atStart => exact ⟨0, rfl, ⟨rfl⟩, ⟨by rw [Nat.zero_add]; exact HN0.out⟩, HQ6, HB6⟩
    case round =>
    clear HQ6 HB6
    obtain ⟨k, rfl, HK, HT, HQ, HB⟩ := hrel
    cases gk with
    | zero =>
      obtain rfl : k = xs.length := by have := HK.out; omega
      have ht := HT.out
      rw [List.drop_of_length_le (Nat.le_refl _)] at ht
      have HE := Lib.hid (show xs.length = n0 from ht)
      clear ht HT
      go_wp2_with fail
      go_meet
      exact ⟨by rw [← HE.out], HQ, HB⟩
    | succ j =>
      have hk : k < xs.length := by have := HK.out; omega
      obtain ⟨ad, y, rfl, hy, e0, e1, e2⟩ := at_fl (Kd.C_below HRd.out HB.out) k hk
      have hd : xs.drop k = y :: xs.drop (k + 1) := by
        rw [List.drop_eq_getElem_cons hk]
        rw [List.getD_eq_getElem?_getD, List.getElem?_eq_getElem hk] at hy
        rw [show xs[k] = y from hy]
      have ht := HT.out
      rw [hd, List.takeWhile_cons] at ht
      have q1 : (0 : Int) ≤ (k : Int) := by omega
      have q2 : (k : Int) < (xs.length : Int) := by omega
      have q3 : k < xs.length := hk
      clear hd hy HT
      by_cases hz : y.n.size = 0
      · have d1 : decide ((0 : Int) < (y.n.size : Int)) = false := decide_eq_false (by omega)
        have d2 : decide (0 < y.n.size) = false := decide_eq_false (by omega)
        have d3 : ¬ 0 < y.n.size := by omega
        have hp : pseudoS y.n = false := by unfold pseudoS; rw [decide_eq_false (by omega : ¬ y.n.size ≠ 0)]; rfl
        rw [hp, if_neg (by decide)] at ht
        have HE := Lib.hid (show k = n0 from ht)
        clear ht hz hp
        go_wp2_with fail
        go_meet
        exact ⟨by rw [← HE.out], HQ, HB⟩
      · have d1 : decide ((0 : Int) < (y.n.size : Int)) = true := decide_eq_true (by omega)
        have d2 : decide (0 < y.n.size) = true := decide_eq_true (by omega)
        have d3 : 0 < y.n.size := by omega
        have d4 : (0 : Int) < (y.n.size : Int) := by omega
        have hx0 := bt_nat y.n 0 (by omega)
        obtain ⟨a, ha⟩ : ∃ a, bt y.n ((0 : Nat) : Int) = a := ⟨_, rfl⟩
        rw [show ((0 : Nat) : Int) = 0 from rfl] at ha
        rw [show ((0 : Nat) : Int) = 0 from rfl, ha] at hx0
        have hp : pseudoS y.n = decide (a = 58) := by unfold pseudoS; rw [decide_eq_true hz, Bool.true_and, ha]
        by_cases ha58 : a = 58
        · have g1 : (a == 58) = true := beq_iff_eq.mpr ha58
          rw [hp, decide_eq_true ha58, if_pos rfl, List.length_cons] at ht
          have HT2 := Aside0.mk (show (k + 1) + ((xs.drop (k + 1)).takeWhile fun y => pseudoS y.n).length = n0 by omega)
          clear ht hz hp ha ha58
          go_wp2_with fail
          go_roundg j
          case measure => omega
          case rel => exact ⟨k + 1, by go_num, ⟨by have := HK.out; omega⟩, HT2, HQ, HB⟩
        · have g1 : (a == 58) = false := beq_eq_false_iff_ne.mpr ha58
          rw [hp, decide_eq_false ha58, if_neg (by decide)] at ht
          have HE := Lib.hid (show k = n0 from ht)
          clear ht hz hp ha ha58
          go_wp2_with fail
          go_meet
          exact ⟨by rw [← HE.out], HQ, HB⟩
  case rest =>
  obtain ⟨rfl, HQ7, HB7⟩ := hcut
  clear HQ6 HB6
  have hp := takeWhile_split xs
  rw [HN0.out] at hp
  obtain ⟨hp1, hp2, hp3⟩ := hp
  obtain ⟨X, hX⟩ : ∃ X, requestF (List.map Fl.f xs) = X := ⟨_, rfl⟩
  have hb1 := HO.out.behind
  have hb2 := HO.out.between
  have hb3 := HO.out.turned
  rw [hp1, hp2, HX.out] at hb2 hb3
  rw [HX.out] at hb1
  have HN1 := Lib.hid hp3
  have hRe : ∀ l, requestF l = some (m0, m1, m2, m3) → reqE (requestF l) = .tuple #[.agg #[.string m0, .string m1, .string ⟨#[]⟩, .string m2, .bool false, .int .i64 m3], .int .i64 0] := fun l h => by rw [h]; rfl
  have HR1 := Lib.hid (show reqE (requestF (List.map Fl.f (xs ++ [⟨s, t, false⟩]))) = .tuple #[.agg #[.string m0, .string m1, .string ⟨#[]⟩, .string m2, .bool false, .int .i64 m3], .int .i64 0] from hRe _ (by rw [List.map_append]; exact hb1))
  have HR2 := Lib.hid (show reqE (requestF (List.map Fl.f (xs.take n0 ++ [⟨s, t, false⟩] ++ xs.drop n0))) = .tuple #[.agg #[.string m0, .string m1, .string ⟨#[]⟩, .string m2, .bool false, .int .i64 m3], .int .i64 0] from hRe _ (by rw [List.map_append, List.map_append]; exact hb2))
  have HR3 := Lib.hid (show reqE (requestF (List.map Fl.f (xs.take n0 ++ (xs.drop n0).reverse))) = .tuple #[.agg #[.string m0, .string m1, .string ⟨#[]⟩, .string m2, .bool false, .int .i64 m3], .int .i64 0] from hRe _ (by rw [List.map_append, List.map_reverse]; exact hb3))
  clear hX hb1 hb2 hb3 hRe hp1 hp2 hp3 HO HN0
  have hs1 := HS1.out
  have hs2 := HS2.out
  have HW1 := Lib.hid (few_more HFF.out hlen (x := ⟨s, t, false⟩) (by show s.size ≤ _; omega) (by show t.size ≤ _; omega))
  have HW2 := Lib.hid (few_mid HFF.out hlen n0 (x := ⟨s, t, false⟩) (by show s.size ≤ _; omega) (by show t.size ≤ _; omega))
  have HW3 := Lib.hid (few_turn HFF.out n0)
  clear hs1 hs2
  clear X
  have HE8 := Aside0.mk (fr_nil (base := w.heap.size) wc HB7.out.size)
  have hal := below_alloc (Below.refl wc.heap.size wc) (.cells #[] 41)
  have HB8 := Aside0.mk (below_step HB7.out hal)
  have HQ8 := Aside0.mk (HQ7.out.below hal)
  clear hal
  go_wp2_with ((with_reducible refine gate_dst (N := 88) rfl ?_); refine appF (w0 := w) (base := w.heap.size) (c := cp) rfl (.tmp 86) (.tmp 87) (by kernel_rfl) (by kernel_rfl) (by kernel_rfl) HE8.out (Kd.C_below HRd.out HB8.out) HB8.out HB8.out.size (by simp; omega) ?_)
  rintro v9 w9 ho hb hg ho2
  have HV9 := Aside0.mk (show FR w9 w.heap.size v9 xs from ho)
  have HB9 := Aside0.mk hb
  have HQ9 := Aside0.mk (HQ8.out.beside HE8.out (by decide) hg)
  clear ho hb hg ho2 HE8 HB8 HQ8 HQ7 HB7
  have hal := below_alloc (Below.refl w9.heap.size w9) (.cells #[.string s, .string t, .bool false] 41)
  have HB10 := Aside0.mk (below_step HB9.out hal)
  have HQ10 := Aside0.mk (HQ9.out.below hal)
  have HV10 := Aside0.mk (Kd.R_below HV9.out hal)
  have HU10 := Aside0.mk (show FR (w9.alloc (.cells #[.string s, .string t, .bool false] 41)) w.heap.size (.slice (some ⟨w9.heap.size, 0, none⟩) 1 1) [⟨s, t, false⟩] from fr_one w9 HB9.out.size ⟨s, t, false⟩)
  clear hal
  go_wp2_with ((with_reducible refine gate_dst (N := 93) rfl ?_); refine appF (w0 := w) (base := w.heap.size) (c := 1) rfl (.tmp 88) (.tmp 92) (by kernel_rfl) (by kernel_rfl) (by kernel_rfl) HV10.out (Kd.R_reads' HU10.out).2.2 HB10.out HB10.out.size (by simp; omega) ?_)
  rintro v11 w11 ho hb hg ho2
  have HQ11 := Aside0.mk (HQ10.out.beside HV10.out (by decide) hg)
  have HB11 := Aside0.mk hb
  have hw1 := HW1.out
  have hr1 := HR1.out
  generalize xs ++ [⟨s, t, false⟩] = ys at ho hw1 hr1
  have HWy := Lib.hid hw1
  have HRy := Lib.hid hr1
  obtain ⟨A11, c11, rfl, hlc, hrc⟩ := Kd.R_reads ho
  have HC11 := Aside0.mk hrc
  have HL11 := Lib.hid hlc
  clear ho hb hg ho2 hlc hrc hw1 hr1 HV9 HB9 HQ9 HV10 HB10 HU10 HQ10 HW1 HR1
  go_wp2_with fail
  refine (request_calls A11 c11 ys _ HC11.out HL11.out HWy.out).mono ?_
  rw [HRy.out]
  rintro e w12 ⟨rfl, hb⟩
  have HQ12 := Aside0.mk (HQ11.out.below hb)
  have HB12 := Aside0.mk (below_step HB11.out hb)
  clear hb HB11
  clear HC11 HL11 HWy HRy HQ11
  go_upto_region 12 with fail
  have hal := below_alloc (Below.refl w12.heap.size w12) (.cells #[.string m0, .string m1, .string ⟨#[]⟩, .string m2, .bool false, .int .i64 m3] 26 (0, 0))
  have HB13 := Aside0.mk (below_step HB12.out hal)
  have HQ13 := Aside0.mk (HQ12.out.below hal)
  have HX13 := Aside0.mk (SAt.new w12 #[.string m0, .string m1, .string ⟨#[]⟩, .string m2, .bool false, .int .i64 m3] 26)
  generalize w12.alloc (.cells #[.string m0, .string m1, .string ⟨#[]⟩, .string m2, .bool false, .int .i64 m3] 26 (0, 0)) = w13 at *
  generalize w12.heap.size = q1 at *
  clear hal HB12 HQ12
  obtain ⟨inf, hinf, hsz⟩ := fl_info
  have hn1 := HN1.out
  have hcp := HCp.out
  have sl1 := cut_to 22 41 .i64 Tryd.underlying22 hinf A xs.length cp (n0 : Int) (by omega) (by omega) hcp
  have sl2 := cut_from 22 41 .i64 Tryd.underlying22 hinf 3 hsz A xs.length cp (n0 : Int) (by omega) (by omega)
  rw [Int.toNat_natCast] at sl1 sl2
  obtain ⟨mq, hmq⟩ : ∃ m, xs.length - n0 = m := ⟨_, rfl⟩
  obtain ⟨cq, hc2⟩ : ∃ m, cp - n0 = m := ⟨_, rfl⟩
  obtain ⟨P, hP⟩ : ∃ P, xs.take n0 = P := ⟨_, rfl⟩
  obtain ⟨Q, hQ⟩ : ∃ Q, xs.drop n0 = Q := ⟨_, rfl⟩
  have hPl : P.length = n0 := by rw [← hP, List.length_take]; omega
  have hQl : Q.length = mq := by rw [← hQ, List.length_drop]; omega
  have vP := Kd.C_take (Kd.C_below HRd.out HB13.out.drew) hn1
  have vQ := Kd.C_drop (Kd.C_below HRd.out HB13.out.drew) hn1 hcp
  rw [show kF.sz = 3 from rfl] at vQ
  obtain ⟨A2, hA2⟩ : ∃ A2, (if cp = n0 then A else A.map (·.add (n0 * 3))) = A2 := ⟨_, rfl⟩
  rw [hA2, hmq, hc2] at sl2
  rw [hA2, hQ, hQl] at vQ
  rw [hP, hPl] at vP
  have hr2 := HR2.out
  have hw2 := HW2.out
  rw [hP, hQ] at hr2 hw2
  have HRq := Lib.hid hr2
  have HWf := Lib.hid hw2
  have hlP : P.length ≤ 200 := by omega
  have hlQ : mq ≤ 200 := by omega
  have hln : n0 ≤ 200 := by omega
  have HRp := Aside0.mk (show ∀ w', Below w13.drew.heap.size w13.drew w' → kF.C w' A n0 P from fun w' hb => Kd.C_below vP hb)
  have HRk := Aside0.mk (show ∀ w', Below w13.drew.heap.size w13.drew w' → kF.C w' A2 mq Q from fun w' hb => Kd.C_below vQ hb)
  have HBd := Aside0.mk (show Below w.heap.size w w13.drew from HB13.out.drew)
  have HQd := Aside0.mk (show SAt w13.drew q0 _ _ from HQ13.out.drew)
  have HXd := Aside0.mk (show SAt w13.drew q1 _ _ from HX13.out.drew)
  have HPl := Lib.hid hPl
  have HPe := Lib.hid hP
  have HQe := Lib.hid hQ
  have HM2 := Lib.hid hmq
  clear hr2 hw2 vP vQ hP hQ hmq hc2 hA2 hPl hQl hinf hsz HR2 HW2 hn1
  refine start_ (n := 21) (S := fun w' => Aside0 (Below w13.drew.heap.size w13.drew w')) (ds := [19]) (Array.replicate 21 false) (by kernel_rfl) (by kernel_rfl) rfl ⟨Below.refl _ _⟩ (fun hS => ?_)
  have HS := Aside0.mk (show ∀ w', Below w13.drew.heap.size w13.drew w' → Aside0 (Below w13.drew.heap.size w13.drew w') from fun w' hb => ⟨hb⟩)
  have HI0 := Aside0.mk (Below.refl w13.drew.heap.size w13.drew)
  clear HB13 HQ13 HX13
  generalize hB0 : w13.drew.heap.size = B0 at *
  generalize w13.drew = w0 at *
  have HB0 := Lib.hid (show Bas w0 B0 from hB0)
  clear hB0
  refine dpure 1 (some 99) rfl rfl (by kernel_rfl) (fun _ _ _ h => h) (by rfl) (v := ?_) (a' := ?_) ?_ ?_ ?_
  rotate_left 2
  · intro w'; go_simp; with_reducible rfl
  · simp only [Act.put, List.setIfInBounds_toArray, List.set_cons_zero, List.set_cons_succ]; rfl
  refine dpure 2 (some 100) rfl rfl (by kernel_rfl) (fun _ _ _ h => h) (by rfl) (v := ?_) (a' := ?_) ?_ ?_ ?_
  rotate_left 2
  · intro w'; go_simp; with_reducible rfl
  · simp only [Act.put, List.setIfInBounds_toArray, List.set_cons_zero, List.set_cons_succ]; rfl
  refine dpure 3 (some 101) rfl rfl (by kernel_rfl) (fun _ _ _ h => h) (by rfl) (v := ?_) (a' := ?_) ?_ ?_ ?_
  rotate_left 2
  · intro w'; go_simp; with_reducible rfl
  · simp only [Act.put, List.setIfInBounds_toArray, List.set_cons_zero, List.set_cons_succ]; rfl
  refine dpure 5 (some 103) rfl rfl (by kernel_rfl) (fun _ _ _ h => h) (by rfl) (v := ?_) (a' := ?_) ?_ ?_ ?_
  rotate_left 2
  · intro w'; go_simp; with_reducible rfl
  · simp only [Act.put, List.setIfInBounds_toArray, List.set_cons_zero, List.set_cons_succ]; rfl
  refine dpure 6 (some 104) rfl rfl (by kernel_rfl) (fun _ _ _ h => h) (by rfl) (v := ?_) (a' := ?_) ?_ ?_ ?_
  rotate_left 2
  · intro w'; go_simp; with_reducible rfl
  · simp only [Act.put, List.setIfInBounds_toArray, List.set_cons_zero, List.set_cons_succ]; rfl
  refine dpure 7 (some 105) rfl rfl (by kernel_rfl) (fun _ _ _ h => h) (by rfl) (v := ?_) (a' := ?_) ?_ ?_ ?_
  rotate_left 2
  · intro w'; go_simp; with_reducible rfl
  · simp only [Act.put, List.setIfInBounds_toArray, List.set_cons_zero, List.set_cons_succ]; rfl
  refine dpure 10 (some 108) rfl rfl (by kernel_rfl) (fun _ _ _ h => h) (by rfl) (v := ?_) (a' := ?_) ?_ ?_ ?_
  rotate_left 2
  · intro w'; go_simp; with_reducible rfl
  · simp only [Act.put, List.setIfInBounds_toArray, List.set_cons_zero, List.set_cons_succ]; rfl
  refine dpure 11 (some 109) rfl rfl (by kernel_rfl) (fun _ _ _ h => h) (by rfl) (v := ?_) (a' := ?_) ?_ ?_ ?_
  rotate_left 2
  · intro w'; go_simp; with_reducible rfl
  · simp only [Act.put, List.setIfInBounds_toArray, List.set_cons_zero, List.set_cons_succ]; rfl
  refine dpure 12 (some 110) rfl rfl (by kernel_rfl) (fun _ _ _ h => h) (by rfl) (v := ?_) (a' := ?_) ?_ ?_ ?_
  rotate_left 2
  · intro w'; go_simp; with_reducible rfl
  · simp only [Act.put, List.setIfInBounds_toArray, List.set_cons_zero, List.set_cons_succ]; rfl
  clear hS
  refine join_ (σ := Value × Value × Value × Value × Value × Nat) 2 #[true, true, true, true, true, true, true, true, true, true, true, true, true, true, true, true, true, true, true, false, false]
    (fun z => [(98, z.1), (102, z.2.1), (107, z.2.2.1), (111, z.2.2.2.1), (106, z.2.2.2.2.1), (112, .tuple #[.agg #[.string m0, .string m1, .string ⟨#[]⟩, .string m2, .bool false, .int .i64 m3], .int .i64 0]), (97, .tuple #[.agg #[.string m0, .string m1, .string ⟨#[]⟩, .string m2, .bool false, .int .i64 m3], .int .i64 0]), (113, .agg #[.string m0, .string m1, .string ⟨#[]⟩, .string m2, .bool false, .int .i64 m3]), (114, .int .i64 0), (12, .pointer (some ⟨z.2.2.2.2.2, 0, none⟩))])
    (fun z w' => SAt w' z.2.2.2.2.2 #[.string ⟨#[]⟩, .string ⟨#[]⟩, .string ⟨#[]⟩, .string ⟨#[]⟩, .bool false, .int .i64 0] 26 ∧ Below B0 w0 w' ∧ B0 ≤ z.2.2.2.2.2) ?_ (fun JT => ?_)
  · rintro ⟨va, vb, vc, vd, vu, qb⟩ wq ⟨hQ, hbl, hle⟩
    simp only [] at hQ hbl hle
    refine norm_ (a' := ?_) ?_ ?_
    rotate_left
    · simp only [putAll, Act.put, List.setIfInBounds_toArray, List.set_cons_zero, List.set_cons_succ]; rfl
    obtain ⟨w9, hw9, hl, hb9⟩ := six_laid hQ hbl hle (.string m0) (.string m1) (.string ⟨#[]⟩) (.string m2) (.bool false) (.int .i64 m3)
    have HQ := Aside0.mk hQ
    clear hQ hbl hle
    have x0 := HQ.out.is 0 rfl
    have x1 := HQ.out.is 1 rfl
    have x2 := HQ.out.is 2 rfl
    have x3 := HQ.out.is 3 rfl
    have x4 := HQ.out.is 4 rfl
    have x5 := HQ.out.is 5 rfl
    have y0 := HQ.out.frozen 0
    have y1 := HQ.out.frozen 1
    have y2 := HQ.out.frozen 2
    have y3 := HQ.out.frozen 3
    have y4 := HQ.out.frozen 4
    have y5 := HQ.out.frozen 5
    refine dlast 19 (Array.getElem?_eq_getElem (by decide)) (by kernel_rfl) (by decide) (fun K hK => ?_)
    refine dskip (w1 := w9) (by rfl) rfl (by rw [hw9]; go_simp; done) ?_
    refine hK.out _ _ ?_
    clear x0 x1 x2 x3 x4 x5 y0 y1 y2 y3 y4 y5 hK K hw9 HQ
    have HRp9 := Aside0.mk (HRp.out _ hb9)
    have hb9 := below_bas HB0.out hb9
    have HB9 := Aside0.mk (below_step HBd.out hb9)
    have HQ9 := Aside0.mk (HQd.out.below hb9)
    have HX9 := Aside0.mk (HXd.out.below hb9)
    have HY9 := Aside0.mk hl
    clear hl hb9 HXd HBd HQd HRp HRk HI0 HS HB0 HRq HWf
    refine dpure 20 (some 13) rfl rfl (by kernel_rfl) (fun _ _ _ h => h) (by rfl) (v := ?_) (a' := ?_) ?_ ?_ ?_
    rotate_left 2
    · intro w'; go_simp; with_reducible rfl
    · simp only [Act.put, List.setIfInBounds_toArray, List.set_cons_zero, List.set_cons_succ]; rfl
    refine done_ (by kernel_rfl) ?_
    have HN9 := Aside0.mk (show FR w9 w.heap.size (.slice none 0 0) [] from Kd.R_nil _ _ _ _ _)
    go_wp2_with ((with_reducible refine gate_dst (N := 119) rfl ?_); refine appF (w0 := w) (base := w.heap.size) (c := cp) rfl (.tmp 115) (.tmp 118) (by kernel_rfl) (by kernel_rfl) (by kernel_rfl) HN9.out HRp9.out HB9.out HB9.out.size (by simp; omega) ?_)
    rintro v10 w10 ho hb hg ho2
    have HV10 := Aside0.mk (show FR w10 w.heap.size v10 P from ho)
    have HB10 := Aside0.mk hb
    have HQ10 := Aside0.mk (HQ9.out.beside HN9.out (by decide) hg)
    have HX10 := Aside0.mk (HX9.out.beside HN9.out (by decide) hg)
    have HY10 := Aside0.mk (HY9.out.beside HN9.out (by decide) hg)
    clear ho hb hg ho2 HN9 HRp9 HB9 HQ9 HX9 HY9 sl1 sl2
    have hwl : IntKind.i64.wrap ((xs.length : Int) - 1) = (xs.length : Int) - 1 := by rw [IntKind.wrap_i64]; omega
    go_upto_block 2 with fail
    clear hwl
    go_wp2_with fail
    go_loopg [14, 15] mq (fun kq v14 v15 w' => v15 = .int .i64 (((n0 + kq : Nat) : Int) - 1) ∧ Aside0 (kq ≤ mq) ∧ Aside0 (FR w' w.heap.size v14 (P ++ (xs.drop (n0 + kq)).reverse)) ∧ Aside0 (Below w.heap.size w w') ∧ Aside0 (SAt w' q0 #[.string m0, .string m1, .string ⟨#[]⟩, .string m2, .bool false, .int .i64 m3] 26) ∧ Aside0 (SAt w' q1 #[.string m0, .string m1, .string ⟨#[]⟩, .string m2, .bool false, .int .i64 m3] 26) ∧ Aside0 (SAt w' qb #[.string m0, .string m1, .string ⟨#[]⟩, .string m2, .bool false, .int .i64 m3] 26))
    case atStart =>
      have e1 : n0 + mq = xs.length := by have := HM2.out; have := HN1.out; omega
      refine ⟨by rw [e1], ⟨Nat.le_refl _⟩, ⟨?_⟩, HB10, HQ10, HX10, HY10⟩
      rw [e1, List.drop_of_length_le (Nat.le_refl _), List.reverse_nil, List.append_nil]
      exact HV10.out
    case round =>
    clear HV10 HB10 HQ10 HX10 HY10
    obtain ⟨rfl, HK, HV, HB, HQ, HX, HY⟩ := hrel
    cases gk with
    | zero =>
      have d1 : decide ((n0 : Int) ≤ ((n0 + 0 : Nat) : Int) - 1) = false := decide_eq_false (by omega)
      have d1' : decide ((n0 : Int) ≤ (n0 : Int) - 1) = false := decide_eq_false (by omega)
      have hv := HV.out
      rw [Nat.add_zero, ← HPe.out] at hv
      have hr3 := HR3.out
      have hw3 := HW3.out
      generalize xs.take n0 ++ (xs.drop n0).reverse = zs at hv hr3 hw3
      obtain ⟨Az, cz, rfl, hlc, hrc⟩ := Kd.R_reads hv
      have HRz := Lib.hid hr3
      have HWz := Lib.hid hw3
      have HCz := Aside0.mk hrc
      have HLz := Lib.hid hlc
      clear hv hr3 hw3 hlc hrc HV HR3 HW3
      go_wp2_with fail
      refine (request_calls Az cz zs _ HCz.out HLz.out HWz.out).mono ?_
      rw [HRz.out]
      rintro e w12 ⟨rfl, hb⟩
      have HQ12 := Aside0.mk (HQ.out.below hb)
      have HX12 := Aside0.mk (HX.out.below hb)
      have HY12 := Aside0.mk (HY.out.below hb)
      have HB12 := Aside0.mk (below_step HB.out hb)
      clear hb HB HQ HX HY HCz HLz HWz HRz
      go_upto_region 20 with fail
      have hal := below_alloc (Below.refl w12.heap.size w12) (.cells #[.string m0, .string m1, .string ⟨#[]⟩, .string m2, .bool false, .int .i64 m3] 26 (0, 0))
      have HB13 := Aside0.mk (below_step HB12.out hal)
      have HQ13 := Aside0.mk (HQ12.out.below hal)
      have HX13 := Aside0.mk (HX12.out.below hal)
      have HY13 := Aside0.mk (HY12.out.below hal)
      have HZ13 := Aside0.mk (SAt.new w12 #[.string m0, .string m1, .string ⟨#[]⟩, .string m2, .bool false, .int .i64 m3] 26)
      generalize w12.alloc (.cells #[.string m0, .string m1, .string ⟨#[]⟩, .string m2, .bool false, .int .i64 m3] 26 (0, 0)) = w13 at *
      generalize w12.heap.size = q3 at *
      have x0 := HQ13.out.is 0 rfl
      have x1 := HQ13.out.is 1 rfl
      have x2 := HQ13.out.is 2 rfl
      have x3 := HQ13.out.is 3 rfl
      have x4 := HQ13.out.is 4 rfl
      have x5 := HQ13.out.is 5 rfl
      have y0 := HX13.out.is 0 rfl
      have y1 := HX13.out.is 1 rfl
      have y2 := HX13.out.is 2 rfl
      have y3 := HX13.out.is 3 rfl
      have y4 := HX13.out.is 4 rfl
      have y5 := HX13.out.is 5 rfl
      have z0 := HY13.out.is 0 rfl
      have z1 := HY13.out.is 1 rfl
      have z2 := HY13.out.is 2 rfl
      have z3 := HY13.out.is 3 rfl
      have z4 := HY13.out.is 4 rfl
      have z5 := HY13.out.is 5 rfl
      have v0 := HZ13.out.is 0 rfl
      have v1 := HZ13.out.is 1 rfl
      have v2 := HZ13.out.is 2 rfl
      have v3 := HZ13.out.is 3 rfl
      have v4 := HZ13.out.is 4 rfl
      have v5 := HZ13.out.is 5 rfl
      go_wp2_with fail
      go_ret
      exact ⟨rfl, HB13.out⟩
    | succ j =>
      have hk : n0 + j < xs.length := by have := HK.out; have := HM2.out; have := HN1.out; omega
      obtain ⟨i, hi⟩ : ∃ i, n0 + j = i := ⟨_, rfl⟩
      have hv := HV.out
      rw [show n0 + (j + 1) = i + 1 by omega] at hv ⊢
      rw [hi] at hk
      obtain ⟨ad, y, rfl, hy, e0, e1, e2⟩ := at_fl (Kd.C_below HRd.out HB.out) i hk
      have hdr : (xs.drop i).reverse = (xs.drop (i + 1)).reverse ++ [y] := by
        rw [List.drop_eq_getElem_cons hk]
        rw [List.getD_eq_getElem?_getD, List.getElem?_eq_getElem hk] at hy
        rw [show xs[i] = y from hy, List.reverse_cons]
      have HD := Lib.hid hdr
      have HIi := Lib.hid hi
      have hlz : (P ++ (xs.drop (i + 1)).reverse).length ≤ 1000 := by simp; omega
      have c1 : (((i + 1 : Nat) : Int) - 1) = (i : Int) := by omega
      rw [c1]
      have hni : n0 ≤ i := by omega
      have d1 : decide ((n0 : Int) ≤ (i : Int)) = true := decide_eq_true (by omega)
      have q1' : (0 : Int) ≤ (i : Int) := by omega
      have q2' : (i : Int) < (xs.length : Int) := by omega
      have hwi : IntKind.i64.wrap ((i : Int) - 1) = (i : Int) - 1 := by rw [IntKind.wrap_i64]; omega
      obtain ⟨zs, hzs⟩ : ∃ zs, P ++ (xs.drop (i + 1)).reverse = zs := ⟨_, rfl⟩
      rw [hzs] at hv hlz
      have HZs := Lib.hid hzs
      have HV1 := Aside0.mk hv
      have HKj := Lib.hid (show j ≤ mq by have := HK.out; omega)
      have d2 : decide (n0 ≤ i) = true := decide_eq_true hni
      clear hv hdr hy hi hzs c1 hk HV HK
      have hal := below_alloc (Below.refl wr.heap.size wr) (.cells #[.string y.n, .string y.v, .bool y.nv] 41)
      have HB10 := Aside0.mk (below_step HB.out hal)
      have HQ10 := Aside0.mk (HQ.out.below hal)
      have HX10 := Aside0.mk (HX.out.below hal)
      have HY10 := Aside0.mk (HY.out.below hal)
      have HV10 := Aside0.mk (Kd.R_below HV1.out hal)
      have HU10 := Aside0.mk (fr_one wr HB.out.size y)
      clear hal
      go_wp2_with ((with_reducible refine gate_dst (N := 134) rfl ?_); refine appF (w0 := w) (base := w.heap.size) (c := 1) rfl (.tmp 128) (.tmp 133) (by kernel_rfl) (by kernel_rfl) (by kernel_rfl) HV10.out (Kd.R_reads' HU10.out).2.2 HB10.out HB10.out.size (by simp; omega) ?_)
      rintro v11 w11 ho hb hg ho2
      have HV11 := Aside0.mk (show FR w11 w.heap.size v11 (P ++ (xs.drop (n0 + j)).reverse) by rw [HIi.out, HD.out, ← List.append_assoc, HZs.out]; exact ho)
      have HB11 := Aside0.mk hb
      have HQ11 := Aside0.mk (HQ10.out.beside HV10.out (by decide) hg)
      have HX11 := Aside0.mk (HX10.out.beside HV10.out (by decide) hg)
      have HY11 := Aside0.mk (HY10.out.beside HV10.out (by decide) hg)
      clear ho hb hg ho2 HV10 HB10 HQ10 HX10 HY10 HU10 HV1 HB HQ HX HY e0 e1 e2 hlz
      go_wp2_with fail
      go_roundg j
      case measure => omega
      case rel => exact ⟨by rw [HIi.out], ⟨HKj.out⟩, HV11, HB11, HQ11, HX11, HY11⟩
  simp only [putAll, Act.put, List.setIfInBounds_toArray, List.set_cons_zero, List.set_cons_succ] at JT
  refine wpAnyLast_ready (rs := [0, 8, 18]) (by kernel_rfl) (by simp) (AllReadyL.cons rfl (by decide) (fun K hK => ?_) (AllReadyL.cons rfl (by decide) (fun K hK => ?_) (AllReadyL.cons rfl (by decide) (fun K hK => ?_) AllReadyL.nil)))
  · skip
    have hb := below_alloc (Below.refl w0.heap.size w0) (.cells #[] 41)
    have HI1 := Aside0.mk (below_stepB HB0.out HI0.out hb)
    have HV1 := Aside0.mk (fr_nil (base := B0) w0 (below_sz HB0.out HI0.out))
    refine event_step (by kernel_rfl) (v := .slice (some ⟨w0.heap.size, 0, none⟩) 0 0) (w1 := w0.alloc (.cells #[] 41)) (by go_simp; done) ?_
    refine hK _ _ (HS.out _ HI1.out) (fun hS => ?_)
    clear hK K
    refine norm_ (a' := Act.put _ (some 98) (.slice (some ⟨w0.heap.size, 0, none⟩) 0 0)) rfl ?_
    refine norm_ (a' := ?_) ?_ ?_
    rotate_left
    · simp only [Act.put, List.setIfInBounds_toArray, List.set_cons_zero, List.set_cons_succ]; rfl
    clear hS
    clear hb
    generalize w0.alloc (.cells #[] 41) = w1 at *
    generalize Value.slice (some ⟨w0.heap.size, 0, none⟩) 0 0 = va at *
    refine wpAnyLast_ready (rs := [4, 8, 18]) (by kernel_rfl) (by simp) (AllReadyL.cons rfl (by decide) (fun K hK => ?_) (AllReadyL.cons rfl (by decide) (fun K hK => ?_) (AllReadyL.cons rfl (by decide) (fun K hK => ?_) AllReadyL.nil)))
    · skip
      refine appF_step (w0 := w0) (base := B0) (c := cp) (some 102) rfl (by rfl) (.tmp 98) (.tmp 101) (by kernel_rfl) (by kernel_rfl) (by kernel_rfl) HV1.out (HRp.out _ HI1.out) HI1.out (below_sz HB0.out HI1.out) (by simp; omega) ?_
      intro v1 w2 ho hb hg hob
      have HI2 := Aside0.mk hb
      have HV2 := Aside0.mk (show FR w2 B0 v1 P from ho)
      clear ho hb hg hob
      obtain ⟨vb1, hvb⟩ : ∃ v, v1 = v := ⟨_, rfl⟩
      rw [hvb] at HV2 ⊢
      clear hvb
      refine hK _ _ (HS.out _ HI2.out) (fun hS => ?_)
      clear hK K
      refine norm_ (a' := Act.put _ (some 102) vb1) rfl ?_
      refine norm_ (a' := ?_) ?_ ?_
      rotate_left
      · simp only [Act.put, List.setIfInBounds_toArray, List.set_cons_zero, List.set_cons_succ]; rfl
      clear hS
      refine wpAnyLast_ready (rs := [8, 18]) (by kernel_rfl) (by simp) (AllReadyL.cons rfl (by decide) (fun K hK => ?_) (AllReadyL.cons rfl (by decide) (fun K hK => ?_) AllReadyL.nil))
      · skip
        have hb := below_alloc (Below.refl w2.heap.size w2) (.cells #[.string s, .string t, .bool false] 41)
        have HI3 := Aside0.mk (below_stepB HB0.out HI2.out hb)
        have HV3 := Aside0.mk (Kd.R_below HV2.out hb)
        have HU3 := Aside0.mk (show FR (w2.alloc (.cells #[.string s, .string t, .bool false] 41)) B0 (.slice (some ⟨w2.heap.size, 0, none⟩) 1 1) [(⟨s, t, false⟩ : Fl)] from fr_one (base := B0) w2 (below_sz HB0.out HI2.out) _)
        have HA3 := Aside0.mk (apart_lit HV2.out 1 1)
        refine event_step (by kernel_rfl) (v := .slice (some ⟨w2.heap.size, 0, none⟩) 1 1) (w1 := w2.alloc (.cells #[.string s, .string t, .bool false] 41)) (by first | (go_simp; done) | (go_simp; rfl)) ?_
        refine hK _ _ (HS.out _ HI3.out) (fun hS => ?_)
        clear hK K
        refine norm_ (a' := Act.put _ (some 106) (.slice (some ⟨w2.heap.size, 0, none⟩) 1 1)) rfl ?_
        refine norm_ (a' := ?_) ?_ ?_
        rotate_left
        · simp only [Act.put, List.setIfInBounds_toArray, List.set_cons_zero, List.set_cons_succ]; rfl
        clear hS
        clear hb
        generalize w2.alloc (.cells #[.string s, .string t, .bool false] 41) = w3 at *
        generalize w2.heap.size = gl at *
        refine wpAnyLast_ready (rs := [9, 18]) (by kernel_rfl) (by simp) (AllReadyL.cons rfl (by decide) (fun K hK => ?_) (AllReadyL.cons rfl (by decide) (fun K hK => ?_) AllReadyL.nil))
        · skip
          refine appF_step (w0 := w0) (base := B0) (c := 1) (some 107) rfl (by rfl) (.tmp 102) (.tmp 106) (by kernel_rfl) (by kernel_rfl) (by kernel_rfl) HV3.out (Kd.R_reads' HU3.out).2.2 HI3.out (below_sz HB0.out HI3.out) (by simp; omega) ?_
          intro v1 w4 ho hb hg hob
          have HI4 := Aside0.mk hb
          have HV4 := Aside0.mk (show FR w4 B0 v1 (P ++ [(⟨s, t, false⟩ : Fl)]) from ho)
          clear ho hb hg hob
          obtain ⟨vb2, hvb⟩ : ∃ v, v1 = v := ⟨_, rfl⟩
          rw [hvb] at HV4 ⊢
          clear hvb
          refine hK _ _ (HS.out _ HI4.out) (fun hS => ?_)
          clear hK K
          refine norm_ (a' := Act.put _ (some 107) vb2) rfl ?_
          refine norm_ (a' := ?_) ?_ ?_
          rotate_left
          · simp only [Act.put, List.setIfInBounds_toArray, List.set_cons_zero, List.set_cons_succ]; rfl
          clear hS
          refine wpAnyLast_ready (rs := [13, 18]) (by kernel_rfl) (by simp) (AllReadyL.cons rfl (by decide) (fun K hK => ?_) (AllReadyL.cons rfl (by decide) (fun K hK => ?_) AllReadyL.nil))
          · skip
            refine appF_step (w0 := w0) (base := B0) (c := cq) (some 111) rfl (by rfl) (.tmp 107) (.tmp 110) (by kernel_rfl) (by kernel_rfl) (by kernel_rfl) HV4.out (HRk.out _ HI4.out) HI4.out (below_sz HB0.out HI4.out) (by simp; omega) ?_
            intro v1 w5 ho hb hg hob
            have HI5 := Aside0.mk hb
            have HV5 := Aside0.mk (show FR w5 B0 v1 (P ++ [(⟨s, t, false⟩ : Fl)] ++ Q) from ho)
            clear ho hb hg hob
            obtain ⟨An, cn, rfl, hlc, hrc⟩ := Kd.R_reads HV5.out
            have HW5 := Aside0.mk (show kF.C w5 An (P ++ [(⟨s, t, false⟩ : Fl)] ++ Q).length (P ++ [(⟨s, t, false⟩ : Fl)] ++ Q) from hrc)
            have HWl := Lib.hid (show (P ++ [(⟨s, t, false⟩ : Fl)] ++ Q).length ≤ cn from hlc)
            clear hlc hrc
            refine hK _ _ (HS.out _ HI5.out) (fun hS => ?_)
            clear hK K
            refine norm_ (a' := Act.put _ (some 111) (.slice An (P ++ [(⟨s, t, false⟩ : Fl)] ++ Q).length cn)) rfl ?_
            refine norm_ (a' := ?_) ?_ ?_
            rotate_left
            · simp only [Act.put, List.setIfInBounds_toArray, List.set_cons_zero, List.set_cons_succ]; rfl
            clear hS
            refine wpAnyLast_ready (rs := [14, 18]) (by kernel_rfl) (by simp) (AllReadyL.cons rfl (by decide) (fun K hK => ?_) (AllReadyL.cons rfl (by decide) (fun K hK => ?_) AllReadyL.nil))
            · skip
              refine goes_ Tryd.func9 (by kernel_rfl) rfl #[.slice An (P ++ [(⟨s, t, false⟩ : Fl)] ++ Q).length cn] (by rfl) rfl rfl (by kernel_rfl) ?_
              refine (request_calls An cn (P ++ [(⟨s, t, false⟩ : Fl)] ++ Q) _ HW5.out HWl.out HWf.out).mono ?_
              rw [HRq.out]
              rintro e w6 ⟨rfl, hb⟩
              refine ⟨_, rfl, ?_⟩
              have HI6 := Aside0.mk (below_stepB HB0.out HI5.out hb)
              refine hK _ _ (HS.out _ HI6.out) (fun hS => ?_)
              clear hK K
              refine norm_ (a' := Act.put _ (some 112) (.tuple #[.agg #[.string m0, .string m1, .string ⟨#[]⟩, .string m2, .bool false, .int .i64 m3], .int .i64 0])) rfl ?_
              refine norm_ (a' := ?_) ?_ ?_
              rotate_left
              · simp only [Act.put, List.setIfInBounds_toArray, List.set_cons_zero, List.set_cons_succ]; rfl
              clear hS
              refine dpure 15 (some 97) rfl rfl (by kernel_rfl) (fun _ _ _ h => h) (by rfl) (v := ?_) (a' := ?_) ?_ ?_ ?_
              rotate_left 2
              · intro w'; go_simp; with_reducible rfl
              · simp only [Act.put, List.setIfInBounds_toArray, List.set_cons_zero, List.set_cons_succ]; rfl
              refine dpure 16 (some 113) rfl rfl (by kernel_rfl) (fun _ _ _ h => h) (by rfl) (v := ?_) (a' := ?_) ?_ ?_ ?_
              rotate_left 2
              · intro w'; go_simp; with_reducible rfl
              · simp only [Act.put, List.setIfInBounds_toArray, List.set_cons_zero, List.set_cons_succ]; rfl
              refine dpure 17 (some 114) rfl rfl (by kernel_rfl) (fun _ _ _ h => h) (by rfl) (v := ?_) (a' := ?_) ?_ ?_ ?_
              rotate_left 2
              · intro w'; go_simp; with_reducible rfl
              · simp only [Act.put, List.setIfInBounds_toArray, List.set_cons_zero, List.set_cons_succ]; rfl
              clear hb
              refine wpAnyLast_ready (rs := [18]) (by kernel_rfl) (by simp) (AllReadyL.cons rfl (by decide) (fun K hK => ?_) AllReadyL.nil)
              · skip
                have hb := below_alloc (Below.refl w6.heap.size w6) (.cells #[.string ⟨#[]⟩, .string ⟨#[]⟩, .string ⟨#[]⟩, .string ⟨#[]⟩, .bool false, .int .i64 0] 26 (0, 0))
                have HI7 := Aside0.mk (below_stepB HB0.out HI6.out hb)
                have HB7 := Aside0.mk (SAt.new w6 #[.string ⟨#[]⟩, .string ⟨#[]⟩, .string ⟨#[]⟩, .string ⟨#[]⟩, .bool false, .int .i64 0] 26)
                have HQ := Lib.hid ((below_sz HB0.out HI6.out))
                refine event_step (by kernel_rfl) (v := .pointer (some ⟨w6.heap.size, 0, none⟩)) (w1 := w6.alloc (.cells #[.string ⟨#[]⟩, .string ⟨#[]⟩, .string ⟨#[]⟩, .string ⟨#[]⟩, .bool false, .int .i64 0] 26 (0, 0))) (by go_simp; done) ?_
                refine hK _ _ (HS.out _ HI7.out) (fun hS => ?_)
                clear hK K
                refine norm_ (a' := Act.put _ (some 12) (.pointer (some ⟨w6.heap.size, 0, none⟩))) rfl ?_
                refine norm_ (a' := ?_) ?_ ?_
                rotate_left
                · simp only [Act.put, List.setIfInBounds_toArray, List.set_cons_zero, List.set_cons_succ]; rfl
                clear hS
                clear hb
                generalize w6.alloc (.cells #[.string ⟨#[]⟩, .string ⟨#[]⟩, .string ⟨#[]⟩, .string ⟨#[]⟩, .bool false, .int .i64 0] 26 (0, 0)) = w7 at *
                generalize w6.heap.size = qb at *
                refine lcast (l' := #[true, true, true, true, true, true, true, true, true, true, true, true, true, true, true, true, true, true, true, false, false]) (by kernel_rfl) ?_
                exact JT (va, vb1, vb2, .slice An (P ++ [(⟨s, t, false⟩ : Fl)] ++ Q).length cn, .slice (some ⟨gl, 0, none⟩) 1 1, qb) w7 ⟨HB7.out, HI7.out, HQ.out⟩
            · skip
              have hb := below_alloc (Below.refl w5.heap.size w5) (.cells #[.string ⟨#[]⟩, .string ⟨#[]⟩, .string ⟨#[]⟩, .string ⟨#[]⟩, .bool false, .int .i64 0] 26 (0, 0))
              have HI6 := Aside0.mk (below_stepB HB0.out HI5.out hb)
              have HW6 := Aside0.mk (Kd.C_below HW5.out hb)
              have HB6 := Aside0.mk (SAt.new w5 #[.string ⟨#[]⟩, .string ⟨#[]⟩, .string ⟨#[]⟩, .string ⟨#[]⟩, .bool false, .int .i64 0] 26)
              have HQ := Lib.hid ((below_sz HB0.out HI5.out))
              refine event_step (by kernel_rfl) (v := .pointer (some ⟨w5.heap.size, 0, none⟩)) (w1 := w5.alloc (.cells #[.string ⟨#[]⟩, .string ⟨#[]⟩, .string ⟨#[]⟩, .string ⟨#[]⟩, .bool false, .int .i64 0] 26 (0, 0))) (by go_simp; done) ?_
              refine hK _ _ (HS.out _ HI6.out) (fun hS => ?_)
              clear hK K
              refine norm_ (a' := Act.put _ (some 12) (.pointer (some ⟨w5.heap.size, 0, none⟩))) rfl ?_
              refine norm_ (a' := ?_) ?_ ?_
              rotate_left
              · simp only [Act.put, List.setIfInBounds_toArray, List.set_cons_zero, List.set_cons_succ]; rfl
              clear hS
              clear hb
              generalize w5.alloc (.cells #[.string ⟨#[]⟩, .string ⟨#[]⟩, .string ⟨#[]⟩, .string ⟨#[]⟩, .bool false, .int .i64 0] 26 (0, 0)) = w6 at *
              generalize w5.heap.size = qb at *
              refine wpAnyLast_ready (rs := [14]) (by kernel_rfl) (by simp) (AllReadyL.cons rfl (by decide) (fun K hK => ?_) AllReadyL.nil)
              · skip
                refine goes_ Tryd.func9 (by kernel_rfl) rfl #[.slice An (P ++ [(⟨s, t, false⟩ : Fl)] ++ Q).length cn] (by rfl) rfl rfl (by kernel_rfl) ?_
                refine (request_calls An cn (P ++ [(⟨s, t, false⟩ : Fl)] ++ Q) _ HW6.out HWl.out HWf.out).mono ?_
                rw [HRq.out]
                rintro e w7 ⟨rfl, hb⟩
                refine ⟨_, rfl, ?_⟩
                have HI7 := Aside0.mk (below_stepB HB0.out HI6.out hb)
                have HB7 := Aside0.mk (HB6.out.below hb)
                refine hK _ _ (HS.out _ HI7.out) (fun hS => ?_)
                clear hK K
                refine norm_ (a' := Act.put _ (some 112) (.tuple #[.agg #[.string m0, .string m1, .string ⟨#[]⟩, .string m2, .bool false, .int .i64 m3], .int .i64 0])) rfl ?_
                refine norm_ (a' := ?_) ?_ ?_
                rotate_left
                · simp only [Act.put, List.setIfInBounds_toArray, List.set_cons_zero, List.set_cons_succ]; rfl
                clear hS
                refine dpure 15 (some 97) rfl rfl (by kernel_rfl) (fun _ _ _ h => h) (by rfl) (v := ?_) (a' := ?_) ?_ ?_ ?_
                rotate_left 2
                · intro w'; go_simp; with_reducible rfl
                · simp only [Act.put, List.setIfInBounds_toArray, List.set_cons_zero, List.set_cons_succ]; rfl
                refine dpure 16 (some 113) rfl rfl (by kernel_rfl) (fun _ _ _ h => h) (by rfl) (v := ?_) (a' := ?_) ?_ ?_ ?_
                rotate_left 2
                · intro w'; go_simp; with_reducible rfl
                · simp only [Act.put, List.setIfInBounds_toArray, List.set_cons_zero, List.set_cons_succ]; rfl
                refine dpure 17 (some 114) rfl rfl (by kernel_rfl) (fun _ _ _ h => h) (by rfl) (v := ?_) (a' := ?_) ?_ ?_ ?_
                rotate_left 2
                · intro w'; go_simp; with_reducible rfl
                · simp only [Act.put, List.setIfInBounds_toArray, List.set_cons_zero, List.set_cons_succ]; rfl
                clear hb
                refine lcast (l' := #[true, true, true, true, true, true, true, true, true, true, true, true, true, true, true, true, true, true, true, false, false]) (by kernel_rfl) ?_
                exact JT (va, vb1, vb2, .slice An (P ++ [(⟨s, t, false⟩ : Fl)] ++ Q).length cn, .slice (some ⟨gl, 0, none⟩) 1 1, qb) w7 ⟨HB7.out, HI7.out, HQ.out⟩
          · skip
            have hb := below_alloc (Below.refl w4.heap.size w4) (.cells #[.string ⟨#[]⟩, .string ⟨#[]⟩, .string ⟨#[]⟩, .string ⟨#[]⟩, .bool false, .int .i64 0] 26 (0, 0))
            have HI5 := Aside0.mk (below_stepB HB0.out HI4.out hb)
            have HV5 := Aside0.mk (Kd.R_below HV4.out hb)
            have HB5 := Aside0.mk (SAt.new w4 #[.string ⟨#[]⟩, .string ⟨#[]⟩, .string ⟨#[]⟩, .string ⟨#[]⟩, .bool false, .int .i64 0] 26)
            have HQ := Lib.hid ((below_sz HB0.out HI4.out))
            refine event_step (by kernel_rfl) (v := .pointer (some ⟨w4.heap.size, 0, none⟩)) (w1 := w4.alloc (.cells #[.string ⟨#[]⟩, .string ⟨#[]⟩, .string ⟨#[]⟩, .string ⟨#[]⟩, .bool false, .int .i64 0] 26 (0, 0))) (by go_simp; done) ?_
            refine hK _ _ (HS.out _ HI5.out) (fun hS => ?_)
            clear hK K
            refine norm_ (a' := Act.put _ (some 12) (.pointer (some ⟨w4.heap.size, 0, none⟩))) rfl ?_
            refine norm_ (a' := ?_) ?_ ?_
            rotate_left
            · simp only [Act.put, List.setIfInBounds_toArray, List.set_cons_zero, List.set_cons_succ]; rfl
            clear hS
            clear hb
            generalize w4.alloc (.cells #[.string ⟨#[]⟩, .string ⟨#[]⟩, .string ⟨#[]⟩, .string ⟨#[]⟩, .bool false, .int .i64 0] 26 (0, 0)) = w5 at *
            generalize w4.heap.size = qb at *
            refine wpAnyLast_ready (rs := [13]) (by kernel_rfl) (by simp) (AllReadyL.cons rfl (by decide) (fun K hK => ?_) AllReadyL.nil)
            · skip
              refine appF_step (w0 := w0) (base := B0) (c := cq) (some 111) rfl (by rfl) (.tmp 107) (.tmp 110) (by kernel_rfl) (by kernel_rfl) (by kernel_rfl) HV5.out (HRk.out _ HI5.out) HI5.out (below_sz HB0.out HI5.out) (by simp; omega) ?_
              intro v1 w6 ho hb hg hob
              have HI6 := Aside0.mk hb
              have HV6 := Aside0.mk (show FR w6 B0 v1 (P ++ [(⟨s, t, false⟩ : Fl)] ++ Q) from ho)
              have HB6 := Aside0.mk (HB5.out.beside HV5.out (by decide) hg)
              clear ho hb hg hob
              obtain ⟨An, cn, rfl, hlc, hrc⟩ := Kd.R_reads HV6.out
              have HW6 := Aside0.mk (show kF.C w6 An (P ++ [(⟨s, t, false⟩ : Fl)] ++ Q).length (P ++ [(⟨s, t, false⟩ : Fl)] ++ Q) from hrc)
              have HWl := Lib.hid (show (P ++ [(⟨s, t, false⟩ : Fl)] ++ Q).length ≤ cn from hlc)
              clear hlc hrc
              refine hK _ _ (HS.out _ HI6.out) (fun hS => ?_)
              clear hK K
              refine norm_ (a' := Act.put _ (some 111) (.slice An (P ++ [(⟨s, t, false⟩ : Fl)] ++ Q).length cn)) rfl ?_
              refine norm_ (a' := ?_) ?_ ?_
              rotate_left
              · simp only [Act.put, List.setIfInBounds_toArray, List.set_cons_zero, List.set_cons_succ]; rfl
              clear hS
              refine wpAnyLast_ready (rs := [14]) (by kernel_rfl) (by simp) (AllReadyL.cons rfl (by decide) (fun K hK => ?_) AllReadyL.nil)
              · skip
                refine goes_ Tryd.func9 (by kernel_rfl) rfl #[.slice An (P ++ [(⟨s, t, false⟩ : Fl)] ++ Q).length cn] (by rfl) rfl rfl (by kernel_rfl) ?_
                refine (request_calls An cn (P ++ [(⟨s, t, false⟩ : Fl)] ++ Q) _ HW6.out HWl.out HWf.out).mono ?_
                rw [HRq.out]
                rintro e w7 ⟨rfl, hb⟩
                refine ⟨_, rfl, ?_⟩
                have HI7 := Aside0.mk (below_stepB HB0.out HI6.out hb)
                have HB7 := Aside0.mk (HB6.out.below hb)
                refine hK _ _ (HS.out _ HI7.out) (fun hS => ?_)
                clear hK K
                refine norm_ (a' := Act.put _ (some 112) (.tuple #[.agg #[.string m0, .string m1, .string ⟨#[]⟩, .string m2, .bool false, .int .i64 m3], .int .i64 0])) rfl ?_
                refine norm_ (a' := ?_) ?_ ?_
                rotate_left
                · simp only [Act.put, List.setIfInBounds_toArray, List.set_cons_zero, List.set_cons_succ]; rfl
                clear hS
                refine dpure 15 (some 97) rfl rfl (by kernel_rfl) (fun _ _ _ h => h) (by rfl) (v := ?_) (a' := ?_) ?_ ?_ ?_
                rotate_left 2
                · intro w'; go_simp; with_reducible rfl
                · simp only [Act.put, List.setIfInBounds_toArray, List.set_cons_zero, List.set_cons_succ]; rfl
                refine dpure 16 (some 113) rfl rfl (by kernel_rfl) (fun _ _ _ h => h) (by rfl) (v := ?_) (a' := ?_) ?_ ?_ ?_
                rotate_left 2
                · intro w'; go_simp; with_reducible rfl
                · simp only [Act.put, List.setIfInBounds_toArray, List.set_cons_zero, List.set_cons_succ]; rfl
                refine dpure 17 (some 114) rfl rfl (by kernel_rfl) (fun _ _ _ h => h) (by rfl) (v := ?_) (a' := ?_) ?_ ?_ ?_
                rotate_left 2
                · intro w'; go_simp; with_reducible rfl
                · simp only [Act.put, List.setIfInBounds_toArray, List.set_cons_zero, List.set_cons_succ]; rfl
                clear hb
                refine lcast (l' := #[true, true, true, true, true, true, true, true, true, true, true, true, true, true, true, true, true, true, true, false, false]) (by kernel_rfl) ?_
                exact JT (va, vb1, vb2, .slice An (P ++ [(⟨s, t, false⟩ : Fl)] ++ Q).length cn, .slice (some ⟨gl, 0, none⟩) 1 1, qb) w7 ⟨HB7.out, HI7.out, HQ.out⟩
        · skip
          have hb := below_alloc (Below.refl w3.heap.size w3) (.cells #[.string ⟨#[]⟩, .string ⟨#[]⟩, .string ⟨#[]⟩, .string ⟨#[]⟩, .bool false, .int .i64 0] 26 (0, 0))
          have HI4 := Aside0.mk (below_stepB HB0.out HI3.out hb)
          have HV4 := Aside0.mk (Kd.R_below HV3.out hb)
          have HU4 := Aside0.mk (Kd.R_below HU3.out hb)
          have HA4 := HA3
          have HB4 := Aside0.mk (SAt.new w3 #[.string ⟨#[]⟩, .string ⟨#[]⟩, .string ⟨#[]⟩, .string ⟨#[]⟩, .bool false, .int .i64 0] 26)
          have HQ := Lib.hid ((below_sz HB0.out HI3.out))
          refine event_step (by kernel_rfl) (v := .pointer (some ⟨w3.heap.size, 0, none⟩)) (w1 := w3.alloc (.cells #[.string ⟨#[]⟩, .string ⟨#[]⟩, .string ⟨#[]⟩, .string ⟨#[]⟩, .bool false, .int .i64 0] 26 (0, 0))) (by go_simp; done) ?_
          refine hK _ _ (HS.out _ HI4.out) (fun hS => ?_)
          clear hK K
          refine norm_ (a' := Act.put _ (some 12) (.pointer (some ⟨w3.heap.size, 0, none⟩))) rfl ?_
          refine norm_ (a' := ?_) ?_ ?_
          rotate_left
          · simp only [Act.put, List.setIfInBounds_toArray, List.set_cons_zero, List.set_cons_succ]; rfl
          clear hS
          clear hb
          generalize w3.alloc (.cells #[.string ⟨#[]⟩, .string ⟨#[]⟩, .string ⟨#[]⟩, .string ⟨#[]⟩, .bool false, .int .i64 0] 26 (0, 0)) = w4 at *
          generalize w3.heap.size = qb at *
          refine wpAnyLast_ready (rs := [9]) (by kernel_rfl) (by simp) (AllReadyL.cons rfl (by decide) (fun K hK => ?_) AllReadyL.nil)
          · skip
            refine appF_step (w0 := w0) (base := B0) (c := 1) (some 107) rfl (by rfl) (.tmp 102) (.tmp 106) (by kernel_rfl) (by kernel_rfl) (by kernel_rfl) HV4.out (Kd.R_reads' HU4.out).2.2 HI4.out (below_sz HB0.out HI4.out) (by simp; omega) ?_
            intro v1 w5 ho hb hg hob
            have HI5 := Aside0.mk hb
            have HV5 := Aside0.mk (show FR w5 B0 v1 (P ++ [(⟨s, t, false⟩ : Fl)]) from ho)
            have HB5 := Aside0.mk (HB4.out.beside HV4.out (by decide) hg)
            clear ho hb hg hob
            obtain ⟨vb2, hvb⟩ : ∃ v, v1 = v := ⟨_, rfl⟩
            rw [hvb] at HV5 ⊢
            clear hvb
            refine hK _ _ (HS.out _ HI5.out) (fun hS => ?_)
            clear hK K
            refine norm_ (a' := Act.put _ (some 107) vb2) rfl ?_
            refine norm_ (a' := ?_) ?_ ?_
            rotate_left
            · simp only [Act.put, List.setIfInBounds_toArray, List.set_cons_zero, List.set_cons_succ]; rfl
            clear hS
            refine wpAnyLast_ready (rs := [13]) (by kernel_rfl) (by simp) (AllReadyL.cons rfl (by decide) (fun K hK => ?_) AllReadyL.nil)
            · skip
              refine appF_step (w0 := w0) (base := B0) (c := cq) (some 111) rfl (by rfl) (.tmp 107) (.tmp 110) (by kernel_rfl) (by kernel_rfl) (by kernel_rfl) HV5.out (HRk.out _ HI5.out) HI5.out (below_sz HB0.out HI5.out) (by simp; omega) ?_
              intro v1 w6 ho hb hg hob
              have HI6 := Aside0.mk hb
              have HV6 := Aside0.mk (show FR w6 B0 v1 (P ++ [(⟨s, t, false⟩ : Fl)] ++ Q) from ho)
              have HB6 := Aside0.mk (HB5.out.beside HV5.out (by decide) hg)
              clear ho hb hg hob
              obtain ⟨An, cn, rfl, hlc, hrc⟩ := Kd.R_reads HV6.out
              have HW6 := Aside0.mk (show kF.C w6 An (P ++ [(⟨s, t, false⟩ : Fl)] ++ Q).length (P ++ [(⟨s, t, false⟩ : Fl)] ++ Q) from hrc)
              have HWl := Lib.hid (show (P ++ [(⟨s, t, false⟩ : Fl)] ++ Q).length ≤ cn from hlc)
              clear hlc hrc
              refine hK _ _ (HS.out _ HI6.out) (fun hS => ?_)
              clear hK K
              refine norm_ (a' := Act.put _ (some 111) (.slice An (P ++ [(⟨s, t, false⟩ : Fl)] ++ Q).length cn)) rfl ?_
              refine norm_ (a' := ?_) ?_ ?_
              rotate_left
              · simp only [Act.put, List.setIfInBounds_toArray, List.set_cons_zero, List.set_cons_succ]; rfl
              clear hS
              refine wpAnyLast_ready (rs := [14]) (by kernel_rfl) (by simp) (AllReadyL.cons rfl (by decide) (fun K hK => ?_) AllReadyL.nil)
              · skip
                refine goes_ Tryd.func9 (by kernel_rfl) rfl #[.slice An (P ++ [(⟨s, t, false⟩ : Fl)] ++ Q).length cn] (by rfl) rfl rfl (by kernel_rfl) ?_
                refine (request_calls An cn (P ++ [(⟨s, t, false⟩ : Fl)] ++ Q) _ HW6.out HWl.out HWf.out).mono ?_
                rw [HRq.out]
                rintro e w7 ⟨rfl, hb⟩
                refine ⟨_, rfl, ?_⟩
                have HI7 := Aside0.mk (below_stepB HB0.out HI6.out hb)
                have HB7 := Aside0.mk (HB6.out.below hb)
                refine hK _ _ (HS.out _ HI7.out) (fun hS => ?_)
                clear hK K
                refine norm_ (a' := Act.put _ (some 112) (.tuple #[.agg #[.string m0, .string m1, .string ⟨#[]⟩, .string m2, .bool false, .int .i64 m3], .int .i64 0])) rfl ?_
                refine norm_ (a' := ?_) ?_ ?_
                rotate_left
                · simp only [Act.put, List.setIfInBounds_toArray, List.set_cons_zero, List.set_cons_succ]; rfl
                clear hS
                refine dpure 15 (some 97) rfl rfl (by kernel_rfl) (fun _ _ _ h => h) (by rfl) (v := ?_) (a' := ?_) ?_ ?_ ?_
                rotate_left 2
                · intro w'; go_simp; with_reducible rfl
                · simp only [Act.put, List.setIfInBounds_toArray, List.set_cons_zero, List.set_cons_succ]; rfl
                refine dpure 16 (some 113) rfl rfl (by kernel_rfl) (fun _ _ _ h => h) (by rfl) (v := ?_) (a' := ?_) ?_ ?_ ?_
                rotate_left 2
                · intro w'; go_simp; with_reducible rfl
                · simp only [Act.put, List.setIfInBounds_toArray, List.set_cons_zero, List.set_cons_succ]; rfl
                refine dpure 17 (some 114) rfl rfl (by kernel_rfl) (fun _ _ _ h => h) (by rfl) (v := ?_) (a' := ?_) ?_ ?_ ?_
                rotate_left 2
                · intro w'; go_simp; with_reducible rfl
                · simp only [Act.put, List.setIfInBounds_toArray, List.set_cons_zero, List.set_cons_succ]; rfl
                clear hb
                refine lcast (l' := #[true, true, true, true, true, true, true, true, true, true, true, true, true, true, true, true, true, true, true, false, false]) (by kernel_rfl) ?_
                exact JT (va, vb1, vb2, .slice An (P ++ [(⟨s, t, false⟩ : Fl)] ++ Q).length cn, .slice (some ⟨gl, 0, none⟩) 1 1, qb) w7 ⟨HB7.out, HI7.out, HQ.out⟩
      · skip
        have hb := below_alloc (Below.refl w2.heap.size w2) (.cells #[.string ⟨#[]⟩, .string ⟨#[]⟩, .string ⟨#[]⟩, .string ⟨#[]⟩, .bool false, .int .i64 0] 26 (0, 0))
        have HI3 := Aside0.mk (below_stepB HB0.out HI2.out hb)
        have HV3 := Aside0.mk (Kd.R_below HV2.out hb)
        have HB3 := Aside0.mk (SAt.new w2 #[.string ⟨#[]⟩, .string ⟨#[]⟩, .string ⟨#[]⟩, .string ⟨#[]⟩, .bool false, .int .i64 0] 26)
        have HQ := Lib.hid ((below_sz HB0.out HI2.out))
        refine event_step (by kernel_rfl) (v := .pointer (some ⟨w2.heap.size, 0, none⟩)) (w1 := w2.alloc (.cells #[.string ⟨#[]⟩, .string ⟨#[]⟩, .string ⟨#[]⟩, .string ⟨#[]⟩, .bool false, .int .i64 0] 26 (0, 0))) (by go_simp; done) ?_
        refine hK _ _ (HS.out _ HI3.out) (fun hS => ?_)
        clear hK K
        refine norm_ (a' := Act.put _ (some 12) (.pointer (some ⟨w2.heap.size, 0, none⟩))) rfl ?_
        refine norm_ (a' := ?_) ?_ ?_
        rotate_left
        · simp only [Act.put, List.setIfInBounds_toArray, List.set_cons_zero, List.set_cons_succ]; rfl
        clear hS
        clear hb
        generalize w2.alloc (.cells #[.string ⟨#[]⟩, .string ⟨#[]⟩, .string ⟨#[]⟩, .string ⟨#[]⟩, .bool false, .int .i64 0] 26 (0, 0)) = w3 at *
        generalize w2.heap.size = qb at *
        refine wpAnyLast_ready (rs := [8]) (by kernel_rfl) (by simp) (AllReadyL.cons rfl (by decide) (fun K hK => ?_) AllReadyL.nil)
        · skip
          have hb := below_alloc (Below.refl w3.heap.size w3) (.cells #[.string s, .string t, .bool false] 41)
          have HI4 := Aside0.mk (below_stepB HB0.out HI3.out hb)
          have HV4 := Aside0.mk (Kd.R_below HV3.out hb)
          have HB4 := Aside0.mk (HB3.out.below hb)
          have HU4 := Aside0.mk (show FR (w3.alloc (.cells #[.string s, .string t, .bool false] 41)) B0 (.slice (some ⟨w3.heap.size, 0, none⟩) 1 1) [(⟨s, t, false⟩ : Fl)] from fr_one (base := B0) w3 (below_sz HB0.out HI3.out) _)
          have HA4 := Aside0.mk (apart_lit HV3.out 1 1)
          refine event_step (by kernel_rfl) (v := .slice (some ⟨w3.heap.size, 0, none⟩) 1 1) (w1 := w3.alloc (.cells #[.string s, .string t, .bool false] 41)) (by first | (go_simp; done) | (go_simp; rfl)) ?_
          refine hK _ _ (HS.out _ HI4.out) (fun hS => ?_)
          clear hK K
          refine norm_ (a' := Act.put _ (some 106) (.slice (some ⟨w3.heap.size, 0, none⟩) 1 1)) rfl ?_
          refine norm_ (a' := ?_) ?_ ?_
          rotate_left
          · simp only [Act.put, List.setIfInBounds_toArray, List.set_cons_zero, List.set_cons_succ]; rfl
          clear hS
          clear hb
          generalize w3.alloc (.cells #[.string s, .string t, .bool false] 41) = w4 at *
          generalize w3.heap.size = gl at *
          refine wpAnyLast_ready (rs := [9]) (by kernel_rfl) (by simp) (AllReadyL.cons rfl (by decide) (fun K hK => ?_) AllReadyL.nil)
          · skip
            refine appF_step (w0 := w0) (base := B0) (c := 1) (some 107) rfl (by rfl) (.tmp 102) (.tmp 106) (by kernel_rfl) (by kernel_rfl) (by kernel_rfl) HV4.out (Kd.R_reads' HU4.out).2.2 HI4.out (below_sz HB0.out HI4.out) (by simp; omega) ?_
            intro v1 w5 ho hb hg hob
            have HI5 := Aside0.mk hb
            have HV5 := Aside0.mk (show FR w5 B0 v1 (P ++ [(⟨s, t, false⟩ : Fl)]) from ho)
            have HB5 := Aside0.mk (HB4.out.beside HV4.out (by decide) hg)
            clear ho hb hg hob
            obtain ⟨vb2, hvb⟩ : ∃ v, v1 = v := ⟨_, rfl⟩
            rw [hvb] at HV5 ⊢
            clear hvb
            refine hK _ _ (HS.out _ HI5.out) (fun hS => ?_)
            clear hK K
            refine norm_ (a' := Act.put _ (some 107) vb2) rfl ?_
            refine norm_ (a' := ?_) ?_ ?_
            rotate_left
            · simp only [Act.put, List.setIfInBounds_toArray, List.set_cons_zero, List.set_cons_succ]; rfl
            clear hS
            refine wpAnyLast_ready (rs := [13]) (by kernel_rfl) (by simp) (AllReadyL.cons rfl (by decide) (fun K hK => ?_) AllReadyL.nil)
            · skip
              refine appF_step (w0 := w0) (base := B0) (c := cq) (some 111) rfl (by rfl) (.tmp 107) (.tmp 110) (by kernel_rfl) (by kernel_rfl) (by kernel_rfl) HV5.out (HRk.out _ HI5.out) HI5.out (below_sz HB0.out HI5.out) (by simp; omega) ?_
              intro v1 w6 ho hb hg hob
              have HI6 := Aside0.mk hb
              have HV6 := Aside0.mk (show FR w6 B0 v1 (P ++ [(⟨s, t, false⟩ : Fl)] ++ Q) from ho)
              have HB6 := Aside0.mk (HB5.out.beside HV5.out (by decide) hg)
              clear ho hb hg hob
              obtain ⟨An, cn, rfl, hlc, hrc⟩ := Kd.R_reads HV6.out
              have HW6 := Aside0.mk (show kF.C w6 An (P ++ [(⟨s, t, false⟩ : Fl)] ++ Q).length (P ++ [(⟨s, t, false⟩ : Fl)] ++ Q) from hrc)
              have HWl := Lib.hid (show (P ++ [(⟨s, t, false⟩ : Fl)] ++ Q).length ≤ cn from hlc)
              clear hlc hrc
              refine hK _ _ (HS.out _ HI6.out) (fun hS => ?_)
              clear hK K
              refine norm_ (a' := Act.put _ (some 111) (.slice An (P ++ [(⟨s, t, false⟩ : Fl)] ++ Q).length cn)) rfl ?_
              refine norm_ (a' := ?_) ?_ ?_
              rotate_left
              · simp only [Act.put, List.setIfInBounds_toArray, List.set_cons_zero, List.set_cons_succ]; rfl
              clear hS
              refine wpAnyLast_ready (rs := [14]) (by kernel_rfl) (by simp) (AllReadyL.cons rfl (by decide) (fun K hK => ?_) AllReadyL.nil)
              · skip
                refine goes_ Tryd.func9 (by kernel_rfl) rfl #[.slice An (P ++ [(⟨s, t, false⟩ : Fl)] ++ Q).length cn] (by rfl) rfl rfl (by kernel_rfl) ?_
                refine (request_calls An cn (P ++ [(⟨s, t, false⟩ : Fl)] ++ Q) _ HW6.out HWl.out HWf.out).mono ?_
                rw [HRq.out]
                rintro e w7 ⟨rfl, hb⟩
                refine ⟨_, rfl, ?_⟩
                have HI7 := Aside0.mk (below_stepB HB0.out HI6.out hb)
                have HB7 := Aside0.mk (HB6.out.below hb)
                refine hK _ _ (HS.out _ HI7.out) (fun hS => ?_)
                clear hK K
                refine norm_ (a' := Act.put _ (some 112) (.tuple #[.agg #[.string m0, .string m1, .string ⟨#[]⟩, .string m2, .bool false, .int .i64 m3], .int .i64 0])) rfl ?_
                refine norm_ (a' := ?_) ?_ ?_
                rotate_left
                · simp only [Act.put, List.setIfInBounds_toArray, List.set_cons_zero, List.set_cons_succ]; rfl
                clear hS
                refine dpure 15 (some 97) rfl rfl (by kernel_rfl) (fun _ _ _ h => h) (by rfl) (v := ?_) (a' := ?_) ?_ ?_ ?_
                rotate_left 2
                · intro w'; go_simp; with_reducible rfl
                · simp only [Act.put, List.setIfInBounds_toArray, List.set_cons_zero, List.set_cons_succ]; rfl
                refine dpure 16 (some 113) rfl rfl (by kernel_rfl) (fun _ _ _ h => h) (by rfl) (v := ?_) (a' := ?_) ?_ ?_ ?_
                rotate_left 2
                · intro w'; go_simp; with_reducible rfl
                · simp only [Act.put, List.setIfInBounds_toArray, List.set_cons_zero, List.set_cons_succ]; rfl
                refine dpure 17 (some 114) rfl rfl (by kernel_rfl) (fun _ _ _ h => h) (by rfl) (v := ?_) (a' := ?_) ?_ ?_ ?_
                rotate_left 2
                · intro w'; go_simp; with_reducible rfl
                · simp only [Act.put, List.setIfInBounds_toArray, List.set_cons_zero, List.set_cons_succ]; rfl
                clear hb
                refine lcast (l' := #[true, true, true, true, true, true, true, true, true, true, true, true, true, true, true, true, true, true, true, false, false]) (by kernel_rfl) ?_
                exact JT (va, vb1, vb2, .slice An (P ++ [(⟨s, t, false⟩ : Fl)] ++ Q).length cn, .slice (some ⟨gl, 0, none⟩) 1 1, qb) w7 ⟨HB7.out, HI7.out, HQ.out⟩
    · skip
      have hb := below_alloc (Below.refl w1.heap.size w1) (.cells #[.string s, .string t, .bool false] 41)
      have HI2 := Aside0.mk (below_stepB HB0.out HI1.out hb)
      have HV2 := Aside0.mk (Kd.R_below HV1.out hb)
      have HU2 := Aside0.mk (show FR (w1.alloc (.cells #[.string s, .string t, .bool false] 41)) B0 (.slice (some ⟨w1.heap.size, 0, none⟩) 1 1) [(⟨s, t, false⟩ : Fl)] from fr_one (base := B0) w1 (below_sz HB0.out HI1.out) _)
      have HA2 := Aside0.mk (apart_lit HV1.out 1 1)
      refine event_step (by kernel_rfl) (v := .slice (some ⟨w1.heap.size, 0, none⟩) 1 1) (w1 := w1.alloc (.cells #[.string s, .string t, .bool false] 41)) (by first | (go_simp; done) | (go_simp; rfl)) ?_
      refine hK _ _ (HS.out _ HI2.out) (fun hS => ?_)
      clear hK K
      refine norm_ (a' := Act.put _ (some 106) (.slice (some ⟨w1.heap.size, 0, none⟩) 1 1)) rfl ?_
      refine norm_ (a' := ?_) ?_ ?_
      rotate_left
      · simp only [Act.put, List.setIfInBounds_toArray, List.set_cons_zero, List.set_cons_succ]; rfl
      clear hS
      clear hb
      generalize w1.alloc (.cells #[.string s, .string t, .bool false] 41) = w2 at *
      generalize w1.heap.size = gl at *
      refine wpAnyLast_ready (rs := [4, 18]) (by kernel_rfl) (by simp) (AllReadyL.cons rfl (by decide) (fun K hK => ?_) (AllReadyL.cons rfl (by decide) (fun K hK => ?_) AllReadyL.nil))
      · skip
        refine appF_step (w0 := w0) (base := B0) (c := cp) (some 102) rfl (by rfl) (.tmp 98) (.tmp 101) (by kernel_rfl) (by kernel_rfl) (by kernel_rfl) HV2.out (HRp.out _ HI2.out) HI2.out (below_sz HB0.out HI2.out) (by simp; omega) ?_
        intro v1 w3 ho hb hg hob
        have HI3 := Aside0.mk hb
        have HV3 := Aside0.mk (show FR w3 B0 v1 P from ho)
        have HU3 := Aside0.mk (fr_side HU2.out HA2.out hg)
        have HA3 := Aside0.mk (HA2.out.grow HU2.out hob)
        clear ho hb hg hob
        obtain ⟨vb1, hvb⟩ : ∃ v, v1 = v := ⟨_, rfl⟩
        rw [hvb] at HV3 ⊢
        rw [hvb] at HA3
        clear hvb
        refine hK _ _ (HS.out _ HI3.out) (fun hS => ?_)
        clear hK K
        refine norm_ (a' := Act.put _ (some 102) vb1) rfl ?_
        refine norm_ (a' := ?_) ?_ ?_
        rotate_left
        · simp only [Act.put, List.setIfInBounds_toArray, List.set_cons_zero, List.set_cons_succ]; rfl
        clear hS
        refine wpAnyLast_ready (rs := [9, 18]) (by kernel_rfl) (by simp) (AllReadyL.cons rfl (by decide) (fun K hK => ?_) (AllReadyL.cons rfl (by decide) (fun K hK => ?_) AllReadyL.nil))
        · skip
          refine appF_step (w0 := w0) (base := B0) (c := 1) (some 107) rfl (by rfl) (.tmp 102) (.tmp 106) (by kernel_rfl) (by kernel_rfl) (by kernel_rfl) HV3.out (Kd.R_reads' HU3.out).2.2 HI3.out (below_sz HB0.out HI3.out) (by simp; omega) ?_
          intro v1 w4 ho hb hg hob
          have HI4 := Aside0.mk hb
          have HV4 := Aside0.mk (show FR w4 B0 v1 (P ++ [(⟨s, t, false⟩ : Fl)]) from ho)
          clear ho hb hg hob
          obtain ⟨vb2, hvb⟩ : ∃ v, v1 = v := ⟨_, rfl⟩
          rw [hvb] at HV4 ⊢
          clear hvb
          refine hK _ _ (HS.out _ HI4.out) (fun hS => ?_)
          clear hK K
          refine norm_ (a' := Act.put _ (some 107) vb2) rfl ?_
          refine norm_ (a' := ?_) ?_ ?_
          rotate_left
          · simp only [Act.put, List.setIfInBounds_toArray, List.set_cons_zero, List.set_cons_succ]; rfl
          clear hS
          refine wpAnyLast_ready (rs := [13, 18]) (by kernel_rfl) (by simp) (AllReadyL.cons rfl (by decide) (fun K hK => ?_) (AllReadyL.cons rfl (by decide) (fun K hK => ?_) AllReadyL.nil))
          · skip
            refine appF_step (w0 := w0) (base := B0) (c := cq) (some 111) rfl (by rfl) (.tmp 107) (.tmp 110) (by kernel_rfl) (by kernel_rfl) (by kernel_rfl) HV4.out (HRk.out _ HI4.out) HI4.out (below_sz HB0.out HI4.out) (by simp; omega) ?_
            intro v1 w5 ho hb hg hob
            have HI5 := Aside0.mk hb
            have HV5 := Aside0.mk (show FR w5 B0 v1 (P ++ [(⟨s, t, false⟩ : Fl)] ++ Q) from ho)
            clear ho hb hg hob
            obtain ⟨An, cn, rfl, hlc, hrc⟩ := Kd.R_reads HV5.out
            have HW5 := Aside0.mk (show kF.C w5 An (P ++ [(⟨s, t, false⟩ : Fl)] ++ Q).length (P ++ [(⟨s, t, false⟩ : Fl)] ++ Q) from hrc)
            have HWl := Lib.hid (show (P ++ [(⟨s, t, false⟩ : Fl)] ++ Q).length ≤ cn from hlc)
            clear hlc hrc
            refine hK _ _ (HS.out _ HI5.out) (fun hS => ?_)
            clear hK K
            refine norm_ (a' := Act.put _ (some 111) (.slice An (P ++ [(⟨s, t, false⟩ : Fl)] ++ Q).length cn)) rfl ?_
            refine norm_ (a' := ?_) ?_ ?_
            rotate_left
            · simp only [Act.put, List.setIfInBounds_toArray, List.set_cons_zero, List.set_cons_succ]; rfl
            clear hS
            refine wpAnyLast_ready (rs := [14, 18]) (by kernel_rfl) (by simp) (AllReadyL.cons rfl (by decide) (fun K hK => ?_) (AllReadyL.cons rfl (by decide) (fun K hK => ?_) AllReadyL.nil))
            · skip
              refine goes_ Tryd.func9 (by kernel_rfl) rfl #[.slice An (P ++ [(⟨s, t, false⟩ : Fl)] ++ Q).length cn] (by rfl) rfl rfl (by kernel_rfl) ?_
              refine (request_calls An cn (P ++ [(⟨s, t, false⟩ : Fl)] ++ Q) _ HW5.out HWl.out HWf.out).mono ?_
              rw [HRq.out]
              rintro e w6 ⟨rfl, hb⟩
              refine ⟨_, rfl, ?_⟩
              have HI6 := Aside0.mk (below_stepB HB0.out HI5.out hb)
              refine hK _ _ (HS.out _ HI6.out) (fun hS => ?_)
              clear hK K
              refine norm_ (a' := Act.put _ (some 112) (.tuple #[.agg #[.string m0, .string m1, .string ⟨#[]⟩, .string m2, .bool false, .int .i64 m3], .int .i64 0])) rfl ?_
              refine norm_ (a' := ?_) ?_ ?_
              rotate_left
              · simp only [Act.put, List.setIfInBounds_toArray, List.set_cons_zero, List.set_cons_succ]; rfl
              clear hS
              refine dpure 15 (some 97) rfl rfl (by kernel_rfl) (fun _ _ _ h => h) (by rfl) (v := ?_) (a' := ?_) ?_ ?_ ?_
              rotate_left 2
              · intro w'; go_simp; with_reducible rfl
              · simp only [Act.put, List.setIfInBounds_toArray, List.set_cons_zero, List.set_cons_succ]; rfl
              refine dpure 16 (some 113) rfl rfl (by kernel_rfl) (fun _ _ _ h => h) (by rfl) (v := ?_) (a' := ?_) ?_ ?_ ?_
              rotate_left 2
              · intro w'; go_simp; with_reducible rfl
              · simp only [Act.put, List.setIfInBounds_toArray, List.set_cons_zero, List.set_cons_succ]; rfl
              refine dpure 17 (some 114) rfl rfl (by kernel_rfl) (fun _ _ _ h => h) (by rfl) (v := ?_) (a' := ?_) ?_ ?_ ?_
              rotate_left 2
              · intro w'; go_simp; with_reducible rfl
              · simp only [Act.put, List.setIfInBounds_toArray, List.set_cons_zero, List.set_cons_succ]; rfl
              clear hb
              refine wpAnyLast_ready (rs := [18]) (by kernel_rfl) (by simp) (AllReadyL.cons rfl (by decide) (fun K hK => ?_) AllReadyL.nil)
              · skip
                have hb := below_alloc (Below.refl w6.heap.size w6) (.cells #[.string ⟨#[]⟩, .string ⟨#[]⟩, .string ⟨#[]⟩, .string ⟨#[]⟩, .bool false, .int .i64 0] 26 (0, 0))
                have HI7 := Aside0.mk (below_stepB HB0.out HI6.out hb)
                have HB7 := Aside0.mk (SAt.new w6 #[.string ⟨#[]⟩, .string ⟨#[]⟩, .string ⟨#[]⟩, .string ⟨#[]⟩, .bool false, .int .i64 0] 26)
                have HQ := Lib.hid ((below_sz HB0.out HI6.out))
                refine event_step (by kernel_rfl) (v := .pointer (some ⟨w6.heap.size, 0, none⟩)) (w1 := w6.alloc (.cells #[.string ⟨#[]⟩, .string ⟨#[]⟩, .string ⟨#[]⟩, .string ⟨#[]⟩, .bool false, .int .i64 0] 26 (0, 0))) (by go_simp; done) ?_
                refine hK _ _ (HS.out _ HI7.out) (fun hS => ?_)
                clear hK K
                refine norm_ (a' := Act.put _ (some 12) (.pointer (some ⟨w6.heap.size, 0, none⟩))) rfl ?_
                refine norm_ (a' := ?_) ?_ ?_
                rotate_left
                · simp only [Act.put, List.setIfInBounds_toArray, List.set_cons_zero, List.set_cons_succ]; rfl
                clear hS
                clear hb
                generalize w6.alloc (.cells #[.string ⟨#[]⟩, .string ⟨#[]⟩, .string ⟨#[]⟩, .string ⟨#[]⟩, .bool false, .int .i64 0] 26 (0, 0)) = w7 at *
                generalize w6.heap.size = qb at *
                refine lcast (l' := #[true, true, true, true, true, true, true, true, true, true, true, true, true, true, true, true, true, true, true, false, false]) (by kernel_rfl) ?_
                exact JT (va, vb1, vb2, .slice An (P ++ [(⟨s, t, false⟩ : Fl)] ++ Q).length cn, .slice (some ⟨gl, 0, none⟩) 1 1, qb) w7 ⟨HB7.out, HI7.out, HQ.out⟩
            · skip
              have hb := below_alloc (Below.refl w5.heap.size w5) (.cells #[.string ⟨#[]⟩, .string ⟨#[]⟩, .string ⟨#[]⟩, .string ⟨#[]⟩, .bool false, .int .i64 0] 26 (0, 0))
              have HI6 := Aside0.mk (below_stepB HB0.out HI5.out hb)
              have HW6 := Aside0.mk (Kd.C_below HW5.out hb)
              have HB6 := Aside0.mk (SAt.new w5 #[.string ⟨#[]⟩, .string ⟨#[]⟩, .string ⟨#[]⟩, .string ⟨#[]⟩, .bool false, .int .i64 0] 26)
              have HQ := Lib.hid ((below_sz HB0.out HI5.out))
              refine event_step (by kernel_rfl) (v := .pointer (some ⟨w5.heap.size, 0, none⟩)) (w1 := w5.alloc (.cells #[.string ⟨#[]⟩, .string ⟨#[]⟩, .string ⟨#[]⟩, .string ⟨#[]⟩, .bool false, .int .i64 0] 26 (0, 0))) (by go_simp; done) ?_
              refine hK _ _ (HS.out _ HI6.out) (fun hS => ?_)
              clear hK K
              refine norm_ (a' := Act.put _ (some 12) (.pointer (some ⟨w5.heap.size, 0, none⟩))) rfl ?_
              refine norm_ (a' := ?_) ?_ ?_
              rotate_left
              · simp only [Act.put, List.setIfInBounds_toArray, List.set_cons_zero, List.set_cons_succ]; rfl
              clear hS
              clear hb
              generalize w5.alloc (.cells #[.string ⟨#[]⟩, .string ⟨#[]⟩, .string ⟨#[]⟩, .string ⟨#[]⟩, .bool false, .int .i64 0] 26 (0, 0)) = w6 at *
              generalize w5.heap.size = qb at *
              refine wpAnyLast_ready (rs := [14]) (by kernel_rfl) (by simp) (AllReadyL.cons rfl (by decide) (fun K hK => ?_) AllReadyL.nil)
              · skip
                refine goes_ Tryd.func9 (by kernel_rfl) rfl #[.slice An (P ++ [(⟨s, t, false⟩ : Fl)] ++ Q).length cn] (by rfl) rfl rfl (by kernel_rfl) ?_
                refine (request_calls An cn (P ++ [(⟨s, t, false⟩ : Fl)] ++ Q) _ HW6.out HWl.out HWf.out).mono ?_
                rw [HRq.out]
                rintro e w7 ⟨rfl, hb⟩
                refine ⟨_, rfl, ?_⟩
                have HI7 := Aside0.mk (below_stepB HB0.out HI6.out hb)
                have HB7 := Aside0.mk (HB6.out.below hb)
                refine hK _ _ (HS.out _ HI7.out) (fun hS => ?_)
                clear hK K
                refine norm_ (a' := Act.put _ (some 112) (.tuple #[.agg #[.string m0, .string m1, .string ⟨#[]⟩, .string m2, .bool false, .int .i64 m3], .int .i64 0])) rfl ?_
                refine norm_ (a' := ?_) ?_ ?_
                rotate_left
                · simp only [Act.put, List.setIfInBounds_toArray, List.set_cons_zero, List.set_cons_succ]; rfl
                clear hS
                refine dpure 15 (some 97) rfl rfl (by kernel_rfl) (fun _ _ _ h => h) (by rfl) (v := ?_) (a' := ?_) ?_ ?_ ?_
                rotate_left 2
                · intro w'; go_simp; with_reducible rfl
                · simp only [Act.put, List.setIfInBounds_toArray, List.set_cons_zero, List.set_cons_succ]; rfl
                refine dpure 16 (some 113) rfl rfl (by kernel_rfl) (fun _ _ _ h => h) (by rfl) (v := ?_) (a' := ?_) ?_ ?_ ?_
                rotate_left 2
                · intro w'; go_simp; with_reducible rfl
                · simp only [Act.put, List.setIfInBounds_toArray, List.set_cons_zero, List.set_cons_succ]; rfl
                refine dpure 17 (some 114) rfl rfl (by kernel_rfl) (fun _ _ _ h => h) (by rfl) (v := ?_) (a' := ?_) ?_ ?_ ?_
                rotate_left 2
                · intro w'; go_simp; with_reducible rfl
                · simp only [Act.put, List.setIfInBounds_toArray, List.set_cons_zero, List.set_cons_succ]; rfl
                clear hb
                refine lcast (l' := #[true, true, true, true, true, true, true, true, true, true, true, true, true, true, true, true, true, true, true, false, false]) (by kernel_rfl) ?_
                exact JT (va, vb1, vb2, .slice An (P ++ [(⟨s, t, false⟩ : Fl)] ++ Q).length cn, .slice (some ⟨gl, 0, none⟩) 1 1, qb) w7 ⟨HB7.out, HI7.out, HQ.out⟩
          · skip
            have hb := below_alloc (Below.refl w4.heap.size w4) (.cells #[.string ⟨#[]⟩, .string ⟨#[]⟩, .string ⟨#[]⟩, .string ⟨#[]⟩, .bool false, .int .i64 0] 26 (0, 0))
            have HI5 := Aside0.mk (below_stepB HB0.out HI4.out hb)
            have HV5 := Aside0.mk (Kd.R_below HV4.out hb)
            have HB5 := Aside0.mk (SAt.new w4 #[.string ⟨#[]⟩, .string ⟨#[]⟩, .string ⟨#[]⟩, .string ⟨#[]⟩, .bool false, .int .i64 0] 26)
            have HQ := Lib.hid ((below_sz HB0.out HI4.out))
            refine event_step (by kernel_rfl) (v := .pointer (some ⟨w4.heap.size, 0, none⟩)) (w1 := w4.alloc (.cells #[.string ⟨#[]⟩, .string ⟨#[]⟩, .string ⟨#[]⟩, .string ⟨#[]⟩, .bool false, .int .i64 0] 26 (0, 0))) (by go_simp; done) ?_
            refine hK _ _ (HS.out _ HI5.out) (fun hS => ?_)
            clear hK K
            refine norm_ (a' := Act.put _ (some 12) (.pointer (some ⟨w4.heap.size, 0, none⟩))) rfl ?_
            refine norm_ (a' := ?_) ?_ ?_
            rotate_left
            · simp only [Act.put, List.setIfInBounds_toArray, List.set_cons_zero, List.set_cons_succ]; rfl
            clear hS
            clear hb
            generalize w4.alloc (.cells #[.string ⟨#[]⟩, .string ⟨#[]⟩, .string ⟨#[]⟩, .string ⟨#[]⟩, .bool false, .int .i64 0] 26 (0, 0)) = w5 at *
            generalize w4.heap.size = qb at *
            refine wpAnyLast_ready (rs := [13]) (by kernel_rfl) (by simp) (AllReadyL.cons rfl (by decide) (fun K hK => ?_) AllReadyL.nil)
            · skip
              refine appF_step (w0 := w0) (base := B0) (c := cq) (some 111) rfl (by rfl) (.tmp 107) (.tmp 110) (by kernel_rfl) (by kernel_rfl) (by kernel_rfl) HV5.out (HRk.out _ HI5.out) HI5.out (below_sz HB0.out HI5.out) (by simp; omega) ?_
              intro v1 w6 ho hb hg hob
              have HI6 := Aside0.mk hb
              have HV6 := Aside0.mk (show FR w6 B0 v1 (P ++ [(⟨s, t, false⟩ : Fl)] ++ Q) from ho)
              have HB6 := Aside0.mk (HB5.out.beside HV5.out (by decide) hg)
              clear ho hb hg hob
              obtain ⟨An, cn, rfl, hlc, hrc⟩ := Kd.R_reads HV6.out
              have HW6 := Aside0.mk (show kF.C w6 An (P ++ [(⟨s, t, false⟩ : Fl)] ++ Q).length (P ++ [(⟨s, t, false⟩ : Fl)] ++ Q) from hrc)
              have HWl := Lib.hid (show (P ++ [(⟨s, t, false⟩ : Fl)] ++ Q).length ≤ cn from hlc)
              clear hlc hrc
              refine hK _ _ (HS.out _ HI6.out) (fun hS => ?_)
              clear hK K
              refine norm_ (a' := Act.put _ (some 111) (.slice An (P ++ [(⟨s, t, false⟩ : Fl)] ++ Q).length cn)) rfl ?_
              refine norm_ (a' := ?_) ?_ ?_
              rotate_left
              · simp only [Act.put, List.setIfInBounds_toArray, List.set_cons_zero, List.set_cons_succ]; rfl
              clear hS
              refine wpAnyLast_ready (rs := [14]) (by kernel_rfl) (by simp) (AllReadyL.cons rfl (by decide) (fun K hK => ?_) AllReadyL.nil)
              · skip
                refine goes_ Tryd.func9 (by kernel_rfl) rfl #[.slice An (P ++ [(⟨s, t, false⟩ : Fl)] ++ Q).length cn] (by rfl) rfl rfl (by kernel_rfl) ?_
                refine (request_calls An cn (P ++ [(⟨s, t, false⟩ : Fl)] ++ Q) _ HW6.out HWl.out HWf.out).mono ?_
                rw [HRq.out]
                rintro e w7 ⟨rfl, hb⟩
                refine ⟨_, rfl, ?_⟩
                have HI7 := Aside0.mk (below_stepB HB0.out HI6.out hb)
                have HB7 := Aside0.mk (HB6.out.below hb)
                refine hK _ _ (HS.out _ HI7.out) (fun hS => ?_)
                clear hK K
                refine norm_ (a' := Act.put _ (some 112) (.tuple #[.agg #[.string m0, .string m1, .string ⟨#[]⟩, .string m2, .bool false, .int .i64 m3], .int .i64 0])) rfl ?_
                refine norm_ (a' := ?_) ?_ ?_
                rotate_left
                · simp only [Act.put, List.setIfInBounds_toArray, List.set_cons_zero, List.set_cons_succ]; rfl
                clear hS
                refine dpure 15 (some 97) rfl rfl (by kernel_rfl) (fun _ _ _ h => h) (by rfl) (v := ?_) (a' := ?_) ?_ ?_ ?_
                rotate_left 2
                · intro w'; go_simp; with_reducible rfl
                · simp only [Act.put, List.setIfInBounds_toArray, List.set_cons_zero, List.set_cons_succ]; rfl
                refine dpure 16 (some 113) rfl rfl (by kernel_rfl) (fun _ _ _ h => h) (by rfl) (v := ?_) (a' := ?_) ?_ ?_ ?_
                rotate_left 2
                · intro w'; go_simp; with_reducible rfl
                · simp only [Act.put, List.setIfInBounds_toArray, List.set_cons_zero, List.set_cons_succ]; rfl
                refine dpure 17 (some 114) rfl rfl (by kernel_rfl) (fun _ _ _ h => h) (by rfl) (v := ?_) (a' := ?_) ?_ ?_ ?_
                rotate_left 2
                · intro w'; go_simp; with_reducible rfl
                · simp only [Act.put, List.setIfInBounds_toArray, List.set_cons_zero, List.set_cons_succ]; rfl
                clear hb
                refine lcast (l' := #[true, true, true, true, true, true, true, true, true, true, true, true, true, true, true, true, true, true, true, false, false]) (by kernel_rfl) ?_
                exact JT (va, vb1, vb2, .slice An (P ++ [(⟨s, t, false⟩ : Fl)] ++ Q).length cn, .slice (some ⟨gl, 0, none⟩) 1 1, qb) w7 ⟨HB7.out, HI7.out, HQ.out⟩
        · skip
          have hb := below_alloc (Below.refl w3.heap.size w3) (.cells #[.string ⟨#[]⟩, .string ⟨#[]⟩, .string ⟨#[]⟩, .string ⟨#[]⟩, .bool false, .int .i64 0] 26 (0, 0))
          have HI4 := Aside0.mk (below_stepB HB0.out HI3.out hb)
          have HV4 := Aside0.mk (Kd.R_below HV3.out hb)
          have HU4 := Aside0.mk (Kd.R_below HU3.out hb)
          have HA4 := HA3
          have HB4 := Aside0.mk (SAt.new w3 #[.string ⟨#[]⟩, .string ⟨#[]⟩, .string ⟨#[]⟩, .string ⟨#[]⟩, .bool false, .int .i64 0] 26)
          have HQ := Lib.hid ((below_sz HB0.out HI3.out))
          refine event_step (by kernel_rfl) (v := .pointer (some ⟨w3.heap.size, 0, none⟩)) (w1 := w3.alloc (.cells #[.string ⟨#[]⟩, .string ⟨#[]⟩, .string ⟨#[]⟩, .string ⟨#[]⟩, .bool false, .int .i64 0] 26 (0, 0))) (by go_simp; done) ?_
          refine hK _ _ (HS.out _ HI4.out) (fun hS => ?_)
          clear hK K
          refine norm_ (a' := Act.put _ (some 12) (.pointer (some ⟨w3.heap.size, 0, none⟩))) rfl ?_
          refine norm_ (a' := ?_) ?_ ?_
          rotate_left
          · simp only [Act.put, List.setIfInBounds_toArray, List.set_cons_zero, List.set_cons_succ]; rfl
          clear hS
          clear hb
          generalize w3.alloc (.cells #[.string ⟨#[]⟩, .string ⟨#[]⟩, .string ⟨#[]⟩, .string ⟨#[]⟩, .bool false, .int .i64 0] 26 (0, 0)) = w4 at *
          generalize w3.heap.size = qb at *
          refine wpAnyLast_ready (rs := [9]) (by kernel_rfl) (by simp) (AllReadyL.cons rfl (by decide) (fun K hK => ?_) AllReadyL.nil)
          · skip
            refine appF_step (w0 := w0) (base := B0) (c := 1) (some 107) rfl (by rfl) (.tmp 102) (.tmp 106) (by kernel_rfl) (by kernel_rfl) (by kernel_rfl) HV4.out (Kd.R_reads' HU4.out).2.2 HI4.out (below_sz HB0.out HI4.out) (by simp; omega) ?_
            intro v1 w5 ho hb hg hob
            have HI5 := Aside0.mk hb
            have HV5 := Aside0.mk (show FR w5 B0 v1 (P ++ [(⟨s, t, false⟩ : Fl)]) from ho)
            have HB5 := Aside0.mk (HB4.out.beside HV4.out (by decide) hg)
            clear ho hb hg hob
            obtain ⟨vb2, hvb⟩ : ∃ v, v1 = v := ⟨_, rfl⟩
            rw [hvb] at HV5 ⊢
            clear hvb
            refine hK _ _ (HS.out _ HI5.out) (fun hS => ?_)
            clear hK K
            refine norm_ (a' := Act.put _ (some 107) vb2) rfl ?_
            refine norm_ (a' := ?_) ?_ ?_
            rotate_left
            · simp only [Act.put, List.setIfInBounds_toArray, List.set_cons_zero, List.set_cons_succ]; rfl
            clear hS
            refine wpAnyLast_ready (rs := [13]) (by kernel_rfl) (by simp) (AllReadyL.cons rfl (by decide) (fun K hK => ?_) AllReadyL.nil)
            · skip
              refine appF_step (w0 := w0) (base := B0) (c := cq) (some 111) rfl (by rfl) (.tmp 107) (.tmp 110) (by kernel_rfl) (by kernel_rfl) (by kernel_rfl) HV5.out (HRk.out _ HI5.out) HI5.out (below_sz HB0.out HI5.out) (by simp; omega) ?_
              intro v1 w6 ho hb hg hob
              have HI6 := Aside0.mk hb
              have HV6 := Aside0.mk (show FR w6 B0 v1 (P ++ [(⟨s, t, false⟩ : Fl)] ++ Q) from ho)
              have HB6 := Aside0.mk (HB5.out.beside HV5.out (by decide) hg)
              clear ho hb hg hob
              obtain ⟨An, cn, rfl, hlc, hrc⟩ := Kd.R_reads HV6.out
              have HW6 := Aside0.mk (show kF.C w6 An (P ++ [(⟨s, t, false⟩ : Fl)] ++ Q).length (P ++ [(⟨s, t, false⟩ : Fl)] ++ Q) from hrc)
              have HWl := Lib.hid (show (P ++ [(⟨s, t, false⟩ : Fl)] ++ Q).length ≤ cn from hlc)
              clear hlc hrc
              refine hK _ _ (HS.out _ HI6.out) (fun hS => ?_)
              clear hK K
              refine norm_ (a' := Act.put _ (some 111) (.slice An (P ++ [(⟨s, t, false⟩ : Fl)] ++ Q).length cn)) rfl ?_
              refine norm_ (a' := ?_) ?_ ?_
              rotate_left
              · simp only [Act.put, List.setIfInBounds_toArray, List.set_cons_zero, List.set_cons_succ]; rfl
              clear hS
              refine wpAnyLast_ready (rs := [14]) (by kernel_rfl) (by simp) (AllReadyL.cons rfl (by decide) (fun K hK => ?_) AllReadyL.nil)
              · skip
                refine goes_ Tryd.func9 (by kernel_rfl) rfl #[.slice An (P ++ [(⟨s, t, false⟩ : Fl)] ++ Q).length cn] (by rfl) rfl rfl (by kernel_rfl) ?_
                refine (request_calls An cn (P ++ [(⟨s, t, false⟩ : Fl)] ++ Q) _ HW6.out HWl.out HWf.out).mono ?_
                rw [HRq.out]
                rintro e w7 ⟨rfl, hb⟩
                refine ⟨_, rfl, ?_⟩
                have HI7 := Aside0.mk (below_stepB HB0.out HI6.out hb)
                have HB7 := Aside0.mk (HB6.out.below hb)
                refine hK _ _ (HS.out _ HI7.out) (fun hS => ?_)
                clear hK K
                refine norm_ (a' := Act.put _ (some 112) (.tuple #[.agg #[.string m0, .string m1, .string ⟨#[]⟩, .string m2, .bool false, .int .i64 m3], .int .i64 0])) rfl ?_
                refine norm_ (a' := ?_) ?_ ?_
                rotate_left
                · simp only [Act.put, List.setIfInBounds_toArray, List.set_cons_zero, List.set_cons_succ]; rfl
                clear hS
                refine dpure 15 (some 97) rfl rfl (by kernel_rfl) (fun _ _ _ h => h) (by rfl) (v := ?_) (a' := ?_) ?_ ?_ ?_
                rotate_left 2
                · intro w'; go_simp; with_reducible rfl
                · simp only [Act.put, List.setIfInBounds_toArray, List.set_cons_zero, List.set_cons_succ]; rfl
                refine dpure 16 (some 113) rfl rfl (by kernel_rfl) (fun _ _ _ h => h) (by rfl) (v := ?_) (a' := ?_) ?_ ?_ ?_
                rotate_left 2
                · intro w'; go_simp; with_reducible rfl
                · simp only [Act.put, List.setIfInBounds_toArray, List.set_cons_zero, List.set_cons_succ]; rfl
                refine dpure 17 (some 114) rfl rfl (by kernel_rfl) (fun _ _ _ h => h) (by rfl) (v := ?_) (a' := ?_) ?_ ?_ ?_
                rotate_left 2
                · intro w'; go_simp; with_reducible rfl
                · simp only [Act.put, List.setIfInBounds_toArray, List.set_cons_zero, List.set_cons_succ]; rfl
                clear hb
                refine lcast (l' := #[true, true, true, true, true, true, true, true, true, true, true, true, true, true, true, true, true, true, true, false, false]) (by kernel_rfl) ?_
                exact JT (va, vb1, vb2, .slice An (P ++ [(⟨s, t, false⟩ : Fl)] ++ Q).length cn, .slice (some ⟨gl, 0, none⟩) 1 1, qb) w7 ⟨HB7.out, HI7.out, HQ.out⟩
      · skip
        have hb := below_alloc (Below.refl w2.heap.size w2) (.cells #[.string ⟨#[]⟩, .string ⟨#[]⟩, .string ⟨#[]⟩, .string ⟨#[]⟩, .bool false, .int .i64 0] 26 (0, 0))
        have HI3 := Aside0.mk (below_stepB HB0.out HI2.out hb)
        have HV3 := Aside0.mk (Kd.R_below HV2.out hb)
        have HU3 := Aside0.mk (Kd.R_below HU2.out hb)
        have HA3 := HA2
        have HB3 := Aside0.mk (SAt.new w2 #[.string ⟨#[]⟩, .string ⟨#[]⟩, .string ⟨#[]⟩, .string ⟨#[]⟩, .bool false, .int .i64 0] 26)
        have HQ := Lib.hid ((below_sz HB0.out HI2.out))
        refine event_step (by kernel_rfl) (v := .pointer (some ⟨w2.heap.size, 0, none⟩)) (w1 := w2.alloc (.cells #[.string ⟨#[]⟩, .string ⟨#[]⟩, .string ⟨#[]⟩, .string ⟨#[]⟩, .bool false, .int .i64 0] 26 (0, 0))) (by go_simp; done) ?_
        refine hK _ _ (HS.out _ HI3.out) (fun hS => ?_)
        clear hK K
        refine norm_ (a' := Act.put _ (some 12) (.pointer (some ⟨w2.heap.size, 0, none⟩))) rfl ?_
        refine norm_ (a' := ?_) ?_ ?_
        rotate_left
        · simp only [Act.put, List.setIfInBounds_toArray, List.set_cons_zero, List.set_cons_succ]; rfl
        clear hS
        clear hb
        generalize w2.alloc (.cells #[.string ⟨#[]⟩, .string ⟨#[]⟩, .string ⟨#[]⟩, .string ⟨#[]⟩, .bool false, .int .i64 0] 26 (0, 0)) = w3 at *
        generalize w2.heap.size = qb at *
        refine wpAnyLast_ready (rs := [4]) (by kernel_rfl) (by simp) (AllReadyL.cons rfl (by decide) (fun K hK => ?_) AllReadyL.nil)
        · skip
          refine appF_step (w0 := w0) (base := B0) (c := cp) (some 102) rfl (by rfl) (.tmp 98) (.tmp 101) (by kernel_rfl) (by kernel_rfl) (by kernel_rfl) HV3.out (HRp.out _ HI3.out) HI3.out (below_sz HB0.out HI3.out) (by simp; omega) ?_
          intro v1 w4 ho hb hg hob
          have HI4 := Aside0.mk hb
          have HV4 := Aside0.mk (show FR w4 B0 v1 P from ho)
          have HU4 := Aside0.mk (fr_side HU3.out HA3.out hg)
          have HA4 := Aside0.mk (HA3.out.grow HU3.out hob)
          have HB4 := Aside0.mk (HB3.out.beside HV3.out (by decide) hg)
          clear ho hb hg hob
          obtain ⟨vb1, hvb⟩ : ∃ v, v1 = v := ⟨_, rfl⟩
          rw [hvb] at HV4 ⊢
          rw [hvb] at HA4
          clear hvb
          refine hK _ _ (HS.out _ HI4.out) (fun hS => ?_)
          clear hK K
          refine norm_ (a' := Act.put _ (some 102) vb1) rfl ?_
          refine norm_ (a' := ?_) ?_ ?_
          rotate_left
          · simp only [Act.put, List.setIfInBounds_toArray, List.set_cons_zero, List.set_cons_succ]; rfl
          clear hS
          refine wpAnyLast_ready (rs := [9]) (by kernel_rfl) (by simp) (AllReadyL.cons rfl (by decide) (fun K hK => ?_) AllReadyL.nil)
          · skip
            refine appF_step (w0 := w0) (base := B0) (c := 1) (some 107) rfl (by rfl) (.tmp 102) (.tmp 106) (by kernel_rfl) (by kernel_rfl) (by kernel_rfl) HV4.out (Kd.R_reads' HU4.out).2.2 HI4.out (below_sz HB0.out HI4.out) (by simp; omega) ?_
            intro v1 w5 ho hb hg hob
            have HI5 := Aside0.mk hb
            have HV5 := Aside0.mk (show FR w5 B0 v1 (P ++ [(⟨s, t, false⟩ : Fl)]) from ho)
            have HB5 := Aside0.mk (HB4.out.beside HV4.out (by decide) hg)
            clear ho hb hg hob
            obtain ⟨vb2, hvb⟩ : ∃ v, v1 = v := ⟨_, rfl⟩
            rw [hvb] at HV5 ⊢
            clear hvb
            refine hK _ _ (HS.out _ HI5.out) (fun hS => ?_)
            clear hK K
            refine norm_ (a' := Act.put _ (some 107) vb2) rfl ?_
            refine norm_ (a' := ?_) ?_ ?_
            rotate_left
            · simp only [Act.put, List.setIfInBounds_toArray, List.set_cons_zero, List.set_cons_succ]; rfl
            clear hS
            refine wpAnyLast_ready (rs := [13]) (by kernel_rfl) (by simp) (AllReadyL.cons rfl (by decide) (fun K hK => ?_) AllReadyL.nil)
            · skip
              refine appF_step (w0 := w0) (base := B0) (c := cq) (some 111) rfl (by rfl) (.tmp 107) (.tmp 110) (by kernel_rfl) (by kernel_rfl) (by kernel_rfl) HV5.out (HRk.out _ HI5.out) HI5.out (below_sz HB0.out HI5.out) (by simp; omega) ?_
              intro v1 w6 ho hb hg hob
              have HI6 := Aside0.mk hb
              have HV6 := Aside0.mk (show FR w6 B0 v1 (P ++ [(⟨s, t, false⟩ : Fl)] ++ Q) from ho)
              have HB6 := Aside0.mk (HB5.out.beside HV5.out (by decide) hg)
              clear ho hb hg hob
              obtain ⟨An, cn, rfl, hlc, hrc⟩ := Kd.R_reads HV6.out
              have HW6 := Aside0.mk (show kF.C w6 An (P ++ [(⟨s, t, false⟩ : Fl)] ++ Q).length (P ++ [(⟨s, t, false⟩ : Fl)] ++ Q) from hrc)
              have HWl := Lib.hid (show (P ++ [(⟨s, t, false⟩ : Fl)] ++ Q).length ≤ cn from hlc)
              clear hlc hrc
              refine hK _ _ (HS.out _ HI6.out) (fun hS => ?_)
              clear hK K
              refine norm_ (a' := Act.put _ (some 111) (.slice An (P ++ [(⟨s, t, false⟩ : Fl)] ++ Q).length cn)) rfl ?_
              refine norm_ (a' := ?_) ?_ ?_
              rotate_left
              · simp only [Act.put, List.setIfInBounds_toArray, List.set_cons_zero, List.set_cons_succ]; rfl
              clear hS
              refine wpAnyLast_ready (rs := [14]) (by kernel_rfl) (by simp) (AllReadyL.cons rfl (by decide) (fun K hK => ?_) AllReadyL.nil)
              · skip
                refine goes_ Tryd.func9 (by kernel_rfl) rfl #[.slice An (P ++ [(⟨s, t, false⟩ : Fl)] ++ Q).length cn] (by rfl) rfl rfl (by kernel_rfl) ?_
                refine (request_calls An cn (P ++ [(⟨s, t, false⟩ : Fl)] ++ Q) _ HW6.out HWl.out HWf.out).mono ?_
                rw [HRq.out]
                rintro e w7 ⟨rfl, hb⟩
                refine ⟨_, rfl, ?_⟩
                have HI7 := Aside0.mk (below_stepB HB0.out HI6.out hb)
                have HB7 := Aside0.mk (HB6.out.below hb)
                refine hK _ _ (HS.out _ HI7.out) (fun hS => ?_)
                clear hK K
                refine norm_ (a' := Act.put _ (some 112) (.tuple #[.agg #[.string m0, .string m1, .string ⟨#[]⟩, .string m2, .bool false, .int .i64 m3], .int .i64 0])) rfl ?_
                refine norm_ (a' := ?_) ?_ ?_
                rotate_left
                · simp only [Act.put, List.setIfInBounds_toArray, List.set_cons_zero, List.set_cons_succ]; rfl
                clear hS
                refine dpure 15 (some 97) rfl rfl (by kernel_rfl) (fun _ _ _ h => h) (by rfl) (v := ?_) (a' := ?_) ?_ ?_ ?_
                rotate_left 2
                · intro w'; go_simp; with_reducible rfl
                · simp only [Act.put, List.setIfInBounds_toArray, List.set_cons_zero, List.set_cons_succ]; rfl
                refine dpure 16 (some 113) rfl rfl (by kernel_rfl) (fun _ _ _ h => h) (by rfl) (v := ?_) (a' := ?_) ?_ ?_ ?_
                rotate_left 2
                · intro w'; go_simp; with_reducible rfl
                · simp only [Act.put, List.setIfInBounds_toArray, List.set_cons_zero, List.set_cons_succ]; rfl
                refine dpure 17 (some 114) rfl rfl (by kernel_rfl) (fun _ _ _ h => h) (by rfl) (v := ?_) (a' := ?_) ?_ ?_ ?_
                rotate_left 2
                · intro w'; go_simp; with_reducible rfl
                · simp only [Act.put, List.setIfInBounds_toArray, List.set_cons_zero, List.set_cons_succ]; rfl
                clear hb
                refine lcast (l' := #[true, true, true, true, true, true, true, true, true, true, true, true, true, true, true, true, true, true, true, false, false]) (by kernel_rfl) ?_
                exact JT (va, vb1, vb2, .slice An (P ++ [(⟨s, t, false⟩ : Fl)] ++ Q).length cn, .slice (some ⟨gl, 0, none⟩) 1 1, qb) w7 ⟨HB7.out, HI7.out, HQ.out⟩
    · skip
      have hb := below_alloc (Below.refl w1.heap.size w1) (.cells #[.string ⟨#[]⟩, .string ⟨#[]⟩, .string ⟨#[]⟩, .string ⟨#[]⟩, .bool false, .int .i64 0] 26 (0, 0))
      have HI2 := Aside0.mk (below_stepB HB0.out HI1.out hb)
      have HV2 := Aside0.mk (Kd.R_below HV1.out hb)
      have HB2 := Aside0.mk (SAt.new w1 #[.string ⟨#[]⟩, .string ⟨#[]⟩, .string ⟨#[]⟩, .string ⟨#[]⟩, .bool false, .int .i64 0] 26)
      have HQ := Lib.hid ((below_sz HB0.out HI1.out))
      refine event_step (by kernel_rfl) (v := .pointer (some ⟨w1.heap.size, 0, none⟩)) (w1 := w1.alloc (.cells #[.string ⟨#[]⟩, .string ⟨#[]⟩, .string ⟨#[]⟩, .string ⟨#[]⟩, .bool false, .int .i64 0] 26 (0, 0))) (by go_simp; done) ?_
      refine hK _ _ (HS.out _ HI2.out) (fun hS => ?_)
      clear hK K
      refine norm_ (a' := Act.put _ (some 12) (.pointer (some ⟨w1.heap.size, 0, none⟩))) rfl ?_
      refine norm_ (a' := ?_) ?_ ?_
      rotate_left
      · simp only [Act.put, List.setIfInBounds_toArray, List.set_cons_zero, List.set_cons_succ]; rfl
      clear hS
      clear hb
      generalize w1.alloc (.cells #[.string ⟨#[]⟩, .string ⟨#[]⟩, .string ⟨#[]⟩, .string ⟨#[]⟩, .bool false, .int .i64 0] 26 (0, 0)) = w2 at *
      generalize w1.heap.size = qb at *
      refine wpAnyLast_ready (rs := [4, 8]) (by kernel_rfl) (by simp) (AllReadyL.cons rfl (by decide) (fun K hK => ?_) (AllReadyL.cons rfl (by decide) (fun K hK => ?_) AllReadyL.nil))
      · skip
        refine appF_step (w0 := w0) (base := B0) (c := cp) (some 102) rfl (by rfl) (.tmp 98) (.tmp 101) (by kernel_rfl) (by kernel_rfl) (by kernel_rfl) HV2.out (HRp.out _ HI2.out) HI2.out (below_sz HB0.out HI2.out) (by simp; omega) ?_
        intro v1 w3 ho hb hg hob
        have HI3 := Aside0.mk hb
        have HV3 := Aside0.mk (show FR w3 B0 v1 P from ho)
        have HB3 := Aside0.mk (HB2.out.beside HV2.out (by decide) hg)
        clear ho hb hg hob
        obtain ⟨vb1, hvb⟩ : ∃ v, v1 = v := ⟨_, rfl⟩
        rw [hvb] at HV3 ⊢
        clear hvb
        refine hK _ _ (HS.out _ HI3.out) (fun hS => ?_)
        clear hK K
        refine norm_ (a' := Act.put _ (some 102) vb1) rfl ?_
        refine norm_ (a' := ?_) ?_ ?_
        rotate_left
        · simp only [Act.put, List.setIfInBounds_toArray, List.set_cons_zero, List.set_cons_succ]; rfl
        clear hS
        refine wpAnyLast_ready (rs := [8]) (by kernel_rfl) (by simp) (AllReadyL.cons rfl (by decide) (fun K hK => ?_) AllReadyL.nil)
        · skip
          have hb := below_alloc (Below.refl w3.heap.size w3) (.cells #[.string s, .string t, .bool false] 41)
          have HI4 := Aside0.mk (below_stepB HB0.out HI3.out hb)
          have HV4 := Aside0.mk (Kd.R_below HV3.out hb)
          have HB4 := Aside0.mk (HB3.out.below hb)
          have HU4 := Aside0.mk (show FR (w3.alloc (.cells #[.string s, .string t, .bool false] 41)) B0 (.slice (some ⟨w3.heap.size, 0, none⟩) 1 1) [(⟨s, t, false⟩ : Fl)] from fr_one (base := B0) w3 (below_sz HB0.out HI3.out) _)
          have HA4 := Aside0.mk (apart_lit HV3.out 1 1)
          refine event_step (by kernel_rfl) (v := .slice (some ⟨w3.heap.size, 0, none⟩) 1 1) (w1 := w3.alloc (.cells #[.string s, .string t, .bool false] 41)) (by first | (go_simp; done) | (go_simp; rfl)) ?_
          refine hK _ _ (HS.out _ HI4.out) (fun hS => ?_)
          clear hK K
          refine norm_ (a' := Act.put _ (some 106) (.slice (some ⟨w3.heap.size, 0, none⟩) 1 1)) rfl ?_
          refine norm_ (a' := ?_) ?_ ?_
          rotate_left
          · simp only [Act.put, List.setIfInBounds_toArray, List.set_cons_zero, List.set_cons_succ]; rfl
          clear hS
          clear hb
          generalize w3.alloc (.cells #[.string s, .string t, .bool false] 41) = w4 at *
          generalize w3.heap.size = gl at *
          refine wpAnyLast_ready (rs := [9]) (by kernel_rfl) (by simp) (AllReadyL.cons rfl (by decide) (fun K hK => ?_) AllReadyL.nil)
          · skip
            refine appF_step (w0 := w0) (base := B0) (c := 1) (some 107) rfl (by rfl) (.tmp 102) (.tmp 106) (by kernel_rfl) (by kernel_rfl) (by kernel_rfl) HV4.out (Kd.R_reads' HU4.out).2.2 HI4.out (below_sz HB0.out HI4.out) (by simp; omega) ?_
            intro v1 w5 ho hb hg hob
            have HI5 := Aside0.mk hb
            have HV5 := Aside0.mk (show FR w5 B0 v1 (P ++ [(⟨s, t, false⟩ : Fl)]) from ho)
            have HB5 := Aside0.mk (HB4.out.beside HV4.out (by decide) hg)
            clear ho hb hg hob
            obtain ⟨vb2, hvb⟩ : ∃ v, v1 = v := ⟨_, rfl⟩
            rw [hvb] at HV5 ⊢
            clear hvb
            refine hK _ _ (HS.out _ HI5.out) (fun hS => ?_)
            clear hK K
            refine norm_ (a' := Act.put _ (some 107) vb2) rfl ?_
            refine norm_ (a' := ?_) ?_ ?_
            rotate_left
            · simp only [Act.put, List.setIfInBounds_toArray, List.set_cons_zero, List.set_cons_succ]; rfl
            clear hS
            refine wpAnyLast_ready (rs := [13]) (by kernel_rfl) (by simp) (AllReadyL.cons rfl (by decide) (fun K hK => ?_) AllReadyL.nil)
            · skip
              refine appF_step (w0 := w0) (base := B0) (c := cq) (some 111) rfl (by rfl) (.tmp 107) (.tmp 110) (by kernel_rfl) (by kernel_rfl) (by kernel_rfl) HV5.out (HRk.out _ HI5.out) HI5.out (below_sz HB0.out HI5.out) (by simp; omega) ?_
              intro v1 w6 ho hb hg hob
              have HI6 := Aside0.mk hb
              have HV6 := Aside0.mk (show FR w6 B0 v1 (P ++ [(⟨s, t, false⟩ : Fl)] ++ Q) from ho)
              have HB6 := Aside0.mk (HB5.out.beside HV5.out (by decide) hg)
              clear ho hb hg hob
              obtain ⟨An, cn, rfl, hlc, hrc⟩ := Kd.R_reads HV6.out
              have HW6 := Aside0.mk (show kF.C w6 An (P ++ [(⟨s, t, false⟩ : Fl)] ++ Q).length (P ++ [(⟨s, t, false⟩ : Fl)] ++ Q) from hrc)
              have HWl := Lib.hid (show (P ++ [(⟨s, t, false⟩ : Fl)] ++ Q).length ≤ cn from hlc)
              clear hlc hrc
              refine hK _ _ (HS.out _ HI6.out) (fun hS => ?_)
              clear hK K
              refine norm_ (a' := Act.put _ (some 111) (.slice An (P ++ [(⟨s, t, false⟩ : Fl)] ++ Q).length cn)) rfl ?_
              refine norm_ (a' := ?_) ?_ ?_
              rotate_left
              · simp only [Act.put, List.setIfInBounds_toArray, List.set_cons_zero, List.set_cons_succ]; rfl
              clear hS
              refine wpAnyLast_ready (rs := [14]) (by kernel_rfl) (by simp) (AllReadyL.cons rfl (by decide) (fun K hK => ?_) AllReadyL.nil)
              · skip
                refine goes_ Tryd.func9 (by kernel_rfl) rfl #[.slice An (P ++ [(⟨s, t, false⟩ : Fl)] ++ Q).length cn] (by rfl) rfl rfl (by kernel_rfl) ?_
                refine (request_calls An cn (P ++ [(⟨s, t, false⟩ : Fl)] ++ Q) _ HW6.out HWl.out HWf.out).mono ?_
                rw [HRq.out]
                rintro e w7 ⟨rfl, hb⟩
                refine ⟨_, rfl, ?_⟩
                have HI7 := Aside0.mk (below_stepB HB0.out HI6.out hb)
                have HB7 := Aside0.mk (HB6.out.below hb)
                refine hK _ _ (HS.out _ HI7.out) (fun hS => ?_)
                clear hK K
                refine norm_ (a' := Act.put _ (some 112) (.tuple #[.agg #[.string m0, .string m1, .string ⟨#[]⟩, .string m2, .bool false, .int .i64 m3], .int .i64 0])) rfl ?_
                refine norm_ (a' := ?_) ?_ ?_
                rotate_left
                · simp only [Act.put, List.setIfInBounds_toArray, List.set_cons_zero, List.set_cons_succ]; rfl
                clear hS
                refine dpure 15 (some 97) rfl rfl (by kernel_rfl) (fun _ _ _ h => h) (by rfl) (v := ?_) (a' := ?_) ?_ ?_ ?_
                rotate_left 2
                · intro w'; go_simp; with_reducible rfl
                · simp only [Act.put, List.setIfInBounds_toArray, List.set_cons_zero, List.set_cons_succ]; rfl
                refine dpure 16 (some 113) rfl rfl (by kernel_rfl) (fun _ _ _ h => h) (by rfl) (v := ?_) (a' := ?_) ?_ ?_ ?_
                rotate_left 2
                · intro w'; go_simp; with_reducible rfl
                · simp only [Act.put, List.setIfInBounds_toArray, List.set_cons_zero, List.set_cons_succ]; rfl
                refine dpure 17 (some 114) rfl rfl (by kernel_rfl) (fun _ _ _ h => h) (by rfl) (v := ?_) (a' := ?_) ?_ ?_ ?_
                rotate_left 2
                · intro w'; go_simp; with_reducible rfl
                · simp only [Act.put, List.setIfInBounds_toArray, List.set_cons_zero, List.set_cons_succ]; rfl
                clear hb
                refine lcast (l' := #[true, true, true, true, true, true, true, true, true, true, true, true, true, true, true, true, true, true, true, false, false]) (by kernel_rfl) ?_
                exact JT (va, vb1, vb2, .slice An (P ++ [(⟨s, t, false⟩ : Fl)] ++ Q).length cn, .slice (some ⟨gl, 0, none⟩) 1 1, qb) w7 ⟨HB7.out, HI7.out, HQ.out⟩
      · skip
        have hb := below_alloc (Below.refl w2.heap.size w2) (.cells #[.string s, .string t, .bool false] 41)
        have HI3 := Aside0.mk (below_stepB HB0.out HI2.out hb)
        have HV3 := Aside0.mk (Kd.R_below HV2.out hb)
        have HB3 := Aside0.mk (HB2.out.below hb)
        have HU3 := Aside0.mk (show FR (w2.alloc (.cells #[.string s, .string t, .bool false] 41)) B0 (.slice (some ⟨w2.heap.size, 0, none⟩) 1 1) [(⟨s, t, false⟩ : Fl)] from fr_one (base := B0) w2 (below_sz HB0.out HI2.out) _)
        have HA3 := Aside0.mk (apart_lit HV2.out 1 1)
        refine event_step (by kernel_rfl) (v := .slice (some ⟨w2.heap.size, 0, none⟩) 1 1) (w1 := w2.alloc (.cells #[.string s, .string t, .bool false] 41)) (by first | (go_simp; done) | (go_simp; rfl)) ?_
        refine hK _ _ (HS.out _ HI3.out) (fun hS => ?_)
        clear hK K
        refine norm_ (a' := Act.put _ (some 106) (.slice (some ⟨w2.heap.size, 0, none⟩) 1 1)) rfl ?_
        refine norm_ (a' := ?_) ?_ ?_
        rotate_left
        · simp only [Act.put, List.setIfInBounds_toArray, List.set_cons_zero, List.set_cons_succ]; rfl
        clear hS
        clear hb
        generalize w2.alloc (.cells #[.string s, .string t, .bool false] 41) = w3 at *
        generalize w2.heap.size = gl at *
        refine wpAnyLast_ready (rs := [4]) (by kernel_rfl) (by simp) (AllReadyL.cons rfl (by decide) (fun K hK => ?_) AllReadyL.nil)
        · skip
          refine appF_step (w0 := w0) (base := B0) (c := cp) (some 102) rfl (by rfl) (.tmp 98) (.tmp 101) (by kernel_rfl) (by kernel_rfl) (by kernel_rfl) HV3.out (HRp.out _ HI3.out) HI3.out (below_sz HB0.out HI3.out) (by simp; omega) ?_
          intro v1 w4 ho hb hg hob
          have HI4 := Aside0.mk hb
          have HV4 := Aside0.mk (show FR w4 B0 v1 P from ho)
          have HU4 := Aside0.mk (fr_side HU3.out HA3.out hg)
          have HA4 := Aside0.mk (HA3.out.grow HU3.out hob)
          have HB4 := Aside0.mk (HB3.out.beside HV3.out (by decide) hg)
          clear ho hb hg hob
          obtain ⟨vb1, hvb⟩ : ∃ v, v1 = v := ⟨_, rfl⟩
          rw [hvb] at HV4 ⊢
          rw [hvb] at HA4
          clear hvb
          refine hK _ _ (HS.out _ HI4.out) (fun hS => ?_)
          clear hK K
          refine norm_ (a' := Act.put _ (some 102) vb1) rfl ?_
          refine norm_ (a' := ?_) ?_ ?_
          rotate_left
          · simp only [Act.put, List.setIfInBounds_toArray, List.set_cons_zero, List.set_cons_succ]; rfl
          clear hS
          refine wpAnyLast_ready (rs := [9]) (by kernel_rfl) (by simp) (AllReadyL.cons rfl (by decide) (fun K hK => ?_) AllReadyL.nil)
          · skip
            refine appF_step (w0 := w0) (base := B0) (c := 1) (some 107) rfl (by rfl) (.tmp 102) (.tmp 106) (by kernel_rfl) (by kernel_rfl) (by kernel_rfl) HV4.out (Kd.R_reads' HU4.out).2.2 HI4.out (below_sz HB0.out HI4.out) (by simp; omega) ?_
            intro v1 w5 ho hb hg hob
            have HI5 := Aside0.mk hb
            have HV5 := Aside0.mk (show FR w5 B0 v1 (P ++ [(⟨s, t, false⟩ : Fl)]) from ho)
            have HB5 := Aside0.mk (HB4.out.beside HV4.out (by decide) hg)
            clear ho hb hg hob
            obtain ⟨vb2, hvb⟩ : ∃ v, v1 = v := ⟨_, rfl⟩
            rw [hvb] at HV5 ⊢
            clear hvb
            refine hK _ _ (HS.out _ HI5.out) (fun hS => ?_)
            clear hK K
            refine norm_ (a' := Act.put _ (some 107) vb2) rfl ?_
            refine norm_ (a' := ?_) ?_ ?_
            rotate_left
            · simp only [Act.put, List.setIfInBounds_toArray, List.set_cons_zero, List.set_cons_succ]; rfl
            clear hS
            refine wpAnyLast_ready (rs := [13]) (by kernel_rfl) (by simp) (AllReadyL.cons rfl (by decide) (fun K hK => ?_) AllReadyL.nil)
            · skip
              refine appF_step (w0 := w0) (base := B0) (c := cq) (some 111) rfl (by rfl) (.tmp 107) (.tmp 110) (by kernel_rfl) (by kernel_rfl) (by kernel_rfl) HV5.out (HRk.out _ HI5.out) HI5.out (below_sz HB0.out HI5.out) (by simp; omega) ?_
              intro v1 w6 ho hb hg hob
              have HI6 := Aside0.mk hb
              have HV6 := Aside0.mk (show FR w6 B0 v1 (P ++ [(⟨s, t, false⟩ : Fl)] ++ Q) from ho)
              have HB6 := Aside0.mk (HB5.out.beside HV5.out (by decide) hg)
              clear ho hb hg hob
              obtain ⟨An, cn, rfl, hlc, hrc⟩ := Kd.R_reads HV6.out
              have HW6 := Aside0.mk (show kF.C w6 An (P ++ [(⟨s, t, false⟩ : Fl)] ++ Q).length (P ++ [(⟨s, t, false⟩ : Fl)] ++ Q) from hrc)
              have HWl := Lib.hid (show (P ++ [(⟨s, t, false⟩ : Fl)] ++ Q).length ≤ cn from hlc)
              clear hlc hrc
              refine hK _ _ (HS.out _ HI6.out) (fun hS => ?_)
              clear hK K
              refine norm_ (a' := Act.put _ (some 111) (.slice An (P ++ [(⟨s, t, false⟩ : Fl)] ++ Q).length cn)) rfl ?_
              refine norm_ (a' := ?_) ?_ ?_
              rotate_left
              · simp only [Act.put, List.setIfInBounds_toArray, List.set_cons_zero, List.set_cons_succ]; rfl
              clear hS
              refine wpAnyLast_ready (rs := [14]) (by kernel_rfl) (by simp) (AllReadyL.cons rfl (by decide) (fun K hK => ?_) AllReadyL.nil)
              · skip
                refine goes_ Tryd.func9 (by kernel_rfl) rfl #[.slice An (P ++ [(⟨s, t, false⟩ : Fl)] ++ Q).length cn] (by rfl) rfl rfl (by kernel_rfl) ?_
                refine (request_calls An cn (P ++ [(⟨s, t, false⟩ : Fl)] ++ Q) _ HW6.out HWl.out HWf.out).mono ?_
                rw [HRq.out]
                rintro e w7 ⟨rfl, hb⟩
                refine ⟨_, rfl, ?_⟩
                have HI7 := Aside0.mk (below_stepB HB0.out HI6.out hb)
                have HB7 := Aside0.mk (HB6.out.below hb)
                refine hK _ _ (HS.out _ HI7.out) (fun hS => ?_)
                clear hK K
                refine norm_ (a' := Act.put _ (some 112) (.tuple #[.agg #[.string m0, .string m1, .string ⟨#[]⟩, .string m2, .bool false, .int .i64 m3], .int .i64 0])) rfl ?_
                refine norm_ (a' := ?_) ?_ ?_
                rotate_left
                · simp only [Act.put, List.setIfInBounds_toArray, List.set_cons_zero, List.set_cons_succ]; rfl
                clear hS
                refine dpure 15 (some 97) rfl rfl (by kernel_rfl) (fun _ _ _ h => h) (by rfl) (v := ?_) (a' := ?_) ?_ ?_ ?_
                rotate_left 2
                · intro w'; go_simp; with_reducible rfl
                · simp only [Act.put, List.setIfInBounds_toArray, List.set_cons_zero, List.set_cons_succ]; rfl
                refine dpure 16 (some 113) rfl rfl (by kernel_rfl) (fun _ _ _ h => h) (by rfl) (v := ?_) (a' := ?_) ?_ ?_ ?_
                rotate_left 2
                · intro w'; go_simp; with_reducible rfl
                · simp only [Act.put, List.setIfInBounds_toArray, List.set_cons_zero, List.set_cons_succ]; rfl
                refine dpure 17 (some 114) rfl rfl (by kernel_rfl) (fun _ _ _ h => h) (by rfl) (v := ?_) (a' := ?_) ?_ ?_ ?_
                rotate_left 2
                · intro w'; go_simp; with_reducible rfl
                · simp only [Act.put, List.setIfInBounds_toArray, List.set_cons_zero, List.set_cons_succ]; rfl
                clear hb
                refine lcast (l' := #[true, true, true, true, true, true, true, true, true, true, true, true, true, true, true, true, true, true, true, false, false]) (by kernel_rfl) ?_
                exact JT (va, vb1, vb2, .slice An (P ++ [(⟨s, t, false⟩ : Fl)] ++ Q).length cn, .slice (some ⟨gl, 0, none⟩) 1 1, qb) w7 ⟨HB7.out, HI7.out, HQ.out⟩
  · skip
    have hb := below_alloc (Below.refl w0.heap.size w0) (.cells #[.string s, .string t, .bool false] 41)
    have HI1 := Aside0.mk (below_stepB HB0.out HI0.out hb)
    have HU1 := Aside0.mk (show FR (w0.alloc (.cells #[.string s, .string t, .bool false] 41)) B0 (.slice (some ⟨w0.heap.size, 0, none⟩) 1 1) [(⟨s, t, false⟩ : Fl)] from fr_one (base := B0) w0 (below_sz HB0.out HI0.out) _)
    refine event_step (by kernel_rfl) (v := .slice (some ⟨w0.heap.size, 0, none⟩) 1 1) (w1 := w0.alloc (.cells #[.string s, .string t, .bool false] 41)) (by first | (go_simp; done) | (go_simp; rfl)) ?_
    refine hK _ _ (HS.out _ HI1.out) (fun hS => ?_)
    clear hK K
    refine norm_ (a' := Act.put _ (some 106) (.slice (some ⟨w0.heap.size, 0, none⟩) 1 1)) rfl ?_
    refine norm_ (a' := ?_) ?_ ?_
    rotate_left
    · simp only [Act.put, List.setIfInBounds_toArray, List.set_cons_zero, List.set_cons_succ]; rfl
    clear hS
    clear hb
    generalize w0.alloc (.cells #[.string s, .string t, .bool false] 41) = w1 at *
    generalize w0.heap.size = gl at *
    refine wpAnyLast_ready (rs := [0, 18]) (by kernel_rfl) (by simp) (AllReadyL.cons rfl (by decide) (fun K hK => ?_) (AllReadyL.cons rfl (by decide) (fun K hK => ?_) AllReadyL.nil))
    · skip
      have hb := below_alloc (Below.refl w1.heap.size w1) (.cells #[] 41)
      have HI2 := Aside0.mk (below_stepB HB0.out HI1.out hb)
      have HU2 := Aside0.mk (Kd.R_below HU1.out hb)
      have HV2 := Aside0.mk (fr_nil (base := B0) w1 (below_sz HB0.out HI1.out))
      have HA2 := Aside0.mk (apart_nil HU1.out 0 0)
      refine event_step (by kernel_rfl) (v := .slice (some ⟨w1.heap.size, 0, none⟩) 0 0) (w1 := w1.alloc (.cells #[] 41)) (by go_simp; done) ?_
      refine hK _ _ (HS.out _ HI2.out) (fun hS => ?_)
      clear hK K
      refine norm_ (a' := Act.put _ (some 98) (.slice (some ⟨w1.heap.size, 0, none⟩) 0 0)) rfl ?_
      refine norm_ (a' := ?_) ?_ ?_
      rotate_left
      · simp only [Act.put, List.setIfInBounds_toArray, List.set_cons_zero, List.set_cons_succ]; rfl
      clear hS
      clear hb
      generalize w1.alloc (.cells #[] 41) = w2 at *
      generalize Value.slice (some ⟨w1.heap.size, 0, none⟩) 0 0 = va at *
      refine wpAnyLast_ready (rs := [4, 18]) (by kernel_rfl) (by simp) (AllReadyL.cons rfl (by decide) (fun K hK => ?_) (AllReadyL.cons rfl (by decide) (fun K hK => ?_) AllReadyL.nil))
      · skip
        refine appF_step (w0 := w0) (base := B0) (c := cp) (some 102) rfl (by rfl) (.tmp 98) (.tmp 101) (by kernel_rfl) (by kernel_rfl) (by kernel_rfl) HV2.out (HRp.out _ HI2.out) HI2.out (below_sz HB0.out HI2.out) (by simp; omega) ?_
        intro v1 w3 ho hb hg hob
        have HI3 := Aside0.mk hb
        have HV3 := Aside0.mk (show FR w3 B0 v1 P from ho)
        have HU3 := Aside0.mk (fr_side HU2.out HA2.out hg)
        have HA3 := Aside0.mk (HA2.out.grow HU2.out hob)
        clear ho hb hg hob
        obtain ⟨vb1, hvb⟩ : ∃ v, v1 = v := ⟨_, rfl⟩
        rw [hvb] at HV3 ⊢
        rw [hvb] at HA3
        clear hvb
        refine hK _ _ (HS.out _ HI3.out) (fun hS => ?_)
        clear hK K
        refine norm_ (a' := Act.put _ (some 102) vb1) rfl ?_
        refine norm_ (a' := ?_) ?_ ?_
        rotate_left
        · simp only [Act.put, List.setIfInBounds_toArray, List.set_cons_zero, List.set_cons_succ]; rfl
        clear hS
        refine wpAnyLast_ready (rs := [9, 18]) (by kernel_rfl) (by simp) (AllReadyL.cons rfl (by decide) (fun K hK => ?_) (AllReadyL.cons rfl (by decide) (fun K hK => ?_) AllReadyL.nil))
        · skip
          refine appF_step (w0 := w0) (base := B0) (c := 1) (some 107) rfl (by rfl) (.tmp 102) (.tmp 106) (by kernel_rfl) (by kernel_rfl) (by kernel_rfl) HV3.out (Kd.R_reads' HU3.out).2.2 HI3.out (below_sz HB0.out HI3.out) (by simp; omega) ?_
          intro v1 w4 ho hb hg hob
          have HI4 := Aside0.mk hb
          have HV4 := Aside0.mk (show FR w4 B0 v1 (P ++ [(⟨s, t, false⟩ : Fl)]) from ho)
          clear ho hb hg hob
          obtain ⟨vb2, hvb⟩ : ∃ v, v1 = v := ⟨_, rfl⟩
          rw [hvb] at HV4 ⊢
          clear hvb
          refine hK _ _ (HS.out _ HI4.out) (fun hS => ?_)
          clear hK K
          refine norm_ (a' := Act.put _ (some 107) vb2) rfl ?_
          refine norm_ (a' := ?_) ?_ ?_
          rotate_left
          · simp only [Act.put, List.setIfInBounds_toArray, List.set_cons_zero, List.set_cons_succ]; rfl
          clear hS
          refine wpAnyLast_ready (rs := [13, 18]) (by kernel_rfl) (by simp) (AllReadyL.cons rfl (by decide) (fun K hK => ?_) (AllReadyL.cons rfl (by decide) (fun K hK => ?_) AllReadyL.nil))
          · skip
            refine appF_step (w0 := w0) (base := B0) (c := cq) (some 111) rfl (by rfl) (.tmp 107) (.tmp 110) (by kernel_rfl) (by kernel_rfl) (by kernel_rfl) HV4.out (HRk.out _ HI4.out) HI4.out (below_sz HB0.out HI4.out) (by simp; omega) ?_
            intro v1 w5 ho hb hg hob
            have HI5 := Aside0.mk hb
            have HV5 := Aside0.mk (show FR w5 B0 v1 (P ++ [(⟨s, t, false⟩ : Fl)] ++ Q) from ho)
            clear ho hb hg hob
            obtain ⟨An, cn, rfl, hlc, hrc⟩ := Kd.R_reads HV5.out
            have HW5 := Aside0.mk (show kF.C w5 An (P ++ [(⟨s, t, false⟩ : Fl)] ++ Q).length (P ++ [(⟨s, t, false⟩ : Fl)] ++ Q) from hrc)
            have HWl := Lib.hid (show (P ++ [(⟨s, t, false⟩ : Fl)] ++ Q).length ≤ cn from hlc)
            clear hlc hrc
            refine hK _ _ (HS.out _ HI5.out) (fun hS => ?_)
            clear hK K
            refine norm_ (a' := Act.put _ (some 111) (.slice An (P ++ [(⟨s, t, false⟩ : Fl)] ++ Q).length cn)) rfl ?_
            refine norm_ (a' := ?_) ?_ ?_
            rotate_left
            · simp only [Act.put, List.setIfInBounds_toArray, List.set_cons_zero, List.set_cons_succ]; rfl
            clear hS
            refine wpAnyLast_ready (rs := [14, 18]) (by kernel_rfl) (by simp) (AllReadyL.cons rfl (by decide) (fun K hK => ?_) (AllReadyL.cons rfl (by decide) (fun K hK => ?_) AllReadyL.nil))
            · skip
              refine goes_ Tryd.func9 (by kernel_rfl) rfl #[.slice An (P ++ [(⟨s, t, false⟩ : Fl)] ++ Q).length cn] (by rfl) rfl rfl (by kernel_rfl) ?_
              refine (request_calls An cn (P ++ [(⟨s, t, false⟩ : Fl)] ++ Q) _ HW5.out HWl.out HWf.out).mono ?_
              rw [HRq.out]
              rintro e w6 ⟨rfl, hb⟩
              refine ⟨_, rfl, ?_⟩
              have HI6 := Aside0.mk (below_stepB HB0.out HI5.out hb)
              refine hK _ _ (HS.out _ HI6.out) (fun hS => ?_)
              clear hK K
              refine norm_ (a' := Act.put _ (some 112) (.tuple #[.agg #[.string m0, .string m1, .string ⟨#[]⟩, .string m2, .bool false, .int .i64 m3], .int .i64 0])) rfl ?_
              refine norm_ (a' := ?_) ?_ ?_
              rotate_left
              · simp only [Act.put, List.setIfInBounds_toArray, List.set_cons_zero, List.set_cons_succ]; rfl
              clear hS
              refine dpure 15 (some 97) rfl rfl (by kernel_rfl) (fun _ _ _ h => h) (by rfl) (v := ?_) (a' := ?_) ?_ ?_ ?_
              rotate_left 2
              · intro w'; go_simp; with_reducible rfl
              · simp only [Act.put, List.setIfInBounds_toArray, List.set_cons_zero, List.set_cons_succ]; rfl
              refine dpure 16 (some 113) rfl rfl (by kernel_rfl) (fun _ _ _ h => h) (by rfl) (v := ?_) (a' := ?_) ?_ ?_ ?_
              rotate_left 2
              · intro w'; go_simp; with_reducible rfl
              · simp only [Act.put, List.setIfInBounds_toArray, List.set_cons_zero, List.set_cons_succ]; rfl
              refine dpure 17 (some 114) rfl rfl (by kernel_rfl) (fun _ _ _ h => h) (by rfl) (v := ?_) (a' := ?_) ?_ ?_ ?_
              rotate_left 2
              · intro w'; go_simp; with_reducible rfl
              · simp only [Act.put, List.setIfInBounds_toArray, List.set_cons_zero, List.set_cons_succ]; rfl
              clear hb
              refine wpAnyLast_ready (rs := [18]) (by kernel_rfl) (by simp) (AllReadyL.cons rfl (by decide) (fun K hK => ?_) AllReadyL.nil)
              · skip
                have hb := below_alloc (Below.refl w6.heap.size w6) (.cells #[.string ⟨#[]⟩, .string ⟨#[]⟩, .string ⟨#[]⟩, .string ⟨#[]⟩, .bool false, .int .i64 0] 26 (0, 0))
                have HI7 := Aside0.mk (below_stepB HB0.out HI6.out hb)
                have HB7 := Aside0.mk (SAt.new w6 #[.string ⟨#[]⟩, .string ⟨#[]⟩, .string ⟨#[]⟩, .string ⟨#[]⟩, .bool false, .int .i64 0] 26)
                have HQ := Lib.hid ((below_sz HB0.out HI6.out))
                refine event_step (by kernel_rfl) (v := .pointer (some ⟨w6.heap.size, 0, none⟩)) (w1 := w6.alloc (.cells #[.string ⟨#[]⟩, .string ⟨#[]⟩, .string ⟨#[]⟩, .string ⟨#[]⟩, .bool false, .int .i64 0] 26 (0, 0))) (by go_simp; done) ?_
                refine hK _ _ (HS.out _ HI7.out) (fun hS => ?_)
                clear hK K
                refine norm_ (a' := Act.put _ (some 12) (.pointer (some ⟨w6.heap.size, 0, none⟩))) rfl ?_
                refine norm_ (a' := ?_) ?_ ?_
                rotate_left
                · simp only [Act.put, List.setIfInBounds_toArray, List.set_cons_zero, List.set_cons_succ]; rfl
                clear hS
                clear hb
                generalize w6.alloc (.cells #[.string ⟨#[]⟩, .string ⟨#[]⟩, .string ⟨#[]⟩, .string ⟨#[]⟩, .bool false, .int .i64 0] 26 (0, 0)) = w7 at *
                generalize w6.heap.size = qb at *
                refine lcast (l' := #[true, true, true, true, true, true, true, true, true, true, true, true, true, true, true, true, true, true, true, false, false]) (by kernel_rfl) ?_
                exact JT (va, vb1, vb2, .slice An (P ++ [(⟨s, t, false⟩ : Fl)] ++ Q).length cn, .slice (some ⟨gl, 0, none⟩) 1 1, qb) w7 ⟨HB7.out, HI7.out, HQ.out⟩
            · skip
              have hb := below_alloc (Below.refl w5.heap.size w5) (.cells #[.string ⟨#[]⟩, .string ⟨#[]⟩, .string ⟨#[]⟩, .string ⟨#[]⟩, .bool false, .int .i64 0] 26 (0, 0))
              have HI6 := Aside0.mk (below_stepB HB0.out HI5.out hb)
              have HW6 := Aside0.mk (Kd.C_below HW5.out hb)
              have HB6 := Aside0.mk (SAt.new w5 #[.string ⟨#[]⟩, .string ⟨#[]⟩, .string ⟨#[]⟩, .string ⟨#[]⟩, .bool false, .int .i64 0] 26)
              have HQ := Lib.hid ((below_sz HB0.out HI5.out))
              refine event_step (by kernel_rfl) (v := .pointer (some ⟨w5.heap.size, 0, none⟩)) (w1 := w5.alloc (.cells #[.string ⟨#[]⟩, .string ⟨#[]⟩, .string ⟨#[]⟩, .string ⟨#[]⟩, .bool false, .int .i64 0] 26 (0, 0))) (by go_simp; done) ?_
              refine hK _ _ (HS.out _ HI6.out) (fun hS => ?_)
              clear hK K
              refine norm_ (a' := Act.put _ (some 12) (.pointer (some ⟨w5.heap.size, 0, none⟩))) rfl ?_
              refine norm_ (a' := ?_) ?_ ?_
              rotate_left
              · simp only [Act.put, List.setIfInBounds_toArray, List.set_cons_zero, List.set_cons_succ]; rfl
              clear hS
              clear hb
              generalize w5.alloc (.cells #[.string ⟨#[]⟩, .string ⟨#[]⟩, .string ⟨#[]⟩, .string ⟨#[]⟩, .bool false, .int .i64 0] 26 (0, 0)) = w6 at *
              generalize w5.heap.size = qb at *
              refine wpAnyLast_ready (rs := [14]) (by kernel_rfl) (by simp) (AllReadyL.cons rfl (by decide) (fun K hK => ?_) AllReadyL.nil)
              · skip
                refine goes_ Tryd.func9 (by kernel_rfl) rfl #[.slice An (P ++ [(⟨s, t, false⟩ : Fl)] ++ Q).length cn] (by rfl) rfl rfl (by kernel_rfl) ?_
                refine (request_calls An cn (P ++ [(⟨s, t, false⟩ : Fl)] ++ Q) _ HW6.out HWl.out HWf.out).mono ?_
                rw [HRq.out]
                rintro e w7 ⟨rfl, hb⟩
                refine ⟨_, rfl, ?_⟩
                have HI7 := Aside0.mk (below_stepB HB0.out HI6.out hb)
                have HB7 := Aside0.mk (HB6.out.below hb)
                refine hK _ _ (HS.out _ HI7.out) (fun hS => ?_)
                clear hK K
                refine norm_ (a' := Act.put _ (some 112) (.tuple #[.agg #[.string m0, .string m1, .string ⟨#[]⟩, .string m2, .bool false, .int .i64 m3], .int .i64 0])) rfl ?_
                refine norm_ (a' := ?_) ?_ ?_
                rotate_left
                · simp only [Act.put, List.setIfInBounds_toArray, List.set_cons_zero, List.set_cons_succ]; rfl
                clear hS
                refine dpure 15 (some 97) rfl rfl (by kernel_rfl) (fun _ _ _ h => h) (by rfl) (v := ?_) (a' := ?_) ?_ ?_ ?_
                rotate_left 2
                · intro w'; go_simp; with_reducible rfl
                · simp only [Act.put, List.setIfInBounds_toArray, List.set_cons_zero, List.set_cons_succ]; rfl
                refine dpure 16 (some 113) rfl rfl (by kernel_rfl) (fun _ _ _ h => h) (by rfl) (v := ?_) (a' := ?_) ?_ ?_ ?_
                rotate_left 2
                · intro w'; go_simp; with_reducible rfl
                · simp only [Act.put, List.setIfInBounds_toArray, List.set_cons_zero, List.set_cons_succ]; rfl
                refine dpure 17 (some 114) rfl rfl (by kernel_rfl) (fun _ _ _ h => h) (by rfl) (v := ?_) (a' := ?_) ?_ ?_ ?_
                rotate_left 2
                · intro w'; go_simp; with_reducible rfl
                · simp only [Act.put, List.setIfInBounds_toArray, List.set_cons_zero, List.set_cons_succ]; rfl
                clear hb
                refine lcast (l' := #[true, true, true, true, true, true, true, true, true, true, true, true, true, true, true, true, true, true, true, false, false]) (by kernel_rfl) ?_
                exact JT (va, vb1, vb2, .slice An (P ++ [(⟨s, t, false⟩ : Fl)] ++ Q).length cn, .slice (some ⟨gl, 0, none⟩) 1 1, qb) w7 ⟨HB7.out, HI7.out, HQ.out⟩
          · skip
            have hb := below_alloc (Below.refl w4.heap.size w4) (.cells #[.string ⟨#[]⟩, .string ⟨#[]⟩, .string ⟨#[]⟩, .string ⟨#[]⟩, .bool false, .int .i64 0] 26 (0, 0))
            have HI5 := Aside0.mk (below_stepB HB0.out HI4.out hb)
            have HV5 := Aside0.mk (Kd.R_below HV4.out hb)
            have HB5 := Aside0.mk (SAt.new w4 #[.string ⟨#[]⟩, .string ⟨#[]⟩, .string ⟨#[]⟩, .string ⟨#[]⟩, .bool false, .int .i64 0] 26)
            have HQ := Lib.hid ((below_sz HB0.out HI4.out))
            refine event_step (by kernel_rfl) (v := .pointer (some ⟨w4.heap.size, 0, none⟩)) (w1 := w4.alloc (.cells #[.string ⟨#[]⟩, .string ⟨#[]⟩, .string ⟨#[]⟩, .string ⟨#[]⟩, .bool false, .int .i64 0] 26 (0, 0))) (by go_simp; done) ?_
            refine hK _ _ (HS.out _ HI5.out) (fun hS => ?_)
            clear hK K
            refine norm_ (a' := Act.put _ (some 12) (.pointer (some ⟨w4.heap.size, 0, none⟩))) rfl ?_
            refine norm_ (a' := ?_) ?_ ?_
            rotate_left
            · simp only [Act.put, List.setIfInBounds_toArray, List.set_cons_zero, List.set_cons_succ]; rfl
            clear hS
            clear hb
            generalize w4.alloc (.cells #[.string ⟨#[]⟩, .string ⟨#[]⟩, .string ⟨#[]⟩, .string ⟨#[]⟩, .bool false, .int .i64 0] 26 (0, 0)) = w5 at *
            generalize w4.heap.size = qb at *
            refine wpAnyLast_ready (rs := [13]) (by kernel_rfl) (by simp) (AllReadyL.cons rfl (by decide) (fun K hK => ?_) AllReadyL.nil)
            · skip
              refine appF_step (w0 := w0) (base := B0) (c := cq) (some 111) rfl (by rfl) (.tmp 107) (.tmp 110) (by kernel_rfl) (by kernel_rfl) (by kernel_rfl) HV5.out (HRk.out _ HI5.out) HI5.out (below_sz HB0.out HI5.out) (by simp; omega) ?_
              intro v1 w6 ho hb hg hob
              have HI6 := Aside0.mk hb
              have HV6 := Aside0.mk (show FR w6 B0 v1 (P ++ [(⟨s, t, false⟩ : Fl)] ++ Q) from ho)
              have HB6 := Aside0.mk (HB5.out.beside HV5.out (by decide) hg)
              clear ho hb hg hob
              obtain ⟨An, cn, rfl, hlc, hrc⟩ := Kd.R_reads HV6.out
              have HW6 := Aside0.mk (show kF.C w6 An (P ++ [(⟨s, t, false⟩ : Fl)] ++ Q).length (P ++ [(⟨s, t, false⟩ : Fl)] ++ Q) from hrc)
              have HWl := Lib.hid (show (P ++ [(⟨s, t, false⟩ : Fl)] ++ Q).length ≤ cn from hlc)
              clear hlc hrc
              refine hK _ _ (HS.out _ HI6.out) (fun hS => ?_)
              clear hK K
              refine norm_ (a' := Act.put _ (some 111) (.slice An (P ++ [(⟨s, t, false⟩ : Fl)] ++ Q).length cn)) rfl ?_
              refine norm_ (a' := ?_) ?_ ?_
              rotate_left
              · simp only [Act.put, List.setIfInBounds_toArray, List.set_cons_zero, List.set_cons_succ]; rfl
              clear hS
              refine wpAnyLast_ready (rs := [14]) (by kernel_rfl) (by simp) (AllReadyL.cons rfl (by decide) (fun K hK => ?_) AllReadyL.nil)
              · skip
                refine goes_ Tryd.func9 (by kernel_rfl) rfl #[.slice An (P ++ [(⟨s, t, false⟩ : Fl)] ++ Q).length cn] (by rfl) rfl rfl (by kernel_rfl) ?_
                refine (request_calls An cn (P ++ [(⟨s, t, false⟩ : Fl)] ++ Q) _ HW6.out HWl.out HWf.out).mono ?_
                rw [HRq.out]
                rintro e w7 ⟨rfl, hb⟩
                refine ⟨_, rfl, ?_⟩
                have HI7 := Aside0.mk (below_stepB HB0.out HI6.out hb)
                have HB7 := Aside0.mk (HB6.out.below hb)
                refine hK _ _ (HS.out _ HI7.out) (fun hS => ?_)
                clear hK K
                refine norm_ (a' := Act.put _ (some 112) (.tuple #[.agg #[.string m0, .string m1, .string ⟨#[]⟩, .string m2, .bool false, .int .i64 m3], .int .i64 0])) rfl ?_
                refine norm_ (a' := ?_) ?_ ?_
                rotate_left
                · simp only [Act.put, List.setIfInBounds_toArray, List.set_cons_zero, List.set_cons_succ]; rfl
                clear hS
                refine dpure 15 (some 97) rfl rfl (by kernel_rfl) (fun _ _ _ h => h) (by rfl) (v := ?_) (a' := ?_) ?_ ?_ ?_
                rotate_left 2
                · intro w'; go_simp; with_reducible rfl
                · simp only [Act.put, List.setIfInBounds_toArray, List.set_cons_zero, List.set_cons_succ]; rfl
                refine dpure 16 (some 113) rfl rfl (by kernel_rfl) (fun _ _ _ h => h) (by rfl) (v := ?_) (a' := ?_) ?_ ?_ ?_
                rotate_left 2
                · intro w'; go_simp; with_reducible rfl
                · simp only [Act.put, List.setIfInBounds_toArray, List.set_cons_zero, List.set_cons_succ]; rfl
                refine dpure 17 (some 114) rfl rfl (by kernel_rfl) (fun _ _ _ h => h) (by rfl) (v := ?_) (a' := ?_) ?_ ?_ ?_
                rotate_left 2
                · intro w'; go_simp; with_reducible rfl
                · simp only [Act.put, List.setIfInBounds_toArray, List.set_cons_zero, List.set_cons_succ]; rfl
                clear hb
                refine lcast (l' := #[true, true, true, true, true, true, true, true, true, true, true, true, true, true, true, true, true, true, true, false, false]) (by kernel_rfl) ?_
                exact JT (va, vb1, vb2, .slice An (P ++ [(⟨s, t, false⟩ : Fl)] ++ Q).length cn, .slice (some ⟨gl, 0, none⟩) 1 1, qb) w7 ⟨HB7.out, HI7.out, HQ.out⟩
        · skip
          have hb := below_alloc (Below.refl w3.heap.size w3) (.cells #[.string ⟨#[]⟩, .string ⟨#[]⟩, .string ⟨#[]⟩, .string ⟨#[]⟩, .bool false, .int .i64 0] 26 (0, 0))
          have HI4 := Aside0.mk (below_stepB HB0.out HI3.out hb)
          have HV4 := Aside0.mk (Kd.R_below HV3.out hb)
          have HU4 := Aside0.mk (Kd.R_below HU3.out hb)
          have HA4 := HA3
          have HB4 := Aside0.mk (SAt.new w3 #[.string ⟨#[]⟩, .string ⟨#[]⟩, .string ⟨#[]⟩, .string ⟨#[]⟩, .bool false, .int .i64 0] 26)
          have HQ := Lib.hid ((below_sz HB0.out HI3.out))
          refine event_step (by kernel_rfl) (v := .pointer (some ⟨w3.heap.size, 0, none⟩)) (w1 := w3.alloc (.cells #[.string ⟨#[]⟩, .string ⟨#[]⟩, .string ⟨#[]⟩, .string ⟨#[]⟩, .bool false, .int .i64 0] 26 (0, 0))) (by go_simp; done) ?_
          refine hK _ _ (HS.out _ HI4.out) (fun hS => ?_)
          clear hK K
          refine norm_ (a' := Act.put _ (some 12) (.pointer (some ⟨w3.heap.size, 0, none⟩))) rfl ?_
          refine norm_ (a' := ?_) ?_ ?_
          rotate_left
          · simp only [Act.put, List.setIfInBounds_toArray, List.set_cons_zero, List.set_cons_succ]; rfl
          clear hS
          clear hb
          generalize w3.alloc (.cells #[.string ⟨#[]⟩, .string ⟨#[]⟩, .string ⟨#[]⟩, .string ⟨#[]⟩, .bool false, .int .i64 0] 26 (0, 0)) = w4 at *
          generalize w3.heap.size = qb at *
          refine wpAnyLast_ready (rs := [9]) (by kernel_rfl) (by simp) (AllReadyL.cons rfl (by decide) (fun K hK => ?_) AllReadyL.nil)
          · skip
            refine appF_step (w0 := w0) (base := B0) (c := 1) (some 107) rfl (by rfl) (.tmp 102) (.tmp 106) (by kernel_rfl) (by kernel_rfl) (by kernel_rfl) HV4.out (Kd.R_reads' HU4.out).2.2 HI4.out (below_sz HB0.out HI4.out) (by simp; omega) ?_
            intro v1 w5 ho hb hg hob
            have HI5 := Aside0.mk hb
            have HV5 := Aside0.mk (show FR w5 B0 v1 (P ++ [(⟨s, t, false⟩ : Fl)]) from ho)
            have HB5 := Aside0.mk (HB4.out.beside HV4.out (by decide) hg)
            clear ho hb hg hob
            obtain ⟨vb2, hvb⟩ : ∃ v, v1 = v := ⟨_, rfl⟩
            rw [hvb] at HV5 ⊢
            clear hvb
            refine hK _ _ (HS.out _ HI5.out) (fun hS => ?_)
            clear hK K
            refine norm_ (a' := Act.put _ (some 107) vb2) rfl ?_
            refine norm_ (a' := ?_) ?_ ?_
            rotate_left
            · simp only [Act.put, List.setIfInBounds_toArray, List.set_cons_zero, List.set_cons_succ]; rfl
            clear hS
            refine wpAnyLast_ready (rs := [13]) (by kernel_rfl) (by simp) (AllReadyL.cons rfl (by decide) (fun K hK => ?_) AllReadyL.nil)
            · skip
              refine appF_step (w0 := w0) (base := B0) (c := cq) (some 111) rfl (by rfl) (.tmp 107) (.tmp 110) (by kernel_rfl) (by kernel_rfl) (by kernel_rfl) HV5.out (HRk.out _ HI5.out) HI5.out (below_sz HB0.out HI5.out) (by simp; omega) ?_
              intro v1 w6 ho hb hg hob
              have HI6 := Aside0.mk hb
              have HV6 := Aside0.mk (show FR w6 B0 v1 (P ++ [(⟨s, t, false⟩ : Fl)] ++ Q) from ho)
              have HB6 := Aside0.mk (HB5.out.beside HV5.out (by decide) hg)
              clear ho hb hg hob
              obtain ⟨An, cn, rfl, hlc, hrc⟩ := Kd.R_reads HV6.out
              have HW6 := Aside0.mk (show kF.C w6 An (P ++ [(⟨s, t, false⟩ : Fl)] ++ Q).length (P ++ [(⟨s, t, false⟩ : Fl)] ++ Q) from hrc)
              have HWl := Lib.hid (show (P ++ [(⟨s, t, false⟩ : Fl)] ++ Q).length ≤ cn from hlc)
              clear hlc hrc
              refine hK _ _ (HS.out _ HI6.out) (fun hS => ?_)
              clear hK K
              refine norm_ (a' := Act.put _ (some 111) (.slice An (P ++ [(⟨s, t, false⟩ : Fl)] ++ Q).length cn)) rfl ?_
              refine norm_ (a' := ?_) ?_ ?_
              rotate_left
              · simp only [Act.put, List.setIfInBounds_toArray, List.set_cons_zero, List.set_cons_succ]; rfl
              clear hS
              refine wpAnyLast_ready (rs := [14]) (by kernel_rfl) (by simp) (AllReadyL.cons rfl (by decide) (fun K hK => ?_) AllReadyL.nil)
              · skip
                refine goes_ Tryd.func9 (by kernel_rfl) rfl #[.slice An (P ++ [(⟨s, t, false⟩ : Fl)] ++ Q).length cn] (by rfl) rfl rfl (by kernel_rfl) ?_
                refine (request_calls An cn (P ++ [(⟨s, t, false⟩ : Fl)] ++ Q) _ HW6.out HWl.out HWf.out).mono ?_
                rw [HRq.out]
                rintro e w7 ⟨rfl, hb⟩
                refine ⟨_, rfl, ?_⟩
                have HI7 := Aside0.mk (below_stepB HB0.out HI6.out hb)
                have HB7 := Aside0.mk (HB6.out.below hb)
                refine hK _ _ (HS.out _ HI7.out) (fun hS => ?_)
                clear hK K
                refine norm_ (a' := Act.put _ (some 112) (.tuple #[.agg #[.string m0, .string m1, .string ⟨#[]⟩, .string m2, .bool false, .int .i64 m3], .int .i64 0])) rfl ?_
                refine norm_ (a' := ?_) ?_ ?_
                rotate_left
                · simp only [Act.put, List.setIfInBounds_toArray, List.set_cons_zero, List.set_cons_succ]; rfl
                clear hS
                refine dpure 15 (some 97) rfl rfl (by kernel_rfl) (fun _ _ _ h => h) (by rfl) (v := ?_) (a' := ?_) ?_ ?_ ?_
                rotate_left 2
                · intro w'; go_simp; with_reducible rfl
                · simp only [Act.put, List.setIfInBounds_toArray, List.set_cons_zero, List.set_cons_succ]; rfl
                refine dpure 16 (some 113) rfl rfl (by kernel_rfl) (fun _ _ _ h => h) (by rfl) (v := ?_) (a' := ?_) ?_ ?_ ?_
                rotate_left 2
                · intro w'; go_simp; with_reducible rfl
                · simp only [Act.put, List.setIfInBounds_toArray, List.set_cons_zero, List.set_cons_succ]; rfl
                refine dpure 17 (some 114) rfl rfl (by kernel_rfl) (fun _ _ _ h => h) (by rfl) (v := ?_) (a' := ?_) ?_ ?_ ?_
                rotate_left 2
                · intro w'; go_simp; with_reducible rfl
                · simp only [Act.put, List.setIfInBounds_toArray, List.set_cons_zero, List.set_cons_succ]; rfl
                clear hb
                refine lcast (l' := #[true, true, true, true, true, true, true, true, true, true, true, true, true, true, true, true, true, true, true, false, false]) (by kernel_rfl) ?_
                exact JT (va, vb1, vb2, .slice An (P ++ [(⟨s, t, false⟩ : Fl)] ++ Q).length cn, .slice (some ⟨gl, 0, none⟩) 1 1, qb) w7 ⟨HB7.out, HI7.out, HQ.out⟩
      · skip
        have hb := below_alloc (Below.refl w2.heap.size w2) (.cells #[.string ⟨#[]⟩, .string ⟨#[]⟩, .string ⟨#[]⟩, .string ⟨#[]⟩, .bool false, .int .i64 0] 26 (0, 0))
        have HI3 := Aside0.mk (below_stepB HB0.out HI2.out hb)
        have HV3 := Aside0.mk (Kd.R_below HV2.out hb)
        have HU3 := Aside0.mk (Kd.R_below HU2.out hb)
        have HA3 := HA2
        have HB3 := Aside0.mk (SAt.new w2 #[.string ⟨#[]⟩, .string ⟨#[]⟩, .string ⟨#[]⟩, .string ⟨#[]⟩, .bool false, .int .i64 0] 26)
        have HQ := Lib.hid ((below_sz HB0.out HI2.out))
        refine event_step (by kernel_rfl) (v := .pointer (some ⟨w2.heap.size, 0, none⟩)) (w1 := w2.alloc (.cells #[.string ⟨#[]⟩, .string ⟨#[]⟩, .string ⟨#[]⟩, .string ⟨#[]⟩, .bool false, .int .i64 0] 26 (0, 0))) (by go_simp; done) ?_
        refine hK _ _ (HS.out _ HI3.out) (fun hS => ?_)
        clear hK K
        refine norm_ (a' := Act.put _ (some 12) (.pointer (some ⟨w2.heap.size, 0, none⟩))) rfl ?_
        refine norm_ (a' := ?_) ?_ ?_
        rotate_left
        · simp only [Act.put, List.setIfInBounds_toArray, List.set_cons_zero, List.set_cons_succ]; rfl
        clear hS
        clear hb
        generalize w2.alloc (.cells #[.string ⟨#[]⟩, .string ⟨#[]⟩, .string ⟨#[]⟩, .string ⟨#[]⟩, .bool false, .int .i64 0] 26 (0, 0)) = w3 at *
        generalize w2.heap.size = qb at *
        refine wpAnyLast_ready (rs := [4]) (by kernel_rfl) (by simp) (AllReadyL.cons rfl (by decide) (fun K hK => ?_) AllReadyL.nil)
        · skip
          refine appF_step (w0 := w0) (base := B0) (c := cp) (some 102) rfl (by rfl) (.tmp 98) (.tmp 101) (by kernel_rfl) (by kernel_rfl) (by kernel_rfl) HV3.out (HRp.out _ HI3.out) HI3.out (below_sz HB0.out HI3.out) (by simp; omega) ?_
          intro v1 w4 ho hb hg hob
          have HI4 := Aside0.mk hb
          have HV4 := Aside0.mk (show FR w4 B0 v1 P from ho)
          have HU4 := Aside0.mk (fr_side HU3.out HA3.out hg)
          have HA4 := Aside0.mk (HA3.out.grow HU3.out hob)
          have HB4 := Aside0.mk (HB3.out.beside HV3.out (by decide) hg)
          clear ho hb hg hob
          obtain ⟨vb1, hvb⟩ : ∃ v, v1 = v := ⟨_, rfl⟩
          rw [hvb] at HV4 ⊢
          rw [hvb] at HA4
          clear hvb
          refine hK _ _ (HS.out _ HI4.out) (fun hS => ?_)
          clear hK K
          refine norm_ (a' := Act.put _ (some 102) vb1) rfl ?_
          refine norm_ (a' := ?_) ?_ ?_
          rotate_left
          · simp only [Act.put, List.setIfInBounds_toArray, List.set_cons_zero, List.set_cons_succ]; rfl
          clear hS
          refine wpAnyLast_ready (rs := [9]) (by kernel_rfl) (by simp) (AllReadyL.cons rfl (by decide) (fun K hK => ?_) AllReadyL.nil)
          · skip
            refine appF_step (w0 := w0) (base := B0) (c := 1) (some 107) rfl (by rfl) (.tmp 102) (.tmp 106) (by kernel_rfl) (by kernel_rfl) (by kernel_rfl) HV4.out (Kd.R_reads' HU4.out).2.2 HI4.out (below_sz HB0.out HI4.out) (by simp; omega) ?_
            intro v1 w5 ho hb hg hob
            have HI5 := Aside0.mk hb
            have HV5 := Aside0.mk (show FR w5 B0 v1 (P ++ [(⟨s, t, false⟩ : Fl)]) from ho)
            have HB5 := Aside0.mk (HB4.out.beside HV4.out (by decide) hg)
            clear ho hb hg hob
            obtain ⟨vb2, hvb⟩ : ∃ v, v1 = v := ⟨_, rfl⟩
            rw [hvb] at HV5 ⊢
            clear hvb
            refine hK _ _ (HS.out _ HI5.out) (fun hS => ?_)
            clear hK K
            refine norm_ (a' := Act.put _ (some 107) vb2) rfl ?_
            refine norm_ (a' := ?_) ?_ ?_
            rotate_left
            · simp only [Act.put, List.setIfInBounds_toArray, List.set_cons_zero, List.set_cons_succ]; rfl
            clear hS
            refine wpAnyLast_ready (rs := [13]) (by kernel_rfl) (by simp) (AllReadyL.cons rfl (by decide) (fun K hK => ?_) AllReadyL.nil)
            · skip
              refine appF_step (w0 := w0) (base := B0) (c := cq) (some 111) rfl (by rfl) (.tmp 107) (.tmp 110) (by kernel_rfl) (by kernel_rfl) (by kernel_rfl) HV5.out (HRk.out _ HI5.out) HI5.out (below_sz HB0.out HI5.out) (by simp; omega) ?_
              intro v1 w6 ho hb hg hob
              have HI6 := Aside0.mk hb
              have HV6 := Aside0.mk (show FR w6 B0 v1 (P ++ [(⟨s, t, false⟩ : Fl)] ++ Q) from ho)
              have HB6 := Aside0.mk (HB5.out.beside HV5.out (by decide) hg)
              clear ho hb hg hob
              obtain ⟨An, cn, rfl, hlc, hrc⟩ := Kd.R_reads HV6.out
              have HW6 := Aside0.mk (show kF.C w6 An (P ++ [(⟨s, t, false⟩ : Fl)] ++ Q).length (P ++ [(⟨s, t, false⟩ : Fl)] ++ Q) from hrc)
              have HWl := Lib.hid (show (P ++ [(⟨s, t, false⟩ : Fl)] ++ Q).length ≤ cn from hlc)
              clear hlc hrc
              refine hK _ _ (HS.out _ HI6.out) (fun hS => ?_)
              clear hK K
              refine norm_ (a' := Act.put _ (some 111) (.slice An (P ++ [(⟨s, t, false⟩ : Fl)] ++ Q).length cn)) rfl ?_
              refine norm_ (a' := ?_) ?_ ?_
              rotate_left
              · simp only [Act.put, List.setIfInBounds_toArray, List.set_cons_zero, List.set_cons_succ]; rfl
              clear hS
              refine wpAnyLast_ready (rs := [14]) (by kernel_rfl) (by simp) (AllReadyL.cons rfl (by decide) (fun K hK => ?_) AllReadyL.nil)
              · skip
                refine goes_ Tryd.func9 (by kernel_rfl) rfl #[.slice An (P ++ [(⟨s, t, false⟩ : Fl)] ++ Q).length cn] (by rfl) rfl rfl (by kernel_rfl) ?_
                refine (request_calls An cn (P ++ [(⟨s, t, false⟩ : Fl)] ++ Q) _ HW6.out HWl.out HWf.out).mono ?_
                rw [HRq.out]
                rintro e w7 ⟨rfl, hb⟩
                refine ⟨_, rfl, ?_⟩
                have HI7 := Aside0.mk (below_stepB HB0.out HI6.out hb)
                have HB7 := Aside0.mk (HB6.out.below hb)
                refine hK _ _ (HS.out _ HI7.out) (fun hS => ?_)
                clear hK K
                refine norm_ (a' := Act.put _ (some 112) (.tuple #[.agg #[.string m0, .string m1, .string ⟨#[]⟩, .string m2, .bool false, .int .i64 m3], .int .i64 0])) rfl ?_
                refine norm_ (a' := ?_) ?_ ?_
                rotate_left
                · simp only [Act.put, List.setIfInBounds_toArray, List.set_cons_zero, List.set_cons_succ]; rfl
                clear hS
                refine dpure 15 (some 97) rfl rfl (by kernel_rfl) (fun _ _ _ h => h) (by rfl) (v := ?_) (a' := ?_) ?_ ?_ ?_
                rotate_left 2
                · intro w'; go_simp; with_reducible rfl
                · simp only [Act.put, List.setIfInBounds_toArray, List.set_cons_zero, List.set_cons_succ]; rfl
                refine dpure 16 (some 113) rfl rfl (by kernel_rfl) (fun _ _ _ h => h) (by rfl) (v := ?_) (a' := ?_) ?_ ?_ ?_
                rotate_left 2
                · intro w'; go_simp; with_reducible rfl
                · simp only [Act.put, List.setIfInBounds_toArray, List.set_cons_zero, List.set_cons_succ]; rfl
                refine dpure 17 (some 114) rfl rfl (by kernel_rfl) (fun _ _ _ h => h) (by rfl) (v := ?_) (a' := ?_) ?_ ?_ ?_
                rotate_left 2
                · intro w'; go_simp; with_reducible rfl
                · simp only [Act.put, List.setIfInBounds_toArray, List.set_cons_zero, List.set_cons_succ]; rfl
                clear hb
                refine lcast (l' := #[true, true, true, true, true, true, true, true, true, true, true, true, true, true, true, true, true, true, true, false, false]) (by kernel_rfl) ?_
                exact JT (va, vb1, vb2, .slice An (P ++ [(⟨s, t, false⟩ : Fl)] ++ Q).length cn, .slice (some ⟨gl, 0, none⟩) 1 1, qb) w7 ⟨HB7.out, HI7.out, HQ.out⟩
    · skip
      have hb := below_alloc (Below.refl w1.heap.size w1) (.cells #[.string ⟨#[]⟩, .string ⟨#[]⟩, .string ⟨#[]⟩, .string ⟨#[]⟩, .bool false, .int .i64 0] 26 (0, 0))
      have HI2 := Aside0.mk (below_stepB HB0.out HI1.out hb)
      have HU2 := Aside0.mk (Kd.R_below HU1.out hb)
      have HB2 := Aside0.mk (SAt.new w1 #[.string ⟨#[]⟩, .string ⟨#[]⟩, .string ⟨#[]⟩, .string ⟨#[]⟩, .bool false, .int .i64 0] 26)
      have HQ := Lib.hid ((below_sz HB0.out HI1.out))
      refine event_step (by kernel_rfl) (v := .pointer (some ⟨w1.heap.size, 0, none⟩)) (w1 := w1.alloc (.cells #[.string ⟨#[]⟩, .string ⟨#[]⟩, .string ⟨#[]⟩, .string ⟨#[]⟩, .bool false, .int .i64 0] 26 (0, 0))) (by go_simp; done) ?_
      refine hK _ _ (HS.out _ HI2.out) (fun hS => ?_)
      clear hK K
      refine norm_ (a' := Act.put _ (some 12) (.pointer (some ⟨w1.heap.size, 0, none⟩))) rfl ?_
      refine norm_ (a' := ?_) ?_ ?_
      rotate_left
      · simp only [Act.put, List.setIfInBounds_toArray, List.set_cons_zero, List.set_cons_succ]; rfl
      clear hS
      clear hb
      generalize w1.alloc (.cells #[.string ⟨#[]⟩, .string ⟨#[]⟩, .string ⟨#[]⟩, .string ⟨#[]⟩, .bool false, .int .i64 0] 26 (0, 0)) = w2 at *
      generalize w1.heap.size = qb at *
      refine wpAnyLast_ready (rs := [0]) (by kernel_rfl) (by simp) (AllReadyL.cons rfl (by decide) (fun K hK => ?_) AllReadyL.nil)
      · skip
        have hb := below_alloc (Below.refl w2.heap.size w2) (.cells #[] 41)
        have HI3 := Aside0.mk (below_stepB HB0.out HI2.out hb)
        have HU3 := Aside0.mk (Kd.R_below HU2.out hb)
        have HB3 := Aside0.mk (HB2.out.below hb)
        have HV3 := Aside0.mk (fr_nil (base := B0) w2 (below_sz HB0.out HI2.out))
        have HA3 := Aside0.mk (apart_nil HU2.out 0 0)
        refine event_step (by kernel_rfl) (v := .slice (some ⟨w2.heap.size, 0, none⟩) 0 0) (w1 := w2.alloc (.cells #[] 41)) (by go_simp; done) ?_
        refine hK _ _ (HS.out _ HI3.out) (fun hS => ?_)
        clear hK K
        refine norm_ (a' := Act.put _ (some 98) (.slice (some ⟨w2.heap.size, 0, none⟩) 0 0)) rfl ?_
        refine norm_ (a' := ?_) ?_ ?_
        rotate_left
        · simp only [Act.put, List.setIfInBounds_toArray, List.set_cons_zero, List.set_cons_succ]; rfl
        clear hS
        clear hb
        generalize w2.alloc (.cells #[] 41) = w3 at *
        generalize Value.slice (some ⟨w2.heap.size, 0, none⟩) 0 0 = va at *
        refine wpAnyLast_ready (rs := [4]) (by kernel_rfl) (by simp) (AllReadyL.cons rfl (by decide) (fun K hK => ?_) AllReadyL.nil)
        · skip
          refine appF_step (w0 := w0) (base := B0) (c := cp) (some 102) rfl (by rfl) (.tmp 98) (.tmp 101) (by kernel_rfl) (by kernel_rfl) (by kernel_rfl) HV3.out (HRp.out _ HI3.out) HI3.out (below_sz HB0.out HI3.out) (by simp; omega) ?_
          intro v1 w4 ho hb hg hob
          have HI4 := Aside0.mk hb
          have HV4 := Aside0.mk (show FR w4 B0 v1 P from ho)
          have HU4 := Aside0.mk (fr_side HU3.out HA3.out hg)
          have HA4 := Aside0.mk (HA3.out.grow HU3.out hob)
          have HB4 := Aside0.mk (HB3.out.beside HV3.out (by decide) hg)
          clear ho hb hg hob
          obtain ⟨vb1, hvb⟩ : ∃ v, v1 = v := ⟨_, rfl⟩
          rw [hvb] at HV4 ⊢
          rw [hvb] at HA4
          clear hvb
          refine hK _ _ (HS.out _ HI4.out) (fun hS => ?_)
          clear hK K
          refine norm_ (a' := Act.put _ (some 102) vb1) rfl ?_
          refine norm_ (a' := ?_) ?_ ?_
          rotate_left
          · simp only [Act.put, List.setIfInBounds_toArray, List.set_cons_zero, List.set_cons_succ]; rfl
          clear hS
          refine wpAnyLast_ready (rs := [9]) (by kernel_rfl) (by simp) (AllReadyL.cons rfl (by decide) (fun K hK => ?_) AllReadyL.nil)
          · skip
            refine appF_step (w0 := w0) (base := B0) (c := 1) (some 107) rfl (by rfl) (.tmp 102) (.tmp 106) (by kernel_rfl) (by kernel_rfl) (by kernel_rfl) HV4.out (Kd.R_reads' HU4.out).2.2 HI4.out (below_sz HB0.out HI4.out) (by simp; omega) ?_
            intro v1 w5 ho hb hg hob
            have HI5 := Aside0.mk hb
            have HV5 := Aside0.mk (show FR w5 B0 v1 (P ++ [(⟨s, t, false⟩ : Fl)]) from ho)
            have HB5 := Aside0.mk (HB4.out.beside HV4.out (by decide) hg)
            clear ho hb hg hob
            obtain ⟨vb2, hvb⟩ : ∃ v, v1 = v := ⟨_, rfl⟩
            rw [hvb] at HV5 ⊢
            clear hvb
            refine hK _ _ (HS.out _ HI5.out) (fun hS => ?_)
            clear hK K
            refine norm_ (a' := Act.put _ (some 107) vb2) rfl ?_
            refine norm_ (a' := ?_) ?_ ?_
            rotate_left
            · simp only [Act.put, List.setIfInBounds_toArray, List.set_cons_zero, List.set_cons_succ]; rfl
            clear hS
            refine wpAnyLast_ready (rs := [13]) (by kernel_rfl) (by simp) (AllReadyL.cons rfl (by decide) (fun K hK => ?_) AllReadyL.nil)
            · skip
              refine appF_step (w0 := w0) (base := B0) (c := cq) (some 111) rfl (by rfl) (.tmp 107) (.tmp 110) (by kernel_rfl) (by kernel_rfl) (by kernel_rfl) HV5.out (HRk.out _ HI5.out) HI5.out (below_sz HB0.out HI5.out) (by simp; omega) ?_
              intro v1 w6 ho hb hg hob
              have HI6 := Aside0.mk hb
              have HV6 := Aside0.mk (show FR w6 B0 v1 (P ++ [(⟨s, t, false⟩ : Fl)] ++ Q) from ho)
              have HB6 := Aside0.mk (HB5.out.beside HV5.out (by decide) hg)
              clear ho hb hg hob
              obtain ⟨An, cn, rfl, hlc, hrc⟩ := Kd.R_reads HV6.out
              have HW6 := Aside0.mk (show kF.C w6 An (P ++ [(⟨s, t, false⟩ : Fl)] ++ Q).length (P ++ [(⟨s, t, false⟩ : Fl)] ++ Q) from hrc)
              have HWl := Lib.hid (show (P ++ [(⟨s, t, false⟩ : Fl)] ++ Q).length ≤ cn from hlc)
              clear hlc hrc
              refine hK _ _ (HS.out _ HI6.out) (fun hS => ?_)
              clear hK K
              refine norm_ (a' := Act.put _ (some 111) (.slice An (P ++ [(⟨s, t, false⟩ : Fl)] ++ Q).length cn)) rfl ?_
              refine norm_ (a' := ?_) ?_ ?_
              rotate_left
              · simp only [Act.put, List.setIfInBounds_toArray, List.set_cons_zero, List.set_cons_succ]; rfl
              clear hS
              refine wpAnyLast_ready (rs := [14]) (by kernel_rfl) (by simp) (AllReadyL.cons rfl (by decide) (fun K hK => ?_) AllReadyL.nil)
              · skip
                refine goes_ Tryd.func9 (by kernel_rfl) rfl #[.slice An (P ++ [(⟨s, t, false⟩ : Fl)] ++ Q).length cn] (by rfl) rfl rfl (by kernel_rfl) ?_
                refine (request_calls An cn (P ++ [(⟨s, t, false⟩ : Fl)] ++ Q) _ HW6.out HWl.out HWf.out).mono ?_
                rw [HRq.out]
                rintro e w7 ⟨rfl, hb⟩
                refine ⟨_, rfl, ?_⟩
                have HI7 := Aside0.mk (below_stepB HB0.out HI6.out hb)
                have HB7 := Aside0.mk (HB6.out.below hb)
                refine hK _ _ (HS.out _ HI7.out) (fun hS => ?_)
                clear hK K
                refine norm_ (a' := Act.put _ (some 112) (.tuple #[.agg #[.string m0, .string m1, .string ⟨#[]⟩, .string m2, .bool false, .int .i64 m3], .int .i64 0])) rfl ?_
                refine norm_ (a' := ?_) ?_ ?_
                rotate_left
                · simp only [Act.put, List.setIfInBounds_toArray, List.set_cons_zero, List.set_cons_succ]; rfl
                clear hS
                refine dpure 15 (some 97) rfl rfl (by kernel_rfl) (fun _ _ _ h => h) (by rfl) (v := ?_) (a' := ?_) ?_ ?_ ?_
                rotate_left 2
                · intro w'; go_simp; with_reducible rfl
                · simp only [Act.put, List.setIfInBounds_toArray, List.set_cons_zero, List.set_cons_succ]; rfl
                refine dpure 16 (some 113) rfl rfl (by kernel_rfl) (fun _ _ _ h => h) (by rfl) (v := ?_) (a' := ?_) ?_ ?_ ?_
                rotate_left 2
                · intro w'; go_simp; with_reducible rfl
                · simp only [Act.put, List.setIfInBounds_toArray, List.set_cons_zero, List.set_cons_succ]; rfl
                refine dpure 17 (some 114) rfl rfl (by kernel_rfl) (fun _ _ _ h => h) (by rfl) (v := ?_) (a' := ?_) ?_ ?_ ?_
                rotate_left 2
                · intro w'; go_simp; with_reducible rfl
                · simp only [Act.put, List.setIfInBounds_toArray, List.set_cons_zero, List.set_cons_succ]; rfl
                clear hb
                refine lcast (l' := #[true, true, true, true, true, true, true, true, true, true, true, true, true, true, true, true, true, true, true, false, false]) (by kernel_rfl) ?_
                exact JT (va, vb1, vb2, .slice An (P ++ [(⟨s, t, false⟩ : Fl)] ++ Q).length cn, .slice (some ⟨gl, 0, none⟩) 1 1, qb) w7 ⟨HB7.out, HI7.out, HQ.out⟩
  · skip
    have hb := below_alloc (Below.refl w0.heap.size w0) (.cells #[.string ⟨#[]⟩, .string ⟨#[]⟩, .string ⟨#[]⟩, .string ⟨#[]⟩, .bool false, .int .i64 0] 26 (0, 0))
    have HI1 := Aside0.mk (below_stepB HB0.out HI0.out hb)
    have HB1 := Aside0.mk (SAt.new w0 #[.string ⟨#[]⟩, .string ⟨#[]⟩, .string ⟨#[]⟩, .string ⟨#[]⟩, .bool false, .int .i64 0] 26)
    have HQ := Lib.hid ((below_sz HB0.out HI0.out))
    refine event_step (by kernel_rfl) (v := .pointer (some ⟨w0.heap.size, 0, none⟩)) (w1 := w0.alloc (.cells #[.string ⟨#[]⟩, .string ⟨#[]⟩, .string ⟨#[]⟩, .string ⟨#[]⟩, .bool false, .int .i64 0] 26 (0, 0))) (by go_simp; done) ?_
    refine hK _ _ (HS.out _ HI1.out) (fun hS => ?_)
    clear hK K
    refine norm_ (a' := Act.put _ (some 12) (.pointer (some ⟨w0.heap.size, 0, none⟩))) rfl ?_
    refine norm_ (a' := ?_) ?_ ?_
    rotate_left
    · simp only [Act.put, List.setIfInBounds_toArray, List.set_cons_zero, List.set_cons_succ]; rfl
    clear hS
    clear hb
    generalize w0.alloc (.cells #[.string ⟨#[]⟩, .string ⟨#[]⟩, .string ⟨#[]⟩, .string ⟨#[]⟩, .bool false, .int .i64 0] 26 (0, 0)) = w1 at *
    generalize w0.heap.size = qb at *
    refine wpAnyLast_ready (rs := [0, 8]) (by kernel_rfl) (by simp) (AllReadyL.cons rfl (by decide) (fun K hK => ?_) (AllReadyL.cons rfl (by decide) (fun K hK => ?_) AllReadyL.nil))
    · skip
      have hb := below_alloc (Below.refl w1.heap.size w1) (.cells #[] 41)
      have HI2 := Aside0.mk (below_stepB HB0.out HI1.out hb)
      have HB2 := Aside0.mk (HB1.out.below hb)
      have HV2 := Aside0.mk (fr_nil (base := B0) w1 (below_sz HB0.out HI1.out))
      refine event_step (by kernel_rfl) (v := .slice (some ⟨w1.heap.size, 0, none⟩) 0 0) (w1 := w1.alloc (.cells #[] 41)) (by go_simp; done) ?_
      refine hK _ _ (HS.out _ HI2.out) (fun hS => ?_)
      clear hK K
      refine norm_ (a' := Act.put _ (some 98) (.slice (some ⟨w1.heap.size, 0, none⟩) 0 0)) rfl ?_
      refine norm_ (a' := ?_) ?_ ?_
      rotate_left
      · simp only [Act.put, List.setIfInBounds_toArray, List.set_cons_zero, List.set_cons_succ]; rfl
      clear hS
      clear hb
      generalize w1.alloc (.cells #[] 41) = w2 at *
      generalize Value.slice (some ⟨w1.heap.size, 0, none⟩) 0 0 = va at *
      refine wpAnyLast_ready (rs := [4, 8]) (by kernel_rfl) (by simp) (AllReadyL.cons rfl (by decide) (fun K hK => ?_) (AllReadyL.cons rfl (by decide) (fun K hK => ?_) AllReadyL.nil))
      · skip
        refine appF_step (w0 := w0) (base := B0) (c := cp) (some 102) rfl (by rfl) (.tmp 98) (.tmp 101) (by kernel_rfl) (by kernel_rfl) (by kernel_rfl) HV2.out (HRp.out _ HI2.out) HI2.out (below_sz HB0.out HI2.out) (by simp; omega) ?_
        intro v1 w3 ho hb hg hob
        have HI3 := Aside0.mk hb
        have HV3 := Aside0.mk (show FR w3 B0 v1 P from ho)
        have HB3 := Aside0.mk (HB2.out.beside HV2.out (by decide) hg)
        clear ho hb hg hob
        obtain ⟨vb1, hvb⟩ : ∃ v, v1 = v := ⟨_, rfl⟩
        rw [hvb] at HV3 ⊢
        clear hvb
        refine hK _ _ (HS.out _ HI3.out) (fun hS => ?_)
        clear hK K
        refine norm_ (a' := Act.put _ (some 102) vb1) rfl ?_
        refine norm_ (a' := ?_) ?_ ?_
        rotate_left
        · simp only [Act.put, List.setIfInBounds_toArray, List.set_cons_zero, List.set_cons_succ]; rfl
        clear hS
        refine wpAnyLast_ready (rs := [8]) (by kernel_rfl) (by simp) (AllReadyL.cons rfl (by decide) (fun K hK => ?_) AllReadyL.nil)
        · skip
          have hb := below_alloc (Below.refl w3.heap.size w3) (.cells #[.string s, .string t, .bool false] 41)
          have HI4 := Aside0.mk (below_stepB HB0.out HI3.out hb)
          have HV4 := Aside0.mk (Kd.R_below HV3.out hb)
          have HB4 := Aside0.mk (HB3.out.below hb)
          have HU4 := Aside0.mk (show FR (w3.alloc (.cells #[.string s, .string t, .bool false] 41)) B0 (.slice (some ⟨w3.heap.size, 0, none⟩) 1 1) [(⟨s, t, false⟩ : Fl)] from fr_one (base := B0) w3 (below_sz HB0.out HI3.out) _)
          have HA4 := Aside0.mk (apart_lit HV3.out 1 1)
          refine event_step (by kernel_rfl) (v := .slice (some ⟨w3.heap.size, 0, none⟩) 1 1) (w1 := w3.alloc (.cells #[.string s, .string t, .bool false] 41)) (by first | (go_simp; done) | (go_simp; rfl)) ?_
          refine hK _ _ (HS.out _ HI4.out) (fun hS => ?_)
          clear hK K
          refine norm_ (a' := Act.put _ (some 106) (.slice (some ⟨w3.heap.size, 0, none⟩) 1 1)) rfl ?_
          refine norm_ (a' := ?_) ?_ ?_
          rotate_left
          · simp only [Act.put, List.setIfInBounds_toArray, List.set_cons_zero, List.set_cons_succ]; rfl
          clear hS
          clear hb
          generalize w3.alloc (.cells #[.string s, .string t, .bool false] 41) = w4 at *
          generalize w3.heap.size = gl at *
          refine wpAnyLast_ready (rs := [9]) (by kernel_rfl) (by simp) (AllReadyL.cons rfl (by decide) (fun K hK => ?_) AllReadyL.nil)
          · skip
            refine appF_step (w0 := w0) (base := B0) (c := 1) (some 107) rfl (by rfl) (.tmp 102) (.tmp 106) (by kernel_rfl) (by kernel_rfl) (by kernel_rfl) HV4.out (Kd.R_reads' HU4.out).2.2 HI4.out (below_sz HB0.out HI4.out) (by simp; omega) ?_
            intro v1 w5 ho hb hg hob
            have HI5 := Aside0.mk hb
            have HV5 := Aside0.mk (show FR w5 B0 v1 (P ++ [(⟨s, t, false⟩ : Fl)]) from ho)
            have HB5 := Aside0.mk (HB4.out.beside HV4.out (by decide) hg)
            clear ho hb hg hob
            obtain ⟨vb2, hvb⟩ : ∃ v, v1 = v := ⟨_, rfl⟩
            rw [hvb] at HV5 ⊢
            clear hvb
            refine hK _ _ (HS.out _ HI5.out) (fun hS => ?_)
            clear hK K
            refine norm_ (a' := Act.put _ (some 107) vb2) rfl ?_
            refine norm_ (a' := ?_) ?_ ?_
            rotate_left
            · simp only [Act.put, List.setIfInBounds_toArray, List.set_cons_zero, List.set_cons_succ]; rfl
            clear hS
            refine wpAnyLast_ready (rs := [13]) (by kernel_rfl) (by simp) (AllReadyL.cons rfl (by decide) (fun K hK => ?_) AllReadyL.nil)
            · skip
              refine appF_step (w0 := w0) (base := B0) (c := cq) (some 111) rfl (by rfl) (.tmp 107) (.tmp 110) (by kernel_rfl) (by kernel_rfl) (by kernel_rfl) HV5.out (HRk.out _ HI5.out) HI5.out (below_sz HB0.out HI5.out) (by simp; omega) ?_
              intro v1 w6 ho hb hg hob
              have HI6 := Aside0.mk hb
              have HV6 := Aside0.mk (show FR w6 B0 v1 (P ++ [(⟨s, t, false⟩ : Fl)] ++ Q) from ho)
              have HB6 := Aside0.mk (HB5.out.beside HV5.out (by decide) hg)
              clear ho hb hg hob
              obtain ⟨An, cn, rfl, hlc, hrc⟩ := Kd.R_reads HV6.out
              have HW6 := Aside0.mk (show kF.C w6 An (P ++ [(⟨s, t, false⟩ : Fl)] ++ Q).length (P ++ [(⟨s, t, false⟩ : Fl)] ++ Q) from hrc)
              have HWl := Lib.hid (show (P ++ [(⟨s, t, false⟩ : Fl)] ++ Q).length ≤ cn from hlc)
              clear hlc hrc
              refine hK _ _ (HS.out _ HI6.out) (fun hS => ?_)
              clear hK K
              refine norm_ (a' := Act.put _ (some 111) (.slice An (P ++ [(⟨s, t, false⟩ : Fl)] ++ Q).length cn)) rfl ?_
              refine norm_ (a' := ?_) ?_ ?_
              rotate_left
              · simp only [Act.put, List.setIfInBounds_toArray, List.set_cons_zero, List.set_cons_succ]; rfl
              clear hS
              refine wpAnyLast_ready (rs := [14]) (by kernel_rfl) (by simp) (AllReadyL.cons rfl (by decide) (fun K hK => ?_) AllReadyL.nil)
              · skip
                refine goes_ Tryd.func9 (by kernel_rfl) rfl #[.slice An (P ++ [(⟨s, t, false⟩ : Fl)] ++ Q).length cn] (by rfl) rfl rfl (by kernel_rfl) ?_
                refine (request_calls An cn (P ++ [(⟨s, t, false⟩ : Fl)] ++ Q) _ HW6.out HWl.out HWf.out).mono ?_
                rw [HRq.out]
                rintro e w7 ⟨rfl, hb⟩
                refine ⟨_, rfl, ?_⟩
                have HI7 := Aside0.mk (below_stepB HB0.out HI6.out hb)
                have HB7 := Aside0.mk (HB6.out.below hb)
                refine hK _ _ (HS.out _ HI7.out) (fun hS => ?_)
                clear hK K
                refine norm_ (a' := Act.put _ (some 112) (.tuple #[.agg #[.string m0, .string m1, .string ⟨#[]⟩, .string m2, .bool false, .int .i64 m3], .int .i64 0])) rfl ?_
                refine norm_ (a' := ?_) ?_ ?_
                rotate_left
                · simp only [Act.put, List.setIfInBounds_toArray, List.set_cons_zero, List.set_cons_succ]; rfl
                clear hS
                refine dpure 15 (some 97) rfl rfl (by kernel_rfl) (fun _ _ _ h => h) (by rfl) (v := ?_) (a' := ?_) ?_ ?_ ?_
                rotate_left 2
                · intro w'; go_simp; with_reducible rfl
                · simp only [Act.put, List.setIfInBounds_toArray, List.set_cons_zero, List.set_cons_succ]; rfl
                refine dpure 16 (some 113) rfl rfl (by kernel_rfl) (fun _ _ _ h => h) (by rfl) (v := ?_) (a' := ?_) ?_ ?_ ?_
                rotate_left 2
                · intro w'; go_simp; with_reducible rfl
                · simp only [Act.put, List.setIfInBounds_toArray, List.set_cons_zero, List.set_cons_succ]; rfl
                refine dpure 17 (some 114) rfl rfl (by kernel_rfl) (fun _ _ _ h => h) (by rfl) (v := ?_) (a' := ?_) ?_ ?_ ?_
                rotate_left 2
                · intro w'; go_simp; with_reducible rfl
                · simp only [Act.put, List.setIfInBounds_toArray, List.set_cons_zero, List.set_cons_succ]; rfl
                clear hb
                refine lcast (l' := #[true, true, true, true, true, true, true, true, true, true, true, true, true, true, true, true, true, true, true, false, false]) (by kernel_rfl) ?_
                exact JT (va, vb1, vb2, .slice An (P ++ [(⟨s, t, false⟩ : Fl)] ++ Q).length cn, .slice (some ⟨gl, 0, none⟩) 1 1, qb) w7 ⟨HB7.out, HI7.out, HQ.out⟩
      · skip
        have hb := below_alloc (Below.refl w2.heap.size w2) (.cells #[.string s, .string t, .bool false] 41)
        have HI3 := Aside0.mk (below_stepB HB0.out HI2.out hb)
        have HV3 := Aside0.mk (Kd.R_below HV2.out hb)
        have HB3 := Aside0.mk (HB2.out.below hb)
        have HU3 := Aside0.mk (show FR (w2.alloc (.cells #[.string s, .string t, .bool false] 41)) B0 (.slice (some ⟨w2.heap.size, 0, none⟩) 1 1) [(⟨s, t, false⟩ : Fl)] from fr_one (base := B0) w2 (below_sz HB0.out HI2.out) _)
        have HA3 := Aside0.mk (apart_lit HV2.out 1 1)
        refine event_step (by kernel_rfl) (v := .slice (some ⟨w2.heap.size, 0, none⟩) 1 1) (w1 := w2.alloc (.cells #[.string s, .string t, .bool false] 41)) (by first | (go_simp; done) | (go_simp; rfl)) ?_
        refine hK _ _ (HS.out _ HI3.out) (fun hS => ?_)
        clear hK K
        refine norm_ (a' := Act.put _ (some 106) (.slice (some ⟨w2.heap.size, 0, none⟩) 1 1)) rfl ?_
        refine norm_ (a' := ?_) ?_ ?_
        rotate_left
        · simp only [Act.put, List.setIfInBounds_toArray, List.set_cons_zero, List.set_cons_succ]; rfl
        clear hS
        clear hb
        generalize w2.alloc (.cells #[.string s, .string t, .bool false] 41) = w3 at *
        generalize w2.heap.size = gl at *
        refine wpAnyLast_ready (rs := [4]) (by kernel_rfl) (by simp) (AllReadyL.cons rfl (by decide) (fun K hK => ?_) AllReadyL.nil)
        · skip
          refine appF_step (w0 := w0) (base := B0) (c := cp) (some 102) rfl (by rfl) (.tmp 98) (.tmp 101) (by kernel_rfl) (by kernel_rfl) (by kernel_rfl) HV3.out (HRp.out _ HI3.out) HI3.out (below_sz HB0.out HI3.out) (by simp; omega) ?_
          intro v1 w4 ho hb hg hob
          have HI4 := Aside0.mk hb
          have HV4 := Aside0.mk (show FR w4 B0 v1 P from ho)
          have HU4 := Aside0.mk (fr_side HU3.out HA3.out hg)
          have HA4 := Aside0.mk (HA3.out.grow HU3.out hob)
          have HB4 := Aside0.mk (HB3.out.beside HV3.out (by decide) hg)
          clear ho hb hg hob
          obtain ⟨vb1, hvb⟩ : ∃ v, v1 = v := ⟨_, rfl⟩
          rw [hvb] at HV4 ⊢
          rw [hvb] at HA4
          clear hvb
          refine hK _ _ (HS.out _ HI4.out) (fun hS => ?_)
          clear hK K
          refine norm_ (a' := Act.put _ (some 102) vb1) rfl ?_
          refine norm_ (a' := ?_) ?_ ?_
          rotate_left
          · simp only [Act.put, List.setIfInBounds_toArray, List.set_cons_zero, List.set_cons_succ]; rfl
          clear hS
          refine wpAnyLast_ready (rs := [9]) (by kernel_rfl) (by simp) (AllReadyL.cons rfl (by decide) (fun K hK => ?_) AllReadyL.nil)
          · skip
            refine appF_step (w0 := w0) (base := B0) (c := 1) (some 107) rfl (by rfl) (.tmp 102) (.tmp 106) (by kernel_rfl) (by kernel_rfl) (by kernel_rfl) HV4.out (Kd.R_reads' HU4.out).2.2 HI4.out (below_sz HB0.out HI4.out) (by simp; omega) ?_
            intro v1 w5 ho hb hg hob
            have HI5 := Aside0.mk hb
            have HV5 := Aside0.mk (show FR w5 B0 v1 (P ++ [(⟨s, t, false⟩ : Fl)]) from ho)
            have HB5 := Aside0.mk (HB4.out.beside HV4.out (by decide) hg)
            clear ho hb hg hob
            obtain ⟨vb2, hvb⟩ : ∃ v, v1 = v := ⟨_, rfl⟩
            rw [hvb] at HV5 ⊢
            clear hvb
            refine hK _ _ (HS.out _ HI5.out) (fun hS => ?_)
            clear hK K
            refine norm_ (a' := Act.put _ (some 107) vb2) rfl ?_
            refine norm_ (a' := ?_) ?_ ?_
            rotate_left
            · simp only [Act.put, List.setIfInBounds_toArray, List.set_cons_zero, List.set_cons_succ]; rfl
            clear hS
            refine wpAnyLast_ready (rs := [13]) (by kernel_rfl) (by simp) (AllReadyL.cons rfl (by decide) (fun K hK => ?_) AllReadyL.nil)
            · skip
              refine appF_step (w0 := w0) (base := B0) (c := cq) (some 111) rfl (by rfl) (.tmp 107) (.tmp 110) (by kernel_rfl) (by kernel_rfl) (by kernel_rfl) HV5.out (HRk.out _ HI5.out) HI5.out (below_sz HB0.out HI5.out) (by simp; omega) ?_
              intro v1 w6 ho hb hg hob
              have HI6 := Aside0.mk hb
              have HV6 := Aside0.mk (show FR w6 B0 v1 (P ++ [(⟨s, t, false⟩ : Fl)] ++ Q) from ho)
              have HB6 := Aside0.mk (HB5.out.beside HV5.out (by decide) hg)
              clear ho hb hg hob
              obtain ⟨An, cn, rfl, hlc, hrc⟩ := Kd.R_reads HV6.out
              have HW6 := Aside0.mk (show kF.C w6 An (P ++ [(⟨s, t, false⟩ : Fl)] ++ Q).length (P ++ [(⟨s, t, false⟩ : Fl)] ++ Q) from hrc)
              have HWl := Lib.hid (show (P ++ [(⟨s, t, false⟩ : Fl)] ++ Q).length ≤ cn from hlc)
              clear hlc hrc
              refine hK _ _ (HS.out _ HI6.out) (fun hS => ?_)
              clear hK K
              refine norm_ (a' := Act.put _ (some 111) (.slice An (P ++ [(⟨s, t, false⟩ : Fl)] ++ Q).length cn)) rfl ?_
              refine norm_ (a' := ?_) ?_ ?_
              rotate_left
              · simp only [Act.put, List.setIfInBounds_toArray, List.set_cons_zero, List.set_cons_succ]; rfl
              clear hS
              refine wpAnyLast_ready (rs := [14]) (by kernel_rfl) (by simp) (AllReadyL.cons rfl (by decide) (fun K hK => ?_) AllReadyL.nil)
              · skip
                refine goes_ Tryd.func9 (by kernel_rfl) rfl #[.slice An (P ++ [(⟨s, t, false⟩ : Fl)] ++ Q).length cn] (by rfl) rfl rfl (by kernel_rfl) ?_
                refine (request_calls An cn (P ++ [(⟨s, t, false⟩ : Fl)] ++ Q) _ HW6.out HWl.out HWf.out).mono ?_
                rw [HRq.out]
                rintro e w7 ⟨rfl, hb⟩
                refine ⟨_, rfl, ?_⟩
                have HI7 := Aside0.mk (below_stepB HB0.out HI6.out hb)
                have HB7 := Aside0.mk (HB6.out.below hb)
                refine hK _ _ (HS.out _ HI7.out) (fun hS => ?_)
                clear hK K
                refine norm_ (a' := Act.put _ (some 112) (.tuple #[.agg #[.string m0, .string m1, .string ⟨#[]⟩, .string m2, .bool false, .int .i64 m3], .int .i64 0])) rfl ?_
                refine norm_ (a' := ?_) ?_ ?_
                rotate_left
                · simp only [Act.put, List.setIfInBounds_toArray, List.set_cons_zero, List.set_cons_succ]; rfl
                clear hS
                refine dpure 15 (some 97) rfl rfl (by kernel_rfl) (fun _ _ _ h => h) (by rfl) (v := ?_) (a' := ?_) ?_ ?_ ?_
                rotate_left 2
                · intro w'; go_simp; with_reducible rfl
                · simp only [Act.put, List.setIfInBounds_toArray, List.set_cons_zero, List.set_cons_succ]; rfl
                refine dpure 16 (some 113) rfl rfl (by kernel_rfl) (fun _ _ _ h => h) (by rfl) (v := ?_) (a' := ?_) ?_ ?_ ?_
                rotate_left 2
                · intro w'; go_simp; with_reducible rfl
                · simp only [Act.put, List.setIfInBounds_toArray, List.set_cons_zero, List.set_cons_succ]; rfl
                refine dpure 17 (some 114) rfl rfl (by kernel_rfl) (fun _ _ _ h => h) (by rfl) (v := ?_) (a' := ?_) ?_ ?_ ?_
                rotate_left 2
                · intro w'; go_simp; with_reducible rfl
                · simp only [Act.put, List.setIfInBounds_toArray, List.set_cons_zero, List.set_cons_succ]; rfl
                clear hb
                refine lcast (l' := #[true, true, true, true, true, true, true, true, true, true, true, true, true, true, true, true, true, true, true, false, false]) (by kernel_rfl) ?_
                exact JT (va, vb1, vb2, .slice An (P ++ [(⟨s, t, false⟩ : Fl)] ++ Q).length cn, .slice (some ⟨gl, 0, none⟩) 1 1, qb) w7 ⟨HB7.out, HI7.out, HQ.out⟩
    · skip
      have hb := below_alloc (Below.refl w1.heap.size w1) (.cells #[.string s, .string t, .bool false] 41)
      have HI2 := Aside0.mk (below_stepB HB0.out HI1.out hb)
      have HB2 := Aside0.mk (HB1.out.below hb)
      have HU2 := Aside0.mk (show FR (w1.alloc (.cells #[.string s, .string t, .bool false] 41)) B0 (.slice (some ⟨w1.heap.size, 0, none⟩) 1 1) [(⟨s, t, false⟩ : Fl)] from fr_one (base := B0) w1 (below_sz HB0.out HI1.out) _)
      refine event_step (by kernel_rfl) (v := .slice (some ⟨w1.heap.size, 0, none⟩) 1 1) (w1 := w1.alloc (.cells #[.string s, .string t, .bool false] 41)) (by first | (go_simp; done) | (go_simp; rfl)) ?_
      refine hK _ _ (HS.out _ HI2.out) (fun hS => ?_)
      clear hK K
      refine norm_ (a' := Act.put _ (some 106) (.slice (some ⟨w1.heap.size, 0, none⟩) 1 1)) rfl ?_
      refine norm_ (a' := ?_) ?_ ?_
      rotate_left
      · simp only [Act.put, List.setIfInBounds_toArray, List.set_cons_zero, List.set_cons_succ]; rfl
      clear hS
      clear hb
      generalize w1.alloc (.cells #[.string s, .string t, .bool false] 41) = w2 at *
      generalize w1.heap.size = gl at *
      refine wpAnyLast_ready (rs := [0]) (by kernel_rfl) (by simp) (AllReadyL.cons rfl (by decide) (fun K hK => ?_) AllReadyL.nil)
      · skip
        have hb := below_alloc (Below.refl w2.heap.size w2) (.cells #[] 41)
        have HI3 := Aside0.mk (below_stepB HB0.out HI2.out hb)
        have HU3 := Aside0.mk (Kd.R_below HU2.out hb)
        have HB3 := Aside0.mk (HB2.out.below hb)
        have HV3 := Aside0.mk (fr_nil (base := B0) w2 (below_sz HB0.out HI2.out))
        have HA3 := Aside0.mk (apart_nil HU2.out 0 0)
        refine event_step (by kernel_rfl) (v := .slice (some ⟨w2.heap.size, 0, none⟩) 0 0) (w1 := w2.alloc (.cells #[] 41)) (by go_simp; done) ?_
        refine hK _ _ (HS.out _ HI3.out) (fun hS => ?_)
        clear hK K
        refine norm_ (a' := Act.put _ (some 98) (.slice (some ⟨w2.heap.size, 0, none⟩) 0 0)) rfl ?_
        refine norm_ (a' := ?_) ?_ ?_
        rotate_left
        · simp only [Act.put, List.setIfInBounds_toArray, List.set_cons_zero, List.set_cons_succ]; rfl
        clear hS
        clear hb
        generalize w2.alloc (.cells #[] 41) = w3 at *
        generalize Value.slice (some ⟨w2.heap.size, 0, none⟩) 0 0 = va at *
        refine wpAnyLast_ready (rs := [4]) (by kernel_rfl) (by simp) (AllReadyL.cons rfl (by decide) (fun K hK => ?_) AllReadyL.nil)
        · skip
          refine appF_step (w0 := w0) (base := B0) (c := cp) (some 102) rfl (by rfl) (.tmp 98) (.tmp 101) (by kernel_rfl) (by kernel_rfl) (by kernel_rfl) HV3.out (HRp.out _ HI3.out) HI3.out (below_sz HB0.out HI3.out) (by simp; omega) ?_
          intro v1 w4 ho hb hg hob
          have HI4 := Aside0.mk hb
          have HV4 := Aside0.mk (show FR w4 B0 v1 P from ho)
          have HU4 := Aside0.mk (fr_side HU3.out HA3.out hg)
          have HA4 := Aside0.mk (HA3.out.grow HU3.out hob)
          have HB4 := Aside0.mk (HB3.out.beside HV3.out (by decide) hg)
          clear ho hb hg hob
          obtain ⟨vb1, hvb⟩ : ∃ v, v1 = v := ⟨_, rfl⟩
          rw [hvb] at HV4 ⊢
          rw [hvb] at HA4
          clear hvb
          refine hK _ _ (HS.out _ HI4.out) (fun hS => ?_)
          clear hK K
          refine norm_ (a' := Act.put _ (some 102) vb1) rfl ?_
          refine norm_ (a' := ?_) ?_ ?_
          rotate_left
          · simp only [Act.put, List.setIfInBounds_toArray, List.set_cons_zero, List.set_cons_succ]; rfl
          clear hS
          refine wpAnyLast_ready (rs := [9]) (by kernel_rfl) (by simp) (AllReadyL.cons rfl (by decide) (fun K hK => ?_) AllReadyL.nil)
          · skip
            refine appF_step (w0 := w0) (base := B0) (c := 1) (some 107) rfl (by rfl) (.tmp 102) (.tmp 106) (by kernel_rfl) (by kernel_rfl) (by kernel_rfl) HV4.out (Kd.R_reads' HU4.out).2.2 HI4.out (below_sz HB0.out HI4.out) (by simp; omega) ?_
            intro v1 w5 ho hb hg hob
            have HI5 := Aside0.mk hb
            have HV5 := Aside0.mk (show FR w5 B0 v1 (P ++ [(⟨s, t, false⟩ : Fl)]) from ho)
            have HB5 := Aside0.mk (HB4.out.beside HV4.out (by decide) hg)
            clear ho hb hg hob
            obtain ⟨vb2, hvb⟩ : ∃ v, v1 = v := ⟨_, rfl⟩
            rw [hvb] at HV5 ⊢
            clear hvb
            refine hK _ _ (HS.out _ HI5.out) (fun hS => ?_)
            clear hK K
            refine norm_ (a' := Act.put _ (some 107) vb2) rfl ?_
            refine norm_ (a' := ?_) ?_ ?_
            rotate_left
            · simp only [Act.put, List.setIfInBounds_toArray, List.set_cons_zero, List.set_cons_succ]; rfl
            clear hS
            refine wpAnyLast_ready (rs := [13]) (by kernel_rfl) (by simp) (AllReadyL.cons rfl (by decide) (fun K hK => ?_) AllReadyL.nil)
            · skip
              refine appF_step (w0 := w0) (base := B0) (c := cq) (some 111) rfl (by rfl) (.tmp 107) (.tmp 110) (by kernel_rfl) (by kernel_rfl) (by kernel_rfl) HV5.out (HRk.out _ HI5.out) HI5.out (below_sz HB0.out HI5.out) (by simp; omega) ?_
              intro v1 w6 ho hb hg hob
              have HI6 := Aside0.mk hb
              have HV6 := Aside0.mk (show FR w6 B0 v1 (P ++ [(⟨s, t, false⟩ : Fl)] ++ Q) from ho)
              have HB6 := Aside0.mk (HB5.out.beside HV5.out (by decide) hg)
              clear ho hb hg hob
              obtain ⟨An, cn, rfl, hlc, hrc⟩ := Kd.R_reads HV6.out
              have HW6 := Aside0.mk (show kF.C w6 An (P ++ [(⟨s, t, false⟩ : Fl)] ++ Q).length (P ++ [(⟨s, t, false⟩ : Fl)] ++ Q) from hrc)
              have HWl := Lib.hid (show (P ++ [(⟨s, t, false⟩ : Fl)] ++ Q).length ≤ cn from hlc)
              clear hlc hrc
              refine hK _ _ (HS.out _ HI6.out) (fun hS => ?_)
              clear hK K
              refine norm_ (a' := Act.put _ (some 111) (.slice An (P ++ [(⟨s, t, false⟩ : Fl)] ++ Q).length cn)) rfl ?_
              refine norm_ (a' := ?_) ?_ ?_
              rotate_left
              · simp only [Act.put, List.setIfInBounds_toArray, List.set_cons_zero, List.set_cons_succ]; rfl
              clear hS
              refine wpAnyLast_ready (rs := [14]) (by kernel_rfl) (by simp) (AllReadyL.cons rfl (by decide) (fun K hK => ?_) AllReadyL.nil)
              · skip
                refine goes_ Tryd.func9 (by kernel_rfl) rfl #[.slice An (P ++ [(⟨s, t, false⟩ : Fl)] ++ Q).length cn] (by rfl) rfl rfl (by kernel_rfl) ?_
                refine (request_calls An cn (P ++ [(⟨s, t, false⟩ : Fl)] ++ Q) _ HW6.out HWl.out HWf.out).mono ?_
                rw [HRq.out]
                rintro e w7 ⟨rfl, hb⟩
                refine ⟨_, rfl, ?_⟩
                have HI7 := Aside0.mk (below_stepB HB0.out HI6.out hb)
                have HB7 := Aside0.mk (HB6.out.below hb)
                refine hK _ _ (HS.out _ HI7.out) (fun hS => ?_)
                clear hK K
                refine norm_ (a' := Act.put _ (some 112) (.tuple #[.agg #[.string m0, .string m1, .string ⟨#[]⟩, .string m2, .bool false, .int .i64 m3], .int .i64 0])) rfl ?_
                refine norm_ (a' := ?_) ?_ ?_
                rotate_left
                · simp only [Act.put, List.setIfInBounds_toArray, List.set_cons_zero, List.set_cons_succ]; rfl
                clear hS
                refine dpure 15 (some 97) rfl rfl (by kernel_rfl) (fun _ _ _ h => h) (by rfl) (v := ?_) (a' := ?_) ?_ ?_ ?_
                rotate_left 2
                · intro w'; go_simp; with_reducible rfl
                · simp only [Act.put, List.setIfInBounds_toArray, List.set_cons_zero, List.set_cons_succ]; rfl
                refine dpure 16 (some 113) rfl rfl (by kernel_rfl) (fun _ _ _ h => h) (by rfl) (v := ?_) (a' := ?_) ?_ ?_ ?_
                rotate_left 2
                · intro w'; go_simp; with_reducible rfl
                · simp only [Act.put, List.setIfInBounds_toArray, List.set_cons_zero, List.set_cons_succ]; rfl
                refine dpure 17 (some 114) rfl rfl (by kernel_rfl) (fun _ _ _ h => h) (by rfl) (v := ?_) (a' := ?_) ?_ ?_ ?_
                rotate_left 2
                · intro w'; go_simp; with_reducible rfl
                · simp only [Act.put, List.setIfInBounds_toArray, List.set_cons_zero, List.set_cons_succ]; rfl
                clear hb
                refine lcast (l' := #[true, true, true, true, true, true, true, true, true, true, true, true, true, true, true, true, true, true, true, false, false]) (by kernel_rfl) ?_
                exact JT (va, vb1, vb2, .slice An (P ++ [(⟨s, t, false⟩ : Fl)] ++ Q).length cn, .slice (some ⟨gl, 0, none⟩) 1 1, qb) w7 ⟨HB7.out, HI7.out, HQ.out⟩
theorem others_all (W : World) (v : Value) (xs : List Fl) (hm : FlV W v xs) (hi : FlIn xs) (s : ByteArray) (hs : s.size ≤ 140737488351232) (t : ByteArray) (ht : t.size ≤ 140737488351232) :
    Calls Tryd.prog 4 #[v, .string s, .string t] W fun e W' => e = .returned (.bool true) ∧ Below W.heap.size W W' := by
  obtain ⟨A, c, rfl, hc, hr⟩ := hm
  exact other_calls A c xs s t W hr hc hi hs ht
end Go.Proofs.YtdpoookgmckclaaDoor.M
