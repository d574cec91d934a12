/- Walks of text.Value, and of the reference's Media. -/
import Derived.Test.YtdpoookgmckclaaDoorMText7
set_option linter.unusedVariables false
set_option linter.unusedSimpArgs false
namespace Go.Proofs.YtdpoookgmckclaaDoor.M
open Go.RowKit Go.Maps Go.Proofs.YtdpoookgmckclaaDoorW.PrintWords Go.Proofs.YtdpoookgmckclaaDoorW.PrintLast Go.Proofs.YtdpoookgmckclaaDoorW.PrintMore
attribute [local go_sem] max2_int min2_int max_two min_two max_three min_three max_four min_four
attribute [local go_sem ↓] Go.wp_at_zero Go.wp_at_succ
theorem trimL_le (l : List Int) : (trimL l).length ≤ l.length := (List.dropWhile_sublist _).length_le
/-- A row whose ends are no blanks stays; another one grows shorter. -/
theorem trim_same (l : List Int) : trimL (trimR l) = l ↔ (l = [] ∨ (blankI (l.getD 0 0) = false ∧ blankI (l.getD (l.length - 1) 0) = false)) := by
  rcases List.eq_nil_or_concat l with rfl | ⟨m, z, rfl⟩
  · simp [trimL, trimR]
  have hz : (m.concat z).getD ((m.concat z).length - 1) 0 = z := by simp [List.getD_eq_getElem?_getD]
  rw [hz, List.concat_eq_append, trimR_snoc]
  cases hb : blankI z with
  | true =>
    simp only [if_true]
    constructor
    · intro h
      have h1 := congrArg List.length h
      have h2 := trimL_le (trimR m)
      have h3 := trimR_len m
      simp at h1
      omega
    · intro h
      simp at h
  | false =>
    simp only [Bool.false_eq_true, if_false]
    cases hm : m ++ [z] with
    | nil => simp at hm
    | cons a t =>
      simp only [trimL, List.dropWhile_cons, List.getD_cons_zero]
      cases ha : blankI a with
      | true =>
        simp only [if_true]
        constructor
        · intro h
          have h1 := congrArg List.length h
          have h2 := trimL_le t
          simp [trimL] at h1 h2
          omega
        · intro h
          simp at h
      | false => simp
theorem value_same (s : ByteArray) : ((bytesOf s).all shownI && decide (trimF s = s)) = valueF s := by
  unfold valueF
  congr 1
  have h1 : trimF s = s ↔ trimL (trimR (bytesOf s)) = bytesOf s := by
    unfold trimF
    constructor
    · intro h
      have := congrArg bytesOf h
      rwa [tb_byt (l := trimL (trimR (bytesOf s))) (fun x hx => tb_range s x (trimR_mem ((List.dropWhile_sublist _).subset hx)))] at this
    · intro h
      rw [h, tb_str]
  have h2 := trim_same (bytesOf s)
  rw [bytesOf_length, bt_getD, bt_getD] at h2
  rw [Bool.eq_iff_iff, decide_eq_true_eq, h1, h2]
  have h3 : bytesOf s = [] ↔ s.size = 0 := by rw [← bytesOf_length s]; exact List.length_eq_zero_iff.symm
  rw [h3]
  simp
set_option maxHeartbeats 4000000 in
set_option maxRecDepth 100000 in
theorem value_calls (s : ByteArray) (w : World) (hs : s.size ≤ 1000000000000) :
    Calls Tryd.prog 45 #[.string s] w fun e w' => e = .returned (.bool (valueF s)) ∧ Below w.heap.size w w' := by
  obtain ⟨V, hV⟩ : ∃ V, valueF s = V := ⟨_, rfl⟩
  rw [hV]
  rw [← value_same] at hV
  have HS := Lib.hid hs
  clear hs
  go_enter Tryd.func45, Tryd.ntmps45
  go_wp2_with fail
  refine (all_shown s _ HS.out).mono ?_
  rintro e w1 ⟨rfl, hb⟩
  have HB1 := Aside0.mk hb
  clear hb
  cases hg : (bytesOf s).all shownI with
  | false =>
    obtain rfl : V = false := by rw [← hV, hg]; rfl
    clear hV hg
    go_wp2_with fail
    go_ret
    exact ⟨rfl, HB1.out⟩
  | true =>
    have HE := Lib.hid (show ((trimF s).toList == s.toList) = V by rw [text_dec, ← hV, hg]; rfl)
    clear hV hg
    go_wp2_with fail
    refine (trim_calls s _ HS.out).mono ?_
    rintro e w2 ⟨rfl, hb⟩
    have HB2 := Aside0.mk (HB1.out.trans (hb.mono HB1.out.size))
    clear hb HB1
    go_wp2_with fail
    go_ret
    exact ⟨congrArg (fun x => Ending.returned (.bool x)) HE.out, HB2.out⟩
theorem trimL_snoc (m : List Int) (z : Int) : trimL (m ++ [z]) = if trimL m = [] then (if blankI z then [] else [z]) else trimL m ++ [z] := by
  induction m with
  | nil =>
    simp only [trimL, List.nil_append, List.dropWhile_cons, List.dropWhile_nil, if_true]
  | cons a m ih =>
    simp only [trimL, List.cons_append, List.dropWhile_cons]
    cases ha : blankI a with
    | true =>
      simp only [if_true]
      exact ih
    | false => simp
theorem trim_comm (l : List Int) : trimL (trimR l) = trimR (trimL l) := by
  induction h : l.length generalizing l with
  | zero =>
    rw [List.length_eq_zero_iff.1 h]
    rfl
  | succ n ih =>
    rcases List.eq_nil_or_concat l with rfl | ⟨m, z, rfl⟩
    · rfl
    rw [List.concat_eq_append] at h ⊢
    have hm : m.length = n := by simpa using h
    rw [trimR_snoc, trimL_snoc]
    cases hb : blankI z with
    | true =>
      simp only [if_true]
      rw [ih m hm]
      split
      · rename_i h0
        rw [h0]
      · rw [trimR_snoc, hb, if_pos rfl]
    | false =>
      simp only [Bool.false_eq_true, if_false]
      rw [trimL_snoc, hb]
      simp only [Bool.false_eq_true, if_false]
      split
      · rw [show ([z] : List Int) = [] ++ [z] from rfl, trimR_snoc, hb]
        rfl
      · rw [trimR_snoc, hb]
        rfl
theorem headI_drop (l : List Int) (d : Int) (j : Nat) (hj : j < l.length) : (headI (l.drop j) d).length = if l.getD j 0 = d then 0 else (headI (l.drop (j + 1)) d).length + 1 := by
  rw [List.drop_eq_getElem_cons hj]
  have hg : l.getD j 0 = l[j] := by rw [List.getD_eq_getElem?_getD, List.getElem?_eq_getElem hj]; rfl
  rw [hg]
  unfold headI
  rw [List.takeWhile_cons]
  by_cases h : l[j] = d
  · rw [if_pos h, if_neg (by simp [h])]
    rfl
  · rw [if_neg h, if_pos (by simp [h])]
    rfl
set_option maxHeartbeats 8000000 in
set_option maxRecDepth 100000 in
theorem refMedia_calls (s : ByteArray) (w : World) (hs : s.size ≤ 1000000000000) :
    Calls Tryd.prog 29 #[.string s] w fun e w' => e = .returned (.string (mediaF s)) ∧ Below w.heap.size w w' := by
  obtain ⟨n1, hn1⟩ : ∃ n, (headI (bytesOf s) 59).length = n := ⟨_, rfl⟩
  have h1s : n1 ≤ s.size := by rw [← hn1, head_take, ← bytesOf_length s, List.length_take]; omega
  have HN := Lib.hid hn1
  have HS := Lib.hid hs
  have q3 : (s.size : Int) ≤ 1000000000000 := by omega
  clear hs
  go_enter Tryd.func29, Tryd.ntmps29
  go_upto_block 0 with fail
  go_cut [3] (fun v3 wc => v3 = .int .i64 n1 ∧ Aside0 (wc = w))
  case first =>
    go_wp2_with fail
    go_loopg [3] s.size (fun kq v3 w' => ∃ j : Nat, v3 = .int .i64 j ∧ Aside0 (kq + j = s.size) ∧ Aside0 (n1 = j + (headI ((bytesOf s).drop j) 59).length) ∧ Aside0 (w' = w))
    case atStart => exact ⟨0, rfl, ⟨rfl⟩, ⟨by rw [List.drop_zero, hn1]; omega⟩, ⟨rfl⟩⟩
    case round =>
      obtain ⟨j, rfl, HK, HR, HW⟩ := hrel
      obtain rfl := HW.out
      cases gk with
      | zero =>
        obtain rfl : j = s.size := by have := HK.out; omega
        obtain rfl : n1 = s.size := by rw [HR.out, List.drop_of_length_le (by rw [bytesOf_length]; omega)]; rfl
        clear hn1
        go_wp2_with fail
        go_meet
        exact ⟨rfl, ⟨rfl⟩⟩
      | succ k =>
        have hj : j < s.size := by have := HK.out; omega
        have hx := bt_nat s j hj
        have hh := headI_drop (bytesOf s) 59 j (by rw [bytesOf_length]; exact hj)
        rw [bt_getD] at hh
        obtain ⟨c, hc⟩ : ∃ c, bt s (j : Int) = c := ⟨_, rfl⟩
        rw [hc] at hx hh
        have q1 : (0 : Int) ≤ (j : Int) := by omega
        have q2 : (j : Int) < (s.size : Int) := by omega
        clear hc hn1
        by_cases h : c = 59
        · obtain rfl : n1 = j := by rw [HR.out, hh, if_pos h]; rfl
          have d1 : (c != 59) = false := by rw [bne_eq_false_iff_eq]; exact h
          clear hh h
          go_wp2_with fail
          go_meet
          exact ⟨rfl, ⟨rfl⟩⟩
        · have HR2 := Aside0.mk (show n1 = (j + 1) + (headI ((bytesOf s).drop (j + 1)) 59).length by rw [HR.out, hh, if_neg h]; omega)
          have d1 : (c != 59) = true := by rw [bne_iff_ne]; exact h
          clear hh h
          go_wp2_with fail
          go_roundg k
          case measure => omega
          case rel => exact ⟨j + 1, by go_num, ⟨by have := HK.out; omega⟩, HR2, ⟨rfl⟩⟩
  case rest =>
    obtain ⟨rfl, HW⟩ := hcut
    obtain rfl := HW.out.symm
    clear HW hn1
    have HL := Lib.hid (show (bytesOf s).length = s.size from bytesOf_length s)
    go_upto_block 2 with fail
    go_cut [4] (fun v4 wc => ∃ j2 : Nat, v4 = .int .i64 j2 ∧ Aside0 (j2 ≤ n1 ∧ trimL ((bytesOf s).take n1) = ((bytesOf s).take n1).drop j2) ∧ Aside0 (wc = w))
    case first =>
      go_wp2_with fail
      go_loopg [4] n1 (fun kq v4 w' => ∃ j : Nat, v4 = .int .i64 j ∧ Aside0 (kq + j = n1) ∧ Aside0 (trimL (((bytesOf s).take n1).drop j) = trimL ((bytesOf s).take n1)) ∧ Aside0 (w' = w))
      case atStart => exact ⟨0, rfl, ⟨rfl⟩, ⟨rfl⟩, ⟨rfl⟩⟩
      case round =>
        obtain ⟨j, rfl, HK, HR, HW⟩ := hrel
        obtain rfl := HW.out.symm
        clear HW
        cases gk with
        | zero =>
          obtain rfl : j = n1 := by have := HK.out; omega
          have HE := Aside0.mk (show j ≤ j ∧ trimL ((bytesOf s).take j) = ((bytesOf s).take j).drop j from ⟨Nat.le_refl _, by
            rw [← HR.out, List.drop_of_length_le (by rw [List.length_take]; omega)]
            rfl⟩)
          clear HR
          go_wp2_with fail
          go_meet
          exact ⟨j, rfl, HE, ⟨rfl⟩⟩
        | succ k =>
          have hj : j < n1 := by have := HK.out; omega
          have hx := bt_nat s j (by omega)
          obtain ⟨c0, c1⟩ := bt_range s j
          have hd : ((bytesOf s).take n1).drop j = bt s (j : Int) :: ((bytesOf s).take n1).drop (j + 1) := by
            have hl : j < ((bytesOf s).take n1).length := by rw [List.length_take, HL.out]; omega
            rw [List.drop_eq_getElem_cons hl]
            congr 1
            rw [List.getElem_take, ← bt_getD, List.getD_eq_getElem?_getD, List.getElem?_eq_getElem (by rw [HL.out]; omega)]
            rfl
          obtain ⟨c, hc⟩ : ∃ c, bt s (j : Int) = c := ⟨_, rfl⟩
          rw [hc] at hx c0 c1 hd
          have HD := Lib.hid hd
          have q1 : (0 : Int) ≤ (j : Int) := by omega
          have q2 : (j : Int) < (s.size : Int) := by omega
          have q4 : (j : Int) < (n1 : Int) := by omega
          have q5 : j < s.size := by omega
          clear hc hd
          go_wp2_with fail
          refine (blank_calls c _).mono ?_
          rintro e w1 ⟨rfl, hw1⟩
          subst hw1
          cases hg : blankI c with
          | false =>
            have HE := Aside0.mk (show j ≤ n1 ∧ trimL ((bytesOf s).take n1) = ((bytesOf s).take n1).drop j from ⟨by omega, by
              rw [← HR.out, HD.out, trimL, List.dropWhile_cons, hg]
              rfl⟩)
            clear hg
            go_wp2_with fail
            go_meet
            exact ⟨j, rfl, HE, ⟨rfl⟩⟩
          | true =>
            have HR2 := Aside0.mk (show trimL (((bytesOf s).take n1).drop (j + 1)) = trimL ((bytesOf s).take n1) by
              rw [← HR.out, HD.out]
              conv => rhs; rw [trimL, List.dropWhile_cons, hg, if_pos rfl]
              rfl)
            clear hg
            go_wp2_with fail
            go_roundg k
            case measure => omega
            case rel => exact ⟨j + 1, by go_num, ⟨by have := HK.out; omega⟩, HR2, ⟨rfl⟩⟩
    case rest =>
      obtain ⟨j2, rfl, HJ, HW⟩ := hcut
      obtain rfl := HW.out.symm
      clear HW
      have j21 := HJ.out.1
      go_upto_block 4 with fail
      go_cut [3] (fun v3 wc => ∃ e : Nat, v3 = .int .i64 e ∧ Aside0 (j2 ≤ e ∧ e ≤ n1 ∧ trimR (((bytesOf s).take n1).drop j2) = ((bytesOf s).take e).drop j2) ∧ Aside0 (wc = w))
      case first =>
        go_wp2_with fail
        go_loopg [3] (n1 - j2) (fun kq v3 w' => ∃ e : Nat, v3 = .int .i64 e ∧ Aside0 (kq + j2 = e) ∧ Aside0 (e ≤ n1) ∧ Aside0 (trimR (((bytesOf s).take e).drop j2) = trimR (((bytesOf s).take n1).drop j2)) ∧ Aside0 (w' = w))
        case atStart => exact ⟨n1, rfl, ⟨by omega⟩, ⟨Nat.le_refl _⟩, ⟨rfl⟩, ⟨rfl⟩⟩
        case round =>
          obtain ⟨e, rfl, HK, HZ, HR, HW⟩ := hrel
          obtain rfl := HW.out.symm
          clear HW
          cases gk with
          | zero =>
            obtain rfl : j2 = e := by have := HK.out; omega
            have HE := Aside0.mk (show j2 ≤ j2 ∧ j2 ≤ n1 ∧ trimR (((bytesOf s).take n1).drop j2) = ((bytesOf s).take j2).drop j2 from ⟨Nat.le_refl _, j21, by
              rw [← HR.out, List.drop_of_length_le (by rw [List.length_take]; omega)]
              rfl⟩)
            clear HR HJ
            go_wp2_with fail
            go_meet
            exact ⟨j2, rfl, HE, ⟨rfl⟩⟩
          | succ k =>
            have he : j2 < e := by have := HK.out; omega
            have hz := HZ.out
            have hx := bt_nat s (e - 1) (by omega)
            obtain ⟨c0, c1⟩ := bt_range s (e - 1)
            have hd : ((bytesOf s).take e).drop j2 = ((bytesOf s).take (e - 1)).drop j2 ++ [bt s ((e - 1 : Nat) : Int)] := by
              have := take_bytes s (e - 1) (by omega)
              rw [show e - 1 + 1 = e by omega] at this
              rw [this, List.drop_append_of_le_length (by rw [List.length_take, HL.out]; omega)]
            obtain ⟨c, hc⟩ : ∃ c, bt s ((e - 1 : Nat) : Int) = c := ⟨_, rfl⟩
            rw [hc] at hx c0 c1 hd
            have HD := Lib.hid hd
            have hcc : (((e - 1 : Nat)) : Int) = (e : Int) - 1 := by omega
            have q1 : (0 : Int) ≤ (e : Int) - 1 := by omega
            have q2 : (e : Int) - 1 < (s.size : Int) := by omega
            have q4 : (j2 : Int) < (e : Int) := by omega
            have q5 : e - 1 < s.size := by omega
            clear hc hd HJ
            go_wp2_with fail
            refine (blank_calls c _).mono ?_
            rintro r w1 ⟨rfl, hw1⟩
            subst hw1
            cases hg : blankI c with
            | false =>
              have HE := Aside0.mk (show j2 ≤ e ∧ e ≤ n1 ∧ trimR (((bytesOf s).take n1).drop j2) = ((bytesOf s).take e).drop j2 from ⟨by omega, hz, by
                rw [← HR.out, HD.out, trimR_snoc, hg]
                rfl⟩)
              clear hg
              go_wp2_with fail
              go_meet
              exact ⟨e, rfl, HE, ⟨rfl⟩⟩
            | true =>
              have HR2 := Aside0.mk (show trimR (((bytesOf s).take (e - 1)).drop j2) = trimR (((bytesOf s).take n1).drop j2) by
                rw [← HR.out, HD.out, trimR_snoc, hg, if_pos rfl])
              have HCC := Lib.hid hcc
              clear hg hcc
              go_wp2_with fail
              go_roundg k
              case measure => omega
              case rel => exact ⟨e - 1, congrArg (Value.int .i64) HCC.out.symm, ⟨by have := HK.out; omega⟩, ⟨by omega⟩, HR2, ⟨rfl⟩⟩
      case rest =>
        obtain ⟨e, rfl, HE, HW⟩ := hcut
        obtain rfl := HW.out.symm
        clear HW
        obtain ⟨e1, e2, e3⟩ := HE.out
        obtain ⟨t, ht⟩ : ∃ t, s.extract j2 e = t := ⟨_, rfl⟩
        have hb : bytesOf t = trimL (trimR ((bytesOf s).take n1)) := by
          rw [← ht, tb_mid, trim_comm, HJ.out.2, e3, List.drop_take]
        have HF := Lib.hid (show foldS t = mediaF s by
          unfold mediaF trimF
          rw [head_take, HN.out, tb_byt (l := (bytesOf s).take n1) (fun x hx => tb_range s x (List.mem_of_mem_take hx)), ← hb, tb_str])
        have hts : t.size ≤ s.size := by rw [← ht, ByteArray.size_extract]; omega
        have q1 : (j2 : Int) ≤ (e : Int) := by omega
        have q2 : (e : Int) ≤ (s.size : Int) := by omega
        have q4 : e ≤ s.size := by omega
        have q5 : (0 : Int) ≤ (j2 : Int) := by omega
        have q6 : (0 : Int) ≤ (e : Int) := by omega
        clear hb e3 HJ HE
        go_wp2_with fail
        refine (refFold_calls t _ (by have := HS.out; omega)).mono ?_
        rintro r w1 ⟨rfl, hb⟩
        have HB := Aside0.mk hb
        clear hb
        go_wp2_with fail
        go_ret
        exact ⟨congrArg (fun x => Ending.returned (.string x)) HF.out, HB.out⟩
end Go.Proofs.YtdpoookgmckclaaDoor.M
