/- Walk of package dnswrite: Write. -/
import Derived.Test.YtbbeikdbioelgaaMCheck
set_option linter.unusedVariables false
set_option linter.unusedSimpArgs false
namespace Go.Proofs.Ytbbeikdbioelgaa.M
open Go.RowKit Go.Maps Go.Proofs.YtbbeikdbioelgaaW.PrintWords Go.Proofs.YtbbeikdbioelgaaW.PrintLast Go.Proofs.YtbbeikdbioelgaaW.PrintMore
attribute [local go_sem] max2_int min2_int max_two min_two max_three min_three max_four min_four

abbrev WS := List Int × (List UInt8 → Option Int)
/-- The six numbers ahead. -/
def numsOf (m : Msg) : List Int := [m.id, m.flags, (m.qs.length : Int), (m.ans.length : Int), (m.auth.length : Int), (m.add.length : Int)]
def quesF (p : WS) (q : Ques) : WS := ((nameN p q.f0).1 ++ putL q.f1 2 ++ putL q.f2 2, (nameN p q.f0).2)
/-- Records behind what is written, till it is too long. -/
def recsF : List Rec → WS → Option WS
  | [], p => some p
  | r :: l, p => if 65535 < (recordF p r).1.length then none else recsF l (recordF p r)
def quesAll (m : Msg) : WS := m.qs.foldl quesF ((numsOf m).flatMap (fun n => putL n 2), fun _ => none)
def endF : Option WS → ByteArray × Int
  | none => (⟨#[]⟩, 3)
  | some p => if 65535 < p.1.length then (⟨#[]⟩, 3) else (strOfNums p.1, 0)
/-- The bytes of a message, or its error. -/
def writeM (m : Msg) : ByteArray × Int :=
  if checkM m = 0 then
    endF (recsF (m.ans ++ m.auth ++ m.add) (quesAll m))
  else (⟨#[]⟩, checkM m)
theorem num_at (m : Msg) (hm : MsgOk m) (hc : checkM m = 0) (i : Nat) (hi : i < 6) :
    ∃ x : Int, (∀ W : World, (Instr.index 68 (.agg #[.int .i64 m.id, .int .i64 m.flags, .int .i64 m.qs.length, .int .i64 m.ans.length, .int .i64 m.auth.length, .int .i64 m.add.length]) (.int .i64 (i : Int))).run Try.prog W = .ok (.int .i64 x) W) ∧ (numsOf m).getD i 0 = x ∧ 0 ≤ x ∧ x ≤ 65535 := by
  have hl : m.qs.length + m.ans.length + m.auth.length + m.add.length ≤ 256 := by
    unfold checkM at hc
    by_cases h : 256 < m.qs.length + m.ans.length + m.auth.length + m.add.length
    · rw [if_pos h] at hc; exact absurd hc (by decide)
    · omega
  match i, hi with
  | 0, _ => exact ⟨m.id, fun W => by kernel_rfl, rfl, hm.id0, hm.id1⟩
  | 1, _ => exact ⟨m.flags, fun W => by kernel_rfl, rfl, hm.fl0, hm.fl1⟩
  | 2, _ => exact ⟨m.qs.length, fun W => by kernel_rfl, rfl, by omega, by omega⟩
  | 3, _ => exact ⟨m.ans.length, fun W => by kernel_rfl, rfl, by omega, by omega⟩
  | 4, _ => exact ⟨m.auth.length, fun W => by kernel_rfl, rfl, by omega, by omega⟩
  | 5, _ => exact ⟨m.add.length, fun W => by kernel_rfl, rfl, by omega, by omega⟩
theorem check_parts {m : Msg} (hc : checkM m = 0) : m.qs.length + m.ans.length + m.auth.length + m.add.length ≤ 256 ∧ (∀ k, k < m.qs.length → isName (m.qs.getD k zQues).f0 = true) ∧ ∀ r, r ∈ m.ans ++ m.auth ++ m.add → checkF r = 0 := by
  unfold checkM at hc
  by_cases h : 256 < m.qs.length + m.ans.length + m.auth.length + m.add.length
  · rw [if_pos h] at hc; exact absurd hc (by decide)
  rw [if_neg h] at hc
  by_cases h2 : m.qs.any badQ = true
  · rw [if_pos h2] at hc; exact absurd hc (by decide)
  rw [if_neg h2] at hc
  refine ⟨by omega, fun k hk => ?_, ?_⟩
  · have := List.any_eq_false.1 (Bool.eq_false_iff.mpr h2) _ (getD_mem zQues hk)
    unfold badQ at this
    simpa using this
  · generalize m.ans ++ m.auth ++ m.add = l at hc
    induction l with
    | nil => intro r hr; exact absurd hr (by simp)
    | cons a l ih =>
      rw [firstBad] at hc
      by_cases h3 : checkF a = 0
      · rw [if_pos h3] at hc
        intro r hr
        rcases List.mem_cons.1 hr with rfl | hr
        · exact h3
        · exact ih hc r hr
      · rw [if_neg h3] at hc
        exact absurd hc h3
theorem quesF_near (p : WS) (q : Ques) (h : Near p.2) : Near (quesF p q).2 := nameF_near _ _ _ _ h
theorem quesF_len (p : WS) (q : Ques) (h : isName q.f0 = true) : (quesF p q).1.length ≤ p.1.length + 300 := by
  have h2 : (nameN p q.f0).1.length ≤ p.1.length + q.f0.size + 2 := nameF_len (q.f0.size + 1) p.1 p.2 q.f0
  have := isName_size h
  unfold quesF
  simp only [List.length_append, putL_length]
  omega
theorem rep_none : RepS (.map []) (fun _ => none) := fun l => ⟨rfl, fun v hv => absurd hv (by simp)⟩
theorem heap_two (h : Array Obj) (a b : Obj) : ((h.push a).push b)[h.size + 1]? = some b := by
  rw [Array.getElem?_push]
  simp

theorem start_at (w : World) : WAt w ((w.alloc (Obj.map #[] 0)).alloc (Obj.cells #[Value.slice none 0 0, Value.map (some w.heap.size)] 67)) (w.heap.size + 1) w.heap.size [] (fun _ => none) 0 :=
  ⟨⟨.slice none 0 0, by simp only [World.alloc]; exact heap_two _ _ _, Kd.R_nil _ _ _ _ _⟩, ⟨.map [], (World.ownsMap_made w Try.prog 9 (plainElem Try.prog 3)).alloc _, rep_none⟩, by omega, Nat.le_refl _, by omega, ((Below.refl _ _).alloc (Nat.le_refl _) _).alloc (by simp) _⟩
theorem blk_keep {w0 w : World} {g q mb N n : Nat} {out : List Int} {mm : List UInt8 → Option Int} {o : Obj} (h : w0.heap[g]? = some o) (hn : w0.heap.size = n) (hW : WAt w0 w q mb out mm N) : w.heap[g]? = some o := (hW.below.block g (blk_lt h)).trans h
set_option maxHeartbeats 8000000 in
set_option maxRecDepth 100000 in
theorem write_calls (m : Msg) (v : Value) (w : World) (hv : MsgAt w v m) (hm : MsgOk m) :
    Calls Try.prog 16 #[v] w fun e w' => e = .returned (.tuple #[.string (writeM m).1, .int .i64 (writeM m).2]) ∧ Below w.heap.size w w' := by
  have HV := Aside0.mk hv
  obtain ⟨A2, c2, A3, c3, A4, c4, A5, c5, rfl, l2, g2, l3, g3, l4, g4, l5, g5⟩ := hv
  have G2 := Aside0.mk g2
  have G3 := Aside0.mk g3
  have G4 := Aside0.mk g4
  have G5 := Aside0.mk g5
  have HM := Aside0.mk hm
  obtain ⟨R, hR⟩ : ∃ R, writeM m = R := ⟨_, rfl⟩
  rw [hR]
  unfold writeM at hR
  obtain ⟨cc, hcc⟩ : ∃ c, checkM m = c := ⟨_, rfl⟩
  rw [hcc] at hR
  have HC := Lib.hid hcc
  clear g2 g3 g4 g5 hm
  by_cases k0 : cc = 0
  case neg =>
    rw [if_neg k0] at hR
    subst hR
    have hne : (cc != 0) = true := by rw [bne_iff_ne]; exact k0
    clear k0 hcc
    go_enter Try.func16, Try.ntmps16
    go_wp2_with (((with_reducible refine gate_dst (N := 1) rfl ?_); refine box_event rfl (N := 1) rfl (cs := #[.int .u16 m.id, .int .u16 m.flags, .slice A2 m.qs.length c2, .slice A3 m.ans.length c3, .slice A4 m.auth.length c4, .slice A5 m.add.length c5]) (t := 26) (by first | (go_simp; done) | (go_simp; rfl)) ?_; intro g hg w1 hbox hb); have HX := Aside0.mk hbox; have HB := Aside0.mk hb; have HGe := Aside0.mk hg; clear hb hg; have z0 : w1.cell? ⟨g, 0, none⟩ = some (.int .u16 m.id) := (blk_cell HX.out 0).trans rfl; have z1 : w1.cell? ⟨g, 1, none⟩ = some (.int .u16 m.flags) := (blk_cell HX.out 1).trans rfl; have z2 : w1.cell? ⟨g, 2, none⟩ = some (.slice A2 m.qs.length c2) := (blk_cell HX.out 2).trans rfl; have z3 : w1.cell? ⟨g, 3, none⟩ = some (.slice A3 m.ans.length c3) := (blk_cell HX.out 3).trans rfl; have z4 : w1.cell? ⟨g, 4, none⟩ = some (.slice A4 m.auth.length c4) := (blk_cell HX.out 4).trans rfl; have z5 : w1.cell? ⟨g, 5, none⟩ = some (.slice A5 m.add.length c5) := (blk_cell HX.out 5).trans rfl; have hlt : g < w1.heap.size := blk_lt hbox; have hlne : ¬ g = w1.heap.size := Nat.ne_of_lt hlt; clear hbox)
    refine (checkM_calls m _ _ (HV.out.below HB.out) HM.out).mono ?_
    rw [HC.out]
    rintro e w2 ⟨rfl, hb⟩
    have HB2 := Aside0.mk (below_step HB.out hb)
    clear hb
    go_wp2_with fail
    go_ret2
    exact ⟨rfl, HB2.out⟩
  case pos =>
    subst k0
    rw [if_pos rfl] at hR
    have HR := Lib.hid hR
    have HP := Aside0.mk (check_parts hcc)
    have m1 : (m.qs.length : Int) ≤ 256 := by have := HP.out.1; omega
    have m2 : (m.ans.length : Int) ≤ 256 := by have := HP.out.1; omega
    have m3 : (m.auth.length : Int) ≤ 256 := by have := HP.out.1; omega
    have m4 : (m.add.length : Int) ≤ 256 := by have := HP.out.1; omega
    have i0 := HM.out.id0
    have i1 := HM.out.id1
    have i2 := HM.out.fl0
    have i3 := HM.out.fl1
    have hmm := @run_makeMap Try.prog
    clear hR hcc
    go_enter Try.func16, Try.ntmps16
    go_wp2_with (((with_reducible refine gate_dst (N := 1) rfl ?_); refine box_event rfl (N := 1) rfl (cs := #[.int .u16 m.id, .int .u16 m.flags, .slice A2 m.qs.length c2, .slice A3 m.ans.length c3, .slice A4 m.auth.length c4, .slice A5 m.add.length c5]) (t := 26) (by first | (go_simp; done) | (go_simp; rfl)) ?_; intro g hg w1 hbox hb); have HX := Aside0.mk hbox; have HB := Aside0.mk hb; have HGe := Aside0.mk hg; clear hb hg; have z0 : w1.cell? ⟨g, 0, none⟩ = some (.int .u16 m.id) := (blk_cell HX.out 0).trans rfl; have z1 : w1.cell? ⟨g, 1, none⟩ = some (.int .u16 m.flags) := (blk_cell HX.out 1).trans rfl; have z2 : w1.cell? ⟨g, 2, none⟩ = some (.slice A2 m.qs.length c2) := (blk_cell HX.out 2).trans rfl; have z3 : w1.cell? ⟨g, 3, none⟩ = some (.slice A3 m.ans.length c3) := (blk_cell HX.out 3).trans rfl; have z4 : w1.cell? ⟨g, 4, none⟩ = some (.slice A4 m.auth.length c4) := (blk_cell HX.out 4).trans rfl; have z5 : w1.cell? ⟨g, 5, none⟩ = some (.slice A5 m.add.length c5) := (blk_cell HX.out 5).trans rfl; have hlt : g < w1.heap.size := blk_lt hbox; have hlne : ¬ g = w1.heap.size := Nat.ne_of_lt hlt; clear hbox)
    refine (checkM_calls m _ _ (HV.out.below HB.out) HM.out).mono ?_
    rw [HC.out]
    rintro e wc ⟨rfl, hb⟩
    have HX2 := Aside0.mk (blk_below HX.out hb)
    have HB2 := Aside0.mk (below_step HB.out hb)
    have hlt2 : g < wc.heap.size := blk_lt HX2.out
    have hlne2 : ¬ g = wc.heap.size := Nat.ne_of_lt hlt2
    have hlne3 : ¬ g = wc.heap.size + 1 := by omega
    clear hb z0 z1 z2 z3 z4 z5
    have z0 : wc.cell? ⟨g, 0, none⟩ = some (.int .u16 m.id) := (blk_cell HX2.out 0).trans rfl
    have z1 : wc.cell? ⟨g, 1, none⟩ = some (.int .u16 m.flags) := (blk_cell HX2.out 1).trans rfl
    have z2 : wc.cell? ⟨g, 2, none⟩ = some (.slice A2 m.qs.length c2) := (blk_cell HX2.out 2).trans rfl
    have z3 : wc.cell? ⟨g, 3, none⟩ = some (.slice A3 m.ans.length c3) := (blk_cell HX2.out 3).trans rfl
    have z4 : wc.cell? ⟨g, 4, none⟩ = some (.slice A4 m.auth.length c4) := (blk_cell HX2.out 4).trans rfl
    have z5 : wc.cell? ⟨g, 5, none⟩ = some (.slice A5 m.add.length c5) := (blk_cell HX2.out 5).trans rfl
    go_wp2_with fail
    clear hmm z0 z1 z2 z3 z4 z5
    have HW := Aside0.mk (start_at wc)
    generalize hq : wc.heap.size + 1 = q at *
    generalize hmb : wc.heap.size = mb at *
    have HQ := Lib.hid hq
    have HMB := Lib.hid hmb
    clear hq hmb
    generalize (wc.alloc (Obj.map #[] 0)).alloc (Obj.cells #[Value.slice none 0 0, Value.map (some mb)] 67) = ws at *
    go_loopw [41] (fun t wr => ∃ k : Nat, t = .int .i64 k ∧ Aside0 (k ≤ 6) ∧ Aside0 (WAt wc wr q mb (((numsOf m).take k).flatMap (fun n => putL n 2)) (fun _ => none) 0)) (fun t _ => 6 - (intOf t).toNat)
    case atStart => exact ⟨0, rfl, ⟨by decide⟩, HW⟩
    case round =>
      clear HW
      obtain ⟨k, rfl, HK, HW⟩ := hrel
      by_cases hk : k < 6
      · obtain ⟨x, hidx, hx, x0, x1⟩ := num_at m HM.out HC.out k hk
        have HE1 := Aside0.mk (flat_snoc 0 (fun n => putL n 2) (numsOf m) k hk)
        simp only [hx] at HE1
        have q1 : (k : Int) < 6 := by omega
        have q2 : (k : Int) ≤ 6 := by omega
        clear hx
        go_wp2_with fail
        refine (num_calls HW.out x 2 (by decide) (by decide) x0 (by omega) (by have h1 := nums_le (numsOf m) k 2; have : (numsOf m).length = 6 := rfl; omega)).mono ?_
        rintro e w4 ⟨rfl, hw4, _⟩
        have HW4 := Aside0.mk (show WAt wc w4 q mb (((numsOf m).take (k + 1)).flatMap (fun n => putL n 2)) (fun _ => none) 0 by rw [HE1.out]; exact hw4)
        clear hw4
        go_wp2_with fail
        go_roundw
        case rel => exact ⟨k + 1, by go_num, ⟨hk⟩, HW4⟩
        case measure => simp [intOf]; omega
      · have hk' : k = 6 := by have := HK.out; omega
        have HW0 := Aside0.mk (show WAt wc wr q mb ((numsOf m).flatMap (fun n => putL n 2)) (fun _ => none) 0 by have e := HW.out; rw [hk', show (numsOf m).take 6 = numsOf m from rfl] at e; exact e)
        have HXr := Aside0.mk (HX2.out)
        have HX3 := Aside0.mk (blk_keep HX2.out HMB.out HW0.out)
        have q1 : ¬ (k : Int) < 6 := by omega
        clear hk' HW HXr
        have z0 : wr.cell? ⟨g, 0, none⟩ = some (.int .u16 m.id) := (blk_cell HX3.out 0).trans rfl
        have z1 : wr.cell? ⟨g, 1, none⟩ = some (.int .u16 m.flags) := (blk_cell HX3.out 1).trans rfl
        have z2 : wr.cell? ⟨g, 2, none⟩ = some (.slice A2 m.qs.length c2) := (blk_cell HX3.out 2).trans rfl
        have z3 : wr.cell? ⟨g, 3, none⟩ = some (.slice A3 m.ans.length c3) := (blk_cell HX3.out 3).trans rfl
        have z4 : wr.cell? ⟨g, 4, none⟩ = some (.slice A4 m.auth.length c4) := (blk_cell HX3.out 4).trans rfl
        have z5 : wr.cell? ⟨g, 5, none⟩ = some (.slice A5 m.add.length c5) := (blk_cell HX3.out 5).trans rfl
        go_wp2_with fail
        go_loopw [51] (fun t wr => ∃ (k : Nat) (p : WS), t = .int .i64 k ∧ Aside0 (k ≤ m.qs.length) ∧ Aside0 ((m.qs.drop k).foldl quesF p = quesAll m) ∧ Aside0 (Near p.2) ∧ Aside0 (p.1.length ≤ 12 + 300 * k) ∧ Aside0 (WAt wc wr q mb p.1 p.2 (256 * k))) (fun t _ => m.qs.length - (intOf t).toNat)
        case atStart => exact ⟨0, ((numsOf m).flatMap (fun n => putL n 2), fun _ => none), rfl, ⟨Nat.zero_le _⟩, ⟨rfl⟩, ⟨fun l v hl => absurd hl (by simp)⟩, ⟨by have h1 := nums_le (numsOf m) 6 2; rw [show (numsOf m).take 6 = numsOf m from rfl] at h1; have : (numsOf m).length = 6 := rfl; simp only; omega⟩, HW0⟩
        case round =>
          clear HW0 HX3 z0 z1 z2 z3 z4 z5
          obtain ⟨k, p, rfl, HK, HE, HN, HL, HW⟩ := hrel
          by_cases hk : k < m.qs.length
          · obtain ⟨ad, qq, hA, hqq, e0, e1, e2⟩ := at_ques (Kd.C_below G2.out (below_step HB2.out HW.out.below)) k hk
            subst hA
            have p1 : (0 : Int) ≤ (k : Int) := by omega
            have p2 : (k : Int) < (m.qs.length : Int) := by omega
            have he := HE.out
            rw [drop_get zQues m.qs k hk, List.foldl_cons, hqq] at he
            have hnm := HP.out.2.1 k hk
            rw [hqq] at hnm
            obtain ⟨t0, t1, t2, t3⟩ := HM.out.qs qq (by rw [← hqq]; exact getD_mem zQues hk)
            have HE1 := Aside0.mk he
            have HNm := Lib.hid hnm
            have hlq := HW.out.lt
            have HLq := Aside0.mk hlq
            have hls : k ≤ 256 := by omega
            clear he hqq hnm hlq HE
            go_wp2_with fail
            refine (nameN_calls (HW.out.alloc (below_alloc (Below.refl _ _) _)) HN.out qq.f0 HNm.out (by have := HL.out; omega) (by omega)).mono ?_
            rintro e w4 ⟨rfl, hw4, ht4⟩
            have hb4 := ht4.2 wr.heap.size _ _ (blk_new wr _) (by decide) (by have := HLq.out; omega) (by have := HLq.out; omega)
            have x1 : w4.cell? ⟨wr.heap.size, 1, none⟩ = some (.int .u16 qq.f1) := (blk_cell hb4 1).trans rfl
            have HW4 := Aside0.mk hw4
            have HL4 := Aside0.mk (show (nameN p qq.f0).1.length ≤ 12 + 300 * k + 257 by have h2 : (nameN p qq.f0).1.length ≤ p.1.length + qq.f0.size + 2 := nameF_len (qq.f0.size + 1) p.1 p.2 qq.f0; have := isName_size HNm.out; have := HL.out; omega)
            have HB4 := Aside0.mk hb4
            clear hw4 ht4 hb4
            go_wp2_with fail
            refine (num_calls HW4.out qq.f1 2 (by decide) (by decide) t0 (by omega) (by have := HL4.out; omega)).mono ?_
            rintro e w5 ⟨rfl, hw5, ht5⟩
            have hb5 := ht5.2 wr.heap.size _ _ HB4.out (by decide) (by have := HLq.out; omega) (by have := HLq.out; omega)
            have x2 : w5.cell? ⟨wr.heap.size, 2, none⟩ = some (.int .u16 qq.f2) := (blk_cell hb5 2).trans rfl
            have HW5 := Aside0.mk hw5
            clear hw5 ht5 hb5
            go_wp2_with fail
            refine (num_calls HW5.out qq.f2 2 (by decide) (by decide) t2 (by omega) (by have := HL4.out; rw [List.length_append, putL_length]; omega)).mono ?_
            rintro e w6 ⟨rfl, hw6, _⟩
            have HW6 := Aside0.mk (show WAt wc w6 q mb (quesF p qq).1 (quesF p qq).2 (256 * (k + 1)) from hw6.more (by omega))
            clear hw6
            go_wp2_with fail
            go_roundw
            case rel => exact ⟨k + 1, quesF p qq, by go_num, ⟨hk⟩, HE1, ⟨quesF_near p qq HN.out⟩, ⟨by have := quesF_len p qq HNm.out; have := HL.out; omega⟩, HW6⟩
            case measure => simp [intOf]; omega
          · have hk' : k = m.qs.length := by have := HK.out; omega
            have he := HE.out
            rw [hk', List.drop_length, List.foldl_nil] at he
            have HEq := Lib.hid he
            have HX3 := Aside0.mk (blk_keep HX2.out HMB.out HW.out)
            have HL0 := Aside0.mk (show p.1.length ≤ 100000 by have := HL.out; have := HP.out.1; omega)
            have HW0 := Aside0.mk (HW.out.more (N' := 65536) (by have := HP.out.1; omega))
            clear he HE HL HW hk' HK
            have z0 : wr.cell? ⟨g, 0, none⟩ = some (.int .u16 m.id) := (blk_cell HX3.out 0).trans rfl
            have z1 : wr.cell? ⟨g, 1, none⟩ = some (.int .u16 m.flags) := (blk_cell HX3.out 1).trans rfl
            have z2 : wr.cell? ⟨g, 2, none⟩ = some (.slice A2 m.qs.length c2) := (blk_cell HX3.out 2).trans rfl
            have z3 : wr.cell? ⟨g, 3, none⟩ = some (.slice A3 m.ans.length c3) := (blk_cell HX3.out 3).trans rfl
            have z4 : wr.cell? ⟨g, 4, none⟩ = some (.slice A4 m.auth.length c4) := (blk_cell HX3.out 4).trans rfl
            have z5 : wr.cell? ⟨g, 5, none⟩ = some (.slice A5 m.add.length c5) := (blk_cell HX3.out 5).trans rfl
            go_wp2_with fail
            refine (sections_calls m A2 A3 A4 A5 c2 c3 c4 c5 _).mono ?_
            rintro e w5 ⟨rfl, hb⟩
            have HW5 := Aside0.mk (HW0.out.alloc hb)
            clear hb z0 z1 z2 z3 z4 z5 HW0 HX3
            go_wp2_with fail
            go_loopw [72] (fun t wr => ∃ (i c : Nat) (p : WS), t = .int .i64 i ∧ Aside0 (i ≤ 3) ∧ Aside0 (endF (recsF ((secs m).drop i).flatten p) = R) ∧ Aside0 (Near p.2) ∧ Aside0 (p.1.length ≤ 100000) ∧ Aside0 (c + sumL ((secs m).drop i) ≤ 256) ∧ Aside0 (WAt wc wr q mb p.1 p.2 (65536 + 1024 * c))) (fun t _ => 3 - (intOf t).toNat)
            case atStart => exact ⟨0, 0, p, rfl, ⟨by decide⟩, ⟨by rw [← HR.out, ← HEq.out, ← secs_flat]; rfl⟩, HN, HL0, ⟨by have := HP.out.1; simp [sumL, secs]; omega⟩, HW5⟩
            case round =>
              obtain ⟨wo, hwo⟩ : ∃ wo : World, wo = wr := ⟨_, rfl⟩
              subst hwo
              clear HW5 HL0 HN HEq
              obtain ⟨i, c, p, rfl, HI, HE, HN, HL, HS, HW⟩ := hrel
              by_cases hi : i < 3
              · obtain ⟨A, l, cl, hidx, hlc, hlr, hd, hmem, hsec⟩ := sec_at m l3 (Kd.C_below G3.out HB2.out) l4 (Kd.C_below G4.out HB2.out) l5 (Kd.C_below G5.out HB2.out) i hi
                have he := HE.out
                have hs := HS.out
                rw [hd, List.flatten_cons] at he
                rw [hd, sumL, List.map_cons, List.sum_cons] at hs
                have HE1 := Aside0.mk he
                have HS1 := Aside0.mk (show c + l.length + sumL ((secs m).drop (i + 1)) ≤ 256 by unfold sumL; omega)
                have HLR := Aside0.mk hlr
                have HMem := Lib.hid hmem
                have q2 : (i : Int) < 3 := by omega
                have q3 : (i : Int) ≤ 3 := by omega
                have q4 : (l.length : Int) ≤ 256 := by omega
                clear he hd HE hlr hmem hsec hs HS
                go_wp2_with fail
                go_loopw [77] (fun t wr => ∃ (k : Nat) (p : WS), t = .int .i64 k ∧ Aside0 (k ≤ l.length) ∧ Aside0 (endF (recsF (l.drop k ++ ((secs m).drop (i + 1)).flatten) p) = R) ∧ Aside0 (Near p.2) ∧ Aside0 (p.1.length ≤ 100000) ∧ Aside0 (WAt wc wr q mb p.1 p.2 (65536 + 1024 * (c + k)))) (fun t _ => l.length - (intOf t).toNat)
                case atStart => exact ⟨0, p, rfl, ⟨Nat.zero_le _⟩, HE1, HN, HL, HW⟩
                case round =>
                  clear HW HN HL HE1
                  obtain ⟨k, p, rfl, HK, HE, HN, HL, HW⟩ := hrel
                  by_cases hk : k < l.length
                  · obtain ⟨ad, A4', c4', A5', c5', A6, c6, r, hA, hr, e0, e1, e2, e3, e4, e5, e6, hrec⟩ := at_rec HLR.out k hk
                    subst hA
                    have f0 := pw_cell_below HW.out.below e0
                    have f1 := pw_cell_below HW.out.below e1
                    have f2 := pw_cell_below HW.out.below e2
                    have f3 := pw_cell_below HW.out.below e3
                    have f4 := pw_cell_below HW.out.below e4
                    have f5 := pw_cell_below HW.out.below e5
                    have f6 := pw_cell_below HW.out.below e6
                    have p1 : (0 : Int) ≤ (k : Int) := by omega
                    have p2 : (k : Int) < (l.length : Int) := by omega
                    have he := HE.out
                    rw [drop_get zRec l k hk, List.cons_append, recsF, hr] at he
                    have hin := HMem.out _ (getD_mem zRec hk)
                    rw [hr] at hin
                    have HFn := Aside0.mk (HM.out.fine _ hin)
                    have HWf := Aside0.mk (HM.out.wf _ hin)
                    have HCk := Lib.hid (HP.out.2.2 _ hin)
                    have HRec := Aside0.mk hrec
                    have HLn := Aside0.mk (recordF_len p HFn.out HCk.out)
                    have HNr := Aside0.mk (recordF_near p r HN.out)
                    have HcS := HS1.out
                    have hck : c + k ≤ 256 := by omega
                    clear hrec hr e0 e1 e2 e3 e4 e5 e6 hin HE HcS
                    obtain ⟨⟨o, mm⟩, ho⟩ : ∃ x, recordF p r = x := ⟨_, rfl⟩
                    rw [ho] at he HLn HNr
                    have HO := Lib.hid ho
                    clear ho
                    by_cases hbig : 65535 < o.length
                    · rw [if_pos hbig] at he
                      have HF := Lib.hid he
                      have d1 : decide ((65535 : Int) < (o.length : Int)) = true := decide_eq_true (by omega)
                      have d2 : decide (65535 < o.length) = true := decide_eq_true hbig
                      clear he hbig
                      go_wp2_with fail
                      refine (record_calls (HW.out.alloc (below_alloc (Below.refl _ _) _)) HN.out r _ HRec.out HFn.out HWf.out HCk.out (by have := HL.out; omega) (by omega)).mono ?_
                      rw [HO.out]
                      rintro e w6 ⟨rfl, hw6⟩
                      have HW6 := Aside0.mk (show WAt wc w6 q mb o mm (65536 + 1024 * (c + (k + 1))) from hw6.more (by omega))
                      obtain ⟨⟨v, hcell, ho⟩, _⟩ := hw6
                      obtain ⟨A9, c9, rfl, _, _⟩ := Kd.R_reads ho
                      have y0 : w6.cell? ⟨q, 0, none⟩ = some (.slice A9 o.length c9) := (blk_cell hcell 0).trans rfl
                      have HBf := Aside0.mk (HB2.out.trans (HW6.out.below.mono HB2.out.size))
                      clear hcell ho
                      go_wp2_with fail
                      go_ret2
                      exact ⟨by rw [← HF.out]; rfl, HBf.out⟩
                    · rw [if_neg hbig] at he
                      have HE1 := Aside0.mk he
                      have HL1 := Aside0.mk (show o.length ≤ 100000 by omega)
                      have d1 : decide ((65535 : Int) < (o.length : Int)) = false := decide_eq_false (by omega)
                      have d2 : decide (65535 < o.length) = false := decide_eq_false hbig
                      clear he hbig
                      go_wp2_with fail
                      refine (record_calls (HW.out.alloc (below_alloc (Below.refl _ _) _)) HN.out r _ HRec.out HFn.out HWf.out HCk.out (by have := HL.out; omega) (by omega)).mono ?_
                      rw [HO.out]
                      rintro e w6 ⟨rfl, hw6⟩
                      have HW6 := Aside0.mk (show WAt wc w6 q mb o mm (65536 + 1024 * (c + (k + 1))) from hw6.more (by omega))
                      obtain ⟨⟨v, hcell, ho⟩, _⟩ := hw6
                      obtain ⟨A9, c9, rfl, _, _⟩ := Kd.R_reads ho
                      have y0 : w6.cell? ⟨q, 0, none⟩ = some (.slice A9 o.length c9) := (blk_cell hcell 0).trans rfl
                      have HBf := Aside0.mk (HB2.out.trans (HW6.out.below.mono HB2.out.size))
                      clear hcell ho
                      go_wp2_with fail
                      go_roundw
                      case rel => exact ⟨k + 1, (o, mm), by go_num, ⟨hk⟩, HE1, HNr, HL1, HW6⟩
                      case measure => simp [intOf]; omega
                  · have hk' : k = l.length := by have := HK.out; omega
                    have he := HE.out
                    rw [hk', List.drop_length, List.nil_append] at he
                    have HE1 := Aside0.mk he
                    have HW1 := Aside0.mk (show WAt wc wr q mb p.1 p.2 (65536 + 1024 * (c + l.length)) by rw [← hk']; exact HW.out)
                    clear hk' he
                    go_wp2_with fail
                    go_roundw
                    case rel => exact ⟨i + 1, c + l.length, p, by go_num, ⟨hi⟩, HE1, HN, HL, HS1, HW1⟩
                    case measure => simp [intOf]; omega
              · have hi' : i = 3 := by have := HI.out; omega
                have he := HE.out
                rw [hi', show ((secs m).drop 3).flatten = [] from rfl, recsF, endF] at he
                have q2 : ¬ (i : Int) < 3 := by omega
                obtain ⟨⟨v, hcell, ho⟩, _⟩ := HW.out
                obtain ⟨A, c, rfl, _, _⟩ := Kd.R_reads ho
                have y0 : wo.cell? ⟨q, 0, none⟩ = some (.slice A p.1.length c) := (blk_cell hcell 0).trans rfl
                have hcv := strOf ho
                have HBf := Aside0.mk (HB2.out.trans (HW.out.below.mono HB2.out.size))
                clear hi' HE hcell ho
                by_cases hbig : 65535 < p.1.length
                · rw [if_pos hbig] at he
                  have HF := Lib.hid he
                  have d1 : decide ((65535 : Int) < (p.1.length : Int)) = true := decide_eq_true (by omega)
                  have d2 : decide (65535 < p.1.length) = true := decide_eq_true hbig
                  clear he hbig
                  go_wp2_with fail
                  go_ret2
                  exact ⟨by rw [← HF.out]; rfl, HBf.out⟩
                · rw [if_neg hbig] at he
                  have HF := Lib.hid he
                  have d1 : decide ((65535 : Int) < (p.1.length : Int)) = false := decide_eq_false (by omega)
                  have d2 : decide (65535 < p.1.length) = false := decide_eq_false hbig
                  clear he hbig
                  go_wp2_with fail
                  go_ret2
                  exact ⟨by rw [← HF.out]; rfl, HBf.out⟩
end Go.Proofs.Ytbbeikdbioelgaa.M
