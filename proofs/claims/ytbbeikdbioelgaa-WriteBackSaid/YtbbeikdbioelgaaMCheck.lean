/- Walks of package dnswrite: sections, Check. -/
import Derived.Test.YtbbeikdbioelgaaMRec2
set_option linter.unusedVariables false
set_option linter.unusedSimpArgs false
namespace Go.Proofs.Ytbbeikdbioelgaa.M
open Go.RowKit Go.Maps Go.Proofs.YtbbeikdbioelgaaW.PrintWords Go.Proofs.YtbbeikdbioelgaaW.PrintLast Go.Proofs.YtbbeikdbioelgaaW.PrintMore
attribute [local go_sem] max2_int min2_int max_two min_two max_three min_three max_four min_four

theorem results34 : Try.f34.results = #[.cell 2 62] := by kernel_rfl
theorem sections_calls (m : Msg) (A2 A3 A4 A5 : Option Addr) (c2 c3 c4 c5 : Nat) (w : World) :
    Calls Try.prog 34 #[.agg #[.int .u16 m.id, .int .u16 m.flags, .slice A2 m.qs.length c2, .slice A3 m.ans.length c3, .slice A4 m.auth.length c4, .slice A5 m.add.length c5]] w fun e w' => e = .returned (.agg #[.slice A3 m.ans.length c3, .slice A4 m.auth.length c4, .slice A5 m.add.length c5]) ∧ Below w.heap.size w w' := by
  go_enter Try.func34, Try.ntmps34
  go_wp2_with (((with_reducible refine gate_dst (N := 1) rfl ?_); refine box_event rfl (N := 1) rfl (cs := #[.int .u16 m.id, .int .u16 m.flags, .slice A2 m.qs.length c2, .slice A3 m.ans.length c3, .slice A4 m.auth.length c4, .slice A5 m.add.length c5]) (t := 26) (by first | (go_simp; done) | (go_simp; rfl)) ?_; intro g hg w1 hbox hb); have HX := Aside0.mk hbox; have HB := Aside0.mk hb; have HGe := Aside0.mk hg; clear hb hg; have z0 : w1.cell? ⟨g, 0, none⟩ = some (.int .u16 m.id) := (blk_cell HX.out 0).trans rfl; have z1 : w1.cell? ⟨g, 1, none⟩ = some (.int .u16 m.flags) := (blk_cell HX.out 1).trans rfl; have z2 : w1.cell? ⟨g, 2, none⟩ = some (.slice A2 m.qs.length c2) := (blk_cell HX.out 2).trans rfl; have z3 : w1.cell? ⟨g, 3, none⟩ = some (.slice A3 m.ans.length c3) := (blk_cell HX.out 3).trans rfl; have z4 : w1.cell? ⟨g, 4, none⟩ = some (.slice A4 m.auth.length c4) := (blk_cell HX.out 4).trans rfl; have z5 : w1.cell? ⟨g, 5, none⟩ = some (.slice A5 m.add.length c5) := (blk_cell HX.out 5).trans rfl; have hlt : g < w1.heap.size := blk_lt hbox; have hlne : ¬ g = w1.heap.size := Nat.ne_of_lt hlt; clear hbox)
  exact bodyPost_ret (v := .agg #[.slice A3 m.ans.length c3, .slice A4 m.auth.length c4, .slice A5 m.add.length c5]) (by simp [results, results34, go_sem]) rfl ⟨rfl, below_step HB.out (below_alloc (Below.refl _ _) _)⟩
/-- A message whose parts can be gone through. -/
structure MsgOk (m : Msg) : Prop where
  fine : ∀ r, r ∈ m.ans ++ m.auth ++ m.add → Fine r
  wf : ∀ r, r ∈ m.ans ++ m.auth ++ m.add → Wf r
  qs : ∀ q, q ∈ m.qs → 0 ≤ q.f1 ∧ q.f1 ≤ 65535 ∧ 0 ≤ q.f2 ∧ q.f2 ≤ 65535
  id0 : 0 ≤ m.id
  id1 : m.id ≤ 65535
  fl0 : 0 ≤ m.flags
  fl1 : m.flags ≤ 65535
  n0 : m.qs.length ≤ 1000000
  n1 : m.ans.length ≤ 1000000
  n2 : m.auth.length ≤ 1000000
  n3 : m.add.length ≤ 1000000
def secs (m : Msg) : List (List Rec) := [m.ans, m.auth, m.add]
theorem secs_flat (m : Msg) : (secs m).flatten = m.ans ++ m.auth ++ m.add := by simp [secs]
def badQ (q : Ques) : Bool := !isName q.f0
def firstBad : List Rec → Int
  | [] => 0
  | r :: l => if checkF r = 0 then firstBad l else checkF r
/-- May a message be written? -/
def checkM (m : Msg) : Int := if 256 < m.qs.length + m.ans.length + m.auth.length + m.add.length then 6 else if m.qs.any badQ then 40 else firstBad (m.ans ++ m.auth ++ m.add)
/-- A section, by its number. -/
theorem sec_at {w : World} (m : Msg) {A3 A4 A5 : Option Addr} {c3 c4 c5 : Nat} (l3 : m.ans.length ≤ c3) (g3 : kRec.C w A3 m.ans.length m.ans) (l4 : m.auth.length ≤ c4) (g4 : kRec.C w A4 m.auth.length m.auth) (l5 : m.add.length ≤ c5) (g5 : kRec.C w A5 m.add.length m.add) (i : Nat) (hi : i < 3) :
    ∃ A l c, (∀ W : World, (Instr.index 62 (.agg #[.slice A3 m.ans.length c3, .slice A4 m.auth.length c4, .slice A5 m.add.length c5]) (.int .i64 (i : Int))).run Try.prog W = .ok (.slice A (l : List Rec).length c) W) ∧ l.length ≤ c ∧ kRec.C w A l.length l ∧ (secs m).drop i = l :: (secs m).drop (i + 1) ∧ (∀ r, r ∈ l → r ∈ m.ans ++ m.auth ++ m.add) ∧ l ∈ secs m := by
  match i, hi with
  | 0, _ => exact ⟨A3, m.ans, c3, fun W => by kernel_rfl, l3, g3, rfl, fun r hr => by simp [hr], by simp [secs]⟩
  | 1, _ => exact ⟨A4, m.auth, c4, fun W => by kernel_rfl, l4, g4, rfl, fun r hr => by simp [hr], by simp [secs]⟩
  | 2, _ => exact ⟨A5, m.add, c5, fun W => by kernel_rfl, l5, g5, rfl, fun r hr => by simp [hr], by simp [secs]⟩
def sumL (ls : List (List Rec)) : Nat := (ls.map List.length).sum
theorem any_upto {l : List Ques} (h : ∀ j, j < l.length → badQ (l.getD j zQues) = false) : l.any badQ = false := by
  rw [List.any_eq_false]
  intro q hq
  obtain ⟨j, hj, rfl⟩ := List.getElem_of_mem hq
  have := h j hj
  rw [List.getD_eq_getElem?_getD, List.getElem?_eq_getElem hj] at this
  simpa using this
theorem any_at {l : List Ques} {k : Nat} (hk : k < l.length) (h : badQ (l.getD k zQues) = true) : l.any badQ = true := by
  rw [List.any_eq_true]
  refine ⟨l.getD k zQues, ?_, h⟩
  rw [List.getD_eq_getElem?_getD, List.getElem?_eq_getElem hk]
  exact List.getElem_mem hk
theorem getD_mem {α : Type} (z : α) {l : List α} {k : Nat} (hk : k < l.length) : l.getD k z ∈ l := by
  rw [List.getD_eq_getElem?_getD, List.getElem?_eq_getElem hk]
  exact List.getElem_mem hk
set_option maxHeartbeats 4000000 in
set_option maxRecDepth 100000 in
theorem checkM_calls (m : Msg) (v : Value) (w : World) (hv : MsgAt w v m) (hm : MsgOk m) :
    Calls Try.prog 18 #[v] w fun e w' => e = .returned (.int .i64 (checkM m)) ∧ Below w.heap.size w w' := by
  obtain ⟨A2, c2, A3, c3, A4, c4, A5, c5, rfl, l2, g2, l3, g3, l4, g4, l5, g5⟩ := hv
  have G2 := Aside0.mk g2
  have G3 := Aside0.mk g3
  have G4 := Aside0.mk g4
  have G5 := Aside0.mk g5
  have HM := Aside0.mk hm
  have n0 : (m.qs.length : Int) ≤ 1000000 := by have := hm.n0; omega
  have n1 : (m.ans.length : Int) ≤ 1000000 := by have := hm.n1; omega
  have n2 : (m.auth.length : Int) ≤ 1000000 := by have := hm.n2; omega
  have n3 : (m.add.length : Int) ≤ 1000000 := by have := hm.n3; omega
  obtain ⟨R, hR⟩ : ∃ R, checkM m = R := ⟨_, rfl⟩
  rw [hR]
  unfold checkM at hR
  clear g2 g3 g4 g5 hm
  have HR0 := Lib.hid hR
  clear hR
  go_enter Try.func18, Try.ntmps18
  go_wp2_with (((with_reducible refine gate_dst (N := 1) rfl ?_); refine box_event rfl (N := 1) rfl (cs := #[.int .u16 m.id, .int .u16 m.flags, .slice A2 m.qs.length c2, .slice A3 m.ans.length c3, .slice A4 m.auth.length c4, .slice A5 m.add.length c5]) (t := 26) (by first | (go_simp; done) | (go_simp; rfl)) ?_; intro g hg w1 hbox hb); have HX := Aside0.mk hbox; have HB := Aside0.mk hb; have HGe := Aside0.mk hg; clear hb hg; have z0 : w1.cell? ⟨g, 0, none⟩ = some (.int .u16 m.id) := (blk_cell HX.out 0).trans rfl; have z1 : w1.cell? ⟨g, 1, none⟩ = some (.int .u16 m.flags) := (blk_cell HX.out 1).trans rfl; have z2 : w1.cell? ⟨g, 2, none⟩ = some (.slice A2 m.qs.length c2) := (blk_cell HX.out 2).trans rfl; have z3 : w1.cell? ⟨g, 3, none⟩ = some (.slice A3 m.ans.length c3) := (blk_cell HX.out 3).trans rfl; have z4 : w1.cell? ⟨g, 4, none⟩ = some (.slice A4 m.auth.length c4) := (blk_cell HX.out 4).trans rfl; have z5 : w1.cell? ⟨g, 5, none⟩ = some (.slice A5 m.add.length c5) := (blk_cell HX.out 5).trans rfl; have hlt : g < w1.heap.size := blk_lt hbox; have hlne : ¬ g = w1.heap.size := Nat.ne_of_lt hlt; clear hbox)
  refine (sections_calls m A2 A3 A4 A5 c2 c3 c4 c5 _).mono ?_
  rintro e w2 ⟨rfl, hb⟩
  have HX2 := Aside0.mk (blk_below HX.out hb)
  have HB2 := Aside0.mk (below_step HB.out hb)
  clear hb z0 z1 z2 z3 z4 z5
  have z0 : w2.cell? ⟨g, 0, none⟩ = some (.int .u16 m.id) := (blk_cell HX2.out 0).trans rfl
  have z1 : w2.cell? ⟨g, 1, none⟩ = some (.int .u16 m.flags) := (blk_cell HX2.out 1).trans rfl
  have z2 : w2.cell? ⟨g, 2, none⟩ = some (.slice A2 m.qs.length c2) := (blk_cell HX2.out 2).trans rfl
  have z3 : w2.cell? ⟨g, 3, none⟩ = some (.slice A3 m.ans.length c3) := (blk_cell HX2.out 3).trans rfl
  have z4 : w2.cell? ⟨g, 4, none⟩ = some (.slice A4 m.auth.length c4) := (blk_cell HX2.out 4).trans rfl
  have z5 : w2.cell? ⟨g, 5, none⟩ = some (.slice A5 m.add.length c5) := (blk_cell HX2.out 5).trans rfl
  go_wp2_with fail
  go_loop [3, 18] (fun v t => ∃ (k n : Nat), t = .int .i64 k ∧ v = .int .i64 n ∧ Aside0 (k ≤ 3) ∧ Aside0 (n + sumL ((secs m).drop k) = m.qs.length + m.ans.length + m.auth.length + m.add.length)) (fun _ t => 3 - (intOf t).toNat)
  case atStart => exact ⟨0, m.qs.length, rfl, rfl, ⟨by decide⟩, ⟨by simp [sumL, secs]; omega⟩⟩
  case round =>
    obtain ⟨k, n, rfl, rfl, HK, HE⟩ := hrel
    by_cases hk : k < 3
    · obtain ⟨A, l, c, hidx, _, _, hd, _, _⟩ := sec_at m l3 G3.out l4 G4.out l5 G5.out k hk
      have he := HE.out
      rw [hd, sumL, List.map_cons, List.sum_cons] at he
      have HE1 := Aside0.mk (show n + l.length + sumL ((secs m).drop (k + 1)) = m.qs.length + m.ans.length + m.auth.length + m.add.length by unfold sumL; omega)
      have q1 : (n : Int) + (l.length : Int) ≤ 4000000 := by omega
      have q2 : (k : Int) < 3 := by omega
      have q3 : (k : Int) ≤ 3 := by omega
      clear he hd HE
      go_wp2
      go_round
      case rel => exact ⟨k + 1, n + l.length, by go_num, by go_num, ⟨hk⟩, HE1⟩
      case measure => simp [intOf]; omega
    · have hk' : k = 3 := by have := HK.out; omega
      have HN := Lib.hid (show n = m.qs.length + m.ans.length + m.auth.length + m.add.length by have := HE.out; rw [hk'] at this; simpa [sumL, secs] using this)
      have HR := Lib.hid (show (if 256 < n then 6 else if m.qs.any badQ then 40 else firstBad (m.ans ++ m.auth ++ m.add)) = R by rw [HN.out]; exact HR0.out)
      have q3 : ¬ (k : Int) < 3 := by omega
      clear hk' HE HK hk
      by_cases hn : 256 < n
      · have HF := Lib.hid (show R = 6 by have := HR.out; rw [if_pos hn] at this; exact this.symm)
        have d1 : decide ((256 : Int) < (n : Int)) = true := decide_eq_true (by omega)
        have d2 : decide (256 < n) = true := decide_eq_true hn
        clear hn
        go_wp2
        go_ret
        exact ⟨by rw [HF.out]; rfl, HB2.out⟩
      · have HR1 := Lib.hid (show (if m.qs.any badQ then 40 else firstBad (m.ans ++ m.auth ++ m.add)) = R by have := HR.out; rw [if_neg hn] at this; exact this)
        have d1 : decide ((256 : Int) < (n : Int)) = false := decide_eq_false (by omega)
        have d2 : decide (256 < n) = false := decide_eq_false hn
        clear hn HR HN HR0
        go_wp2_with fail
        have HG := Aside0.mk (show w2.heap[g]? = w2.heap[g]? from rfl)
        go_loopw [31] (fun t wr => ∃ k : Nat, t = .int .i64 k ∧ Aside0 (k ≤ m.qs.length) ∧ Aside0 (∀ j, j < k → badQ (m.qs.getD j zQues) = false) ∧ Aside0 (Below w.heap.size w wr) ∧ Aside0 (wr.heap[g]? = w2.heap[g]?)) (fun t _ => m.qs.length - (intOf t).toNat)
        case atStart => exact ⟨0, rfl, ⟨Nat.zero_le _⟩, ⟨fun j hj => absurd hj (by omega)⟩, HB2, HG⟩
        case round =>
          clear HG z0 z1 z2 z3 z4 z5
          obtain ⟨k, rfl, HK, HN, HB, HG⟩ := hrel
          by_cases hk : k < m.qs.length
          · obtain ⟨ad, qq, h2, hq, e0, e1, e2⟩ := at_ques (Kd.C_below G2.out HB.out) k hk
            subst h2
            have p1 : (0 : Int) ≤ (k : Int) := by omega
            have p2 : (k : Int) < (m.qs.length : Int) := by omega
            have HQ := Lib.hid hq
            clear hq
            by_cases hb : isName qq.f0 = true
            · have HN1 := Aside0.mk (upto_succ HN.out (show badQ (m.qs.getD k zQues) = false by rw [HQ.out]; unfold badQ; rw [hb]; rfl))
              have HS := Lib.hid hb
              clear hb
              go_wp2_with fail
              refine (isName_yes qq.f0 _ HS.out).mono ?_
              rintro e w4 ⟨rfl, hb4⟩
              have hb5 := below_step (below_alloc (Below.refl wr.heap.size wr) _) hb4
              have HB4 := Aside0.mk (below_step HB.out hb5)
              have HG4 := Aside0.mk ((hb5.block g (blk_lt (HG.out.trans HX2.out))).trans HG.out)
              clear hb4 hb5
              go_wp2_with fail
              go_roundw
              case rel => exact ⟨k + 1, by go_num, ⟨hk⟩, HN1, HB4, HG4⟩
              case measure => simp [intOf]; omega
            · have hb' : isName qq.f0 = false := by simpa using hb
              have HF := Lib.hid (show R = 40 by have := HR1.out; rw [if_pos (any_at hk (by rw [HQ.out]; unfold badQ; rw [hb']; rfl))] at this; exact this.symm)
              have HS := Lib.hid hb'
              clear hb hb'
              go_wp2_with fail
              refine (isName_no qq.f0 _ HS.out).mono ?_
              rintro e w4 ⟨rfl, hb4⟩
              have HB4 := Aside0.mk (below_step HB.out (below_step (below_alloc (Below.refl wr.heap.size wr) _) hb4))
              clear hb4
              go_wp2_with fail
              go_ret
              exact ⟨by rw [HF.out]; rfl, HB4.out⟩
          · have hk' : k = m.qs.length := by have := HK.out; omega
            have HR2 := Lib.hid (show firstBad (m.ans ++ m.auth ++ m.add) = R by have := HR1.out; rw [if_neg (by rw [any_upto (by rw [← hk']; exact HN.out)]; decide)] at this; exact this)
            have HX3 := Aside0.mk (HG.out.trans HX2.out)
            clear hk' HN HK
            have z0 : wr.cell? ⟨g, 0, none⟩ = some (.int .u16 m.id) := (blk_cell HX3.out 0).trans rfl
            have z1 : wr.cell? ⟨g, 1, none⟩ = some (.int .u16 m.flags) := (blk_cell HX3.out 1).trans rfl
            have z2 : wr.cell? ⟨g, 2, none⟩ = some (.slice A2 m.qs.length c2) := (blk_cell HX3.out 2).trans rfl
            have z3 : wr.cell? ⟨g, 3, none⟩ = some (.slice A3 m.ans.length c3) := (blk_cell HX3.out 3).trans rfl
            have z4 : wr.cell? ⟨g, 4, none⟩ = some (.slice A4 m.auth.length c4) := (blk_cell HX3.out 4).trans rfl
            have z5 : wr.cell? ⟨g, 5, none⟩ = some (.slice A5 m.add.length c5) := (blk_cell HX3.out 5).trans rfl
            go_wp2_with fail
            refine (sections_calls m A2 A3 A4 A5 c2 c3 c4 c5 _).mono ?_
            rintro e w5 ⟨rfl, hb⟩
            have HB5 := Aside0.mk (below_step HB.out hb)
            clear hb z0 z1 z2 z3 z4 z5
            go_wp2_with fail
            go_loopw [42] (fun t wr => ∃ k : Nat, t = .int .i64 k ∧ Aside0 (k ≤ 3) ∧ Aside0 (firstBad ((secs m).drop k).flatten = R) ∧ Aside0 (Below w.heap.size w wr)) (fun t _ => 3 - (intOf t).toNat)
            case atStart => exact ⟨0, rfl, ⟨by decide⟩, ⟨by rw [← HR2.out, ← secs_flat]; rfl⟩, HB5⟩
            case round =>
              obtain ⟨wo, hwo⟩ : ∃ wo : World, wo = wr := ⟨_, rfl⟩
              subst hwo
              clear HB HB2 HB5 HX HX2 HX3 HG hlt hlne
              obtain ⟨i, rfl, HI, HE, HB⟩ := hrel
              by_cases hi : i < 3
              · obtain ⟨A, l, c, hidx, hlc, hlr, hd, hmem, hsec⟩ := sec_at m l3 (Kd.C_below G3.out HB.out) l4 (Kd.C_below G4.out HB.out) l5 (Kd.C_below G5.out HB.out) i hi
                have he := HE.out
                rw [hd, List.flatten_cons] at he
                have HE1 := Aside0.mk he
                have HLR := Aside0.mk hlr
                have HMem := Lib.hid hmem
                have q2 : (i : Int) < 3 := by omega
                have q3 : (i : Int) ≤ 3 := by omega
                have q4 : (l.length : Int) ≤ 1000000 := by
                  have h1 : l = m.ans ∨ l = m.auth ∨ l = m.add := by simpa [secs] using hsec
                  rcases h1 with h1 | h1 | h1 <;> rw [h1] <;> omega
                clear he hd HE hlr hmem hsec
                go_wp2_with fail
                go_loopw [47] (fun t wr => ∃ k : Nat, t = .int .i64 k ∧ Aside0 (k ≤ l.length) ∧ Aside0 (firstBad (l.drop k ++ ((secs m).drop (i + 1)).flatten) = R) ∧ Aside0 (Below w.heap.size w wr) ∧ Aside0 (Below wo.heap.size wo wr)) (fun t _ => l.length - (intOf t).toNat)
                case atStart => exact ⟨0, rfl, ⟨Nat.zero_le _⟩, HE1, HB, ⟨Below.refl _ _⟩⟩
                case round =>
                  clear HB HE1
                  obtain ⟨k, rfl, HK, HE, HB, HBo⟩ := hrel
                  by_cases hk : k < l.length
                  · obtain ⟨ad, A4', c4', A5', c5', A6, c6, r, hA, hr, e0, e1, e2, e3, e4, e5, e6, hrec⟩ := at_rec (Kd.C_below HLR.out HBo.out) k hk
                    subst hA
                    have p1 : (0 : Int) ≤ (k : Int) := by omega
                    have p2 : (k : Int) < (l.length : Int) := by omega
                    have he := HE.out
                    rw [drop_get zRec l k hk, List.cons_append, firstBad, hr] at he
                    have HFn := Aside0.mk (show Fine r by rw [← hr]; exact HM.out.fine _ (HMem.out _ (getD_mem zRec hk)))
                    have HRec := Aside0.mk hrec
                    clear hrec hr
                    by_cases hc : checkF r = 0
                    · rw [if_pos hc] at he
                      have HE1 := Aside0.mk he
                      have HC := Lib.hid hc
                      clear he hc HE
                      go_wp2_with fail
                      refine (check_calls r _ _ (HRec.out.below (below_alloc (Below.refl _ _) _)) HFn.out).mono ?_
                      rw [HC.out]
                      rintro e w6 ⟨rfl, hb6⟩
                      have hb7 := below_step (below_alloc (Below.refl wr.heap.size wr) _) hb6
                      have HB6 := Aside0.mk (below_step HB.out hb7)
                      have HBo6 := Aside0.mk (below_step HBo.out hb7)
                      clear hb6 hb7
                      go_wp2_with fail
                      go_roundw
                      case rel => exact ⟨k + 1, by go_num, ⟨hk⟩, HE1, HB6, HBo6⟩
                      case measure => simp [intOf]; omega
                    · rw [if_neg hc] at he
                      have HC := Lib.hid he
                      have hne : (R != 0) = true := by rw [bne_iff_ne, ← he]; exact hc
                      clear he hc HE
                      go_wp2_with fail
                      refine (check_calls r _ _ (HRec.out.below (below_alloc (Below.refl _ _) _)) HFn.out).mono ?_
                      rw [HC.out]
                      rintro e w6 ⟨rfl, hb6⟩
                      have HB6 := Aside0.mk (below_step HB.out (below_step (below_alloc (Below.refl wr.heap.size wr) _) hb6))
                      clear hb6
                      go_wp2_with fail
                      go_ret
                      exact ⟨rfl, HB6.out⟩
                  · have hk' : k = l.length := by have := HK.out; omega
                    have he := HE.out
                    rw [hk', List.drop_length, List.nil_append] at he
                    have HE1 := Aside0.mk he
                    clear hk' he
                    go_wp2_with fail
                    go_roundw
                    case rel => exact ⟨i + 1, by go_num, ⟨hi⟩, HE1, HB⟩
                    case measure => simp [intOf]; omega
              · have hi' : i = 3 := by have := HI.out; omega
                have HF := Lib.hid (show R = 0 by rw [← HE.out, hi']; rfl)
                have q2 : ¬ (i : Int) < 3 := by omega
                clear hi' HE
                go_wp2
                go_ret
                exact ⟨by rw [HF.out]; rfl, HB.out⟩
end Go.Proofs.Ytbbeikdbioelgaa.M
