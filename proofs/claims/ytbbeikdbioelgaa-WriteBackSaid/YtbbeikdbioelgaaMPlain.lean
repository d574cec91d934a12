/- Walks of package rdata: size, plain, Check, Plain. -/
import Derived.Test.YtbbeikdbioelgaaMShaped
import Derived.Test.YtbbeikdbioelgaaMNum
set_option linter.unusedVariables false
set_option linter.unusedSimpArgs false
namespace Go.Proofs.Ytbbeikdbioelgaa.M
open Go.RowKit Go.Proofs.YtbbeikdbioelgaaW.PrintWords Go.Proofs.YtbbeikdbioelgaaW.PrintLast Go.Proofs.YtbbeikdbioelgaaW.PrintMore
attribute [local go_sem] max2_int min2_int max_two min_two max_three min_three max_four min_four

def sumS (l : List ByteArray) : Nat := (l.map (·.size)).sum
theorem sumS_nil : sumS [] = 0 := rfl
theorem sumS_cons (s : ByteArray) (l : List ByteArray) : sumS (s :: l) = s.size + sumS l := by simp [sumS]
theorem drop_get {α : Type} (z : α) (l : List α) (k : Nat) (h : k < l.length) : l.drop k = l.getD k z :: l.drop (k + 1) := by
  rw [List.drop_eq_getElem_cons h, List.getD_eq_getElem?_getD, List.getElem?_eq_getElem h]
  rfl
def sizeGo : List ByteArray → Nat → Nat
  | [], n => n
  | s :: l, n => if 131070 < n + s.size + 1 then n + s.size + 1 else sizeGo l (n + s.size + 1)
def sizeF (r : Rec) : Nat := sizeGo r.f6 (4 * r.f5.length + sumS r.f4)

set_option maxHeartbeats 2000000 in
set_option maxRecDepth 100000 in
theorem size_calls (r : Rec) (v : Value) (w : World) (hv : RecAt w v r) (hm : 4 * r.f5.length + sumS r.f4 ≤ 1000000000) (ht : ∀ j, j < r.f6.length → (r.f6.getD j ⟨#[]⟩).size ≤ 1000000000) :
    Calls Try.prog 63 #[v] w fun e w' => e = .returned (.int .i64 (sizeF r : Nat)) ∧ Below w.heap.size w w' := by
  obtain ⟨A4, c4, A5, c5, A6, c6, rfl, l4, g4, l5, g5, l6, g6⟩ := hv
  have G4 := Aside0.mk g4
  have G6 := Aside0.mk g6
  have HT := Lib.hid ht
  have m5 : (r.f5.length : Int) ≤ 1000000000 := by omega
  have M6 := g6.2.1
  have M4 := g4.2.1
  have HM := Aside0.mk hm
  clear g4 g5 g6 ht hm
  obtain ⟨R, hR⟩ : ∃ R, sizeF r = R := ⟨_, rfl⟩
  rw [hR]
  have HR := Lib.hid hR
  clear hR
  go_enter Try.func63, Try.ntmps63
  go_wp2_with (((with_reducible refine gate_dst (N := 1) rfl ?_); refine box_event rfl (N := 1) rfl (cs := #[.string r.f0, .int .u16 r.f1, .int .u16 r.f2, .int .u32 r.f3, .slice A4 r.f4.length c4, .slice A5 r.f5.length c5, .slice A6 r.f6.length c6]) (t := 44) (by first | (go_simp; done) | (go_simp; rfl)) ?_; intro g hg w1 hbox hb); obtain ⟨z0, z1⟩ : w1.cell? ⟨g, 1, none⟩ = some (.int .u16 r.f1) ∧ w1.cell? ⟨g, 4, none⟩ = some (.slice A4 r.f4.length c4) := ⟨(blk_cell hbox 1).trans rfl, (blk_cell hbox 4).trans rfl⟩; obtain ⟨z2, z3⟩ : w1.cell? ⟨g, 5, none⟩ = some (.slice A5 r.f5.length c5) ∧ w1.cell? ⟨g, 6, none⟩ = some (.slice A6 r.f6.length c6) := ⟨(blk_cell hbox 5).trans rfl, (blk_cell hbox 6).trans rfl⟩; have HB := Aside0.mk hb; clear hb hbox hg)
  go_loop [3, 15] (fun n t => ∃ (k m : Nat), t = .int .i64 k ∧ n = .int .i64 m ∧ Aside0 (k ≤ r.f4.length) ∧ Aside0 (m + sumS (r.f4.drop k) = 4 * r.f5.length + sumS r.f4)) (fun _ t => r.f4.length - (intOf t).toNat)
  case atStart => exact ⟨0, 4 * r.f5.length, rfl, by simp, ⟨Nat.zero_le _⟩, ⟨by simp⟩⟩
  case round =>
    obtain ⟨k, m, rfl, rfl, HK, HS⟩ := hrel
    by_cases hk : k < r.f4.length
    · obtain ⟨ad, rfl, hcell⟩ := at_str (Kd.C_below G4.out HB.out) k hk
      have hs := HS.out
      rw [drop_get ⟨#[]⟩ r.f4 k hk, sumS_cons] at hs
      obtain ⟨s, hs'⟩ : ∃ s, r.f4.getD k ⟨#[]⟩ = s := ⟨_, rfl⟩
      rw [hs'] at hcell hs
      have HS1 := Aside0.mk (show (m + s.size) + sumS (r.f4.drop (k + 1)) = 4 * r.f5.length + sumS r.f4 by omega)
      have q1 : (0 : Int) ≤ (k : Int) := by omega
      have q2 : (k : Int) < (r.f4.length : Int) := by omega
      have q3 : (m : Int) + (s.size : Int) ≤ 1000000000 := by have := HM.out; omega
      clear hs hs' HS
      go_wp2
      go_round
      case rel => exact ⟨k + 1, m + s.size, by go_num, by go_num, ⟨hk⟩, HS1⟩
      case measure => simp [intOf]; omega
    · have hk' : k = r.f4.length := by have := HK.out; omega
      have hs := HS.out
      rw [hk', List.drop_length, sumS_nil] at hs
      have HR1 := Lib.hid (show sizeGo r.f6 m = R by rw [← HR.out, sizeF, ← hs]; rfl)
      have q3 : (m : Int) ≤ 1000000000 := by have := HM.out; omega
      clear hk' hs HS HR
      go_wp2
      go_loop [3, 27] (fun n t => ∃ (k m : Nat), t = .int .i64 k ∧ n = .int .i64 m ∧ Aside0 (k ≤ r.f6.length) ∧ Aside0 (m ≤ 1000000000) ∧ Aside0 (sizeGo (r.f6.drop k) m = R)) (fun _ t => r.f6.length - (intOf t).toNat)
      case atStart => exact ⟨0, m, rfl, rfl, ⟨Nat.zero_le _⟩, ⟨by omega⟩, ⟨HR1.out⟩⟩
      case round =>
        clear q3
        obtain ⟨k, m, rfl, rfl, HK, HM2, HS⟩ := hrel
        by_cases hk : k < r.f6.length
        · obtain ⟨ad, rfl, hcell⟩ := at_str (Kd.C_below G6.out HB.out) k hk
          have hs := HS.out
          have hl := HT.out k hk
          rw [drop_get ⟨#[]⟩ r.f6 k hk, sizeGo] at hs
          obtain ⟨s, hs'⟩ : ∃ s, r.f6.getD k ⟨#[]⟩ = s := ⟨_, rfl⟩
          rw [hs'] at hcell hs hl
          have q1 : (0 : Int) ≤ (k : Int) := by omega
          have q2 : (k : Int) < (r.f6.length : Int) := by omega
          have q4 : (s.size : Int) + 1 ≤ 1000000001 := by omega
          have q5 : (m : Int) + ((s.size : Int) + 1) ≤ 2000000001 := by have := HM2.out; omega
          by_cases hbig : 131070 < m + s.size + 1
          · rw [if_pos hbig] at hs
            have hbig' : (131070 : Int) < (m : Int) + ((s.size : Int) + 1) := by omega
            have HF := Lib.hid hs
            clear hs hs' HS hbig hl
            go_wp2
            go_ret
            exact ⟨by rw [← HF.out]; go_num, HB.out⟩
          · rw [if_neg hbig] at hs
            have hbig' : decide ((131070 : Int) < (m : Int) + ((s.size : Int) + 1)) = false := decide_eq_false (by omega)
            have HS1 := Aside0.mk hs
            clear hs hs' HS hbig hl
            go_wp2
            go_round
            case rel => exact ⟨k + 1, m + s.size + 1, by go_num, by go_num, ⟨hk⟩, ⟨by have := of_decide_eq_false hbig'; omega⟩, HS1⟩
            case measure => simp [intOf]; omega
        · have hk' : k = r.f6.length := by have := HK.out; omega
          have hs := HS.out
          rw [hk', List.drop_length, sizeGo] at hs
          have HF := Lib.hid hs
          clear hs HS hk'
          go_wp2
          go_ret
          exact ⟨by rw [← HF.out]; rfl, HB.out⟩
def textL (r : Rec) (s : ByteArray) : List Int := (if r.f1 = 16 then [(s.size : Int) % 256] else []) ++ bytesOf s
/-- The bytes of a record's data. -/
def plainL (r : Rec) : List Int :=
  (if r.f1 = 6 then [] else r.f5.flatMap fun n => putL n 2) ++ r.f4.flatMap bytesOf ++ (if r.f1 = 6 then r.f5.flatMap fun n => putL n 4 else []) ++ r.f6.flatMap (textL r)
theorem plainL_six {r : Rec} (h : r.f1 = 6) : plainL r = (([] ++ r.f4.flatMap bytesOf) ++ r.f5.flatMap (fun n => putL n 4)) ++ r.f6.flatMap (textL r) := by unfold plainL; rw [if_pos h, if_pos h]
theorem plainL_not {r : Rec} (h : ¬ r.f1 = 6) : plainL r = (([] ++ r.f5.flatMap (fun n => putL n 2)) ++ r.f4.flatMap bytesOf) ++ r.f6.flatMap (textL r) := by unfold plainL; rw [if_neg h, if_neg h, List.append_nil]; rfl
/-- Nothing of a record is greater than this. -/
structure Small (r : Rec) : Prop where
  names : sumS r.f4 ≤ 1000000
  nums : r.f5.length ≤ 1000000
  texts : sumS r.f6 + r.f6.length ≤ 1000000
  wf : ∀ j, j < r.f5.length → 0 ≤ r.f5.getD j 0 ∧ r.f5.getD j 0 ≤ 4294967295
theorem flat_snoc {α : Type} (z : α) (f : α → List Int) (l : List α) (k : Nat) (h : k < l.length) : (l.take (k + 1)).flatMap f = (l.take k).flatMap f ++ f (l.getD k z) := by
  rw [List.take_succ_eq_append_getElem h, List.flatMap_append, List.getD_eq_getElem?_getD, List.getElem?_eq_getElem h]
  simp

theorem flat_le {α : Type} (f : α → List Int) (g : α → Nat) (hf : ∀ x, (f x).length ≤ g x) (l : List α) (k : Nat) : ((l.take k).flatMap f).length ≤ (l.map g).sum := by
  induction l generalizing k with
  | nil => simp
  | cons a l ih =>
    cases k with
    | zero => simp
    | succ k =>
      simp only [List.take_succ_cons, List.flatMap_cons, List.length_append, List.map_cons, List.sum_cons]
      exact Nat.add_le_add (hf a) (ih k)
theorem nums_le (l : List Int) (k sz : Nat) : ((l.take k).flatMap fun n => putL n sz).length ≤ sz * l.length := by
  refine Nat.le_trans (flat_le _ (fun _ => sz) (fun x => by rw [putL_length]; exact Nat.le_refl _) l k) ?_
  induction l with
  | nil => exact Nat.zero_le _
  | cons a l ih => rw [List.map_cons, List.sum_cons, List.length_cons, Nat.mul_succ]; omega
theorem names_le (l : List ByteArray) (k : Nat) : ((l.take k).flatMap bytesOf).length ≤ sumS l := flat_le bytesOf (·.size) (fun x => by rw [bytesOf_length]; exact Nat.le_refl _) l k
theorem get_le (l : List ByteArray) (k : Nat) : (l.getD k ⟨#[]⟩).size ≤ sumS l := by
  induction l generalizing k with
  | nil => exact Nat.zero_le _
  | cons a l ih =>
    rw [sumS_cons]
    cases k with
    | zero => exact Nat.le_add_right _ _
    | succ k => exact Nat.le_trans (ih k) (Nat.le_add_left _ _)
theorem sum_succ (l : List ByteArray) : (l.map fun s => s.size + 1).sum = sumS l + l.length := by
  induction l with
  | nil => rfl
  | cons a l ih => rw [sumS_cons, List.map_cons, List.sum_cons, List.length_cons, ih]; omega
theorem texts_le (r : Rec) (k : Nat) : ((r.f6.take k).flatMap (textL r)).length ≤ sumS r.f6 + r.f6.length := by
  rw [← sum_succ]
  refine flat_le _ (fun s => s.size + 1) (fun x => ?_) r.f6 k
  show (textL r x).length ≤ x.size + 1
  unfold textL
  rw [List.length_append, bytesOf_length]
  split
  · rw [List.length_singleton]; omega
  · rw [List.length_nil]; omega
set_option maxHeartbeats 4000000 in
set_option maxRecDepth 100000 in
theorem plain_calls (r : Rec) (v : Value) (w : World) (hv : RecAt w v r) (hS : Small r) :
    Calls Try.prog 64 #[v] w fun e w' => ∃ v0, e = .returned v0 ∧ B8 w' w.heap.size (fun _ => True) v0 (plainL r) ∧ Below w.heap.size w w' := by
  obtain ⟨A4, c4, A5, c5, A6, c6, rfl, l4, g4, l5, g5, l6, g6⟩ := hv
  have G4 := Aside0.mk g4
  have G5 := Aside0.mk g5
  have G6 := Aside0.mk g6
  have HS := Aside0.mk hS
  have m5 : (r.f5.length : Int) ≤ 1000000 := by have := hS.nums; omega
  have M6 := g6.2.1
  have M4 := g4.2.1
  clear g4 g5 g6 hS
  obtain ⟨R, hR⟩ : ∃ R, plainL r = R := ⟨_, rfl⟩
  rw [hR]
  have HR := Lib.hid hR
  clear hR
  by_cases t6 : r.f1 = 6
  · have e6 : (r.f1 != 6) = false := by rw [bne_eq_false_iff_eq]; exact t6
    have e7 : (r.f1 == 6) = true := beq_iff_eq.mpr t6
    have T6 := Lib.hid t6
    clear t6
    go_enter Try.func64, Try.ntmps64
    go_wp2_with (((with_reducible refine gate_dst (N := 1) rfl ?_); refine box_event rfl (N := 1) rfl (cs := #[.string r.f0, .int .u16 r.f1, .int .u16 r.f2, .int .u32 r.f3, .slice A4 r.f4.length c4, .slice A5 r.f5.length c5, .slice A6 r.f6.length c6]) (t := 44) (by first | (go_simp; done) | (go_simp; rfl)) ?_; intro g hg w1 hbox hb); obtain ⟨z0, z1⟩ : w1.cell? ⟨g, 1, none⟩ = some (.int .u16 r.f1) ∧ w1.cell? ⟨g, 4, none⟩ = some (.slice A4 r.f4.length c4) := ⟨(blk_cell hbox 1).trans rfl, (blk_cell hbox 4).trans rfl⟩; obtain ⟨z2, z3⟩ : w1.cell? ⟨g, 5, none⟩ = some (.slice A5 r.f5.length c5) ∧ w1.cell? ⟨g, 6, none⟩ = some (.slice A6 r.f6.length c6) := ⟨(blk_cell hbox 5).trans rfl, (blk_cell hbox 6).trans rfl⟩; have HB := Aside0.mk hb; have HX := Aside0.mk hbox; clear hb hg)
    have HO := Aside0.mk (Kd.R_nil (Kd.int .u8) 5 w1 w.heap.size (fun _ => True))
    have HG := Aside0.mk (show w1.heap[g]? = w1.heap[g]? from rfl)
    have HP := Aside0.mk (show ([] : List Int).length ≤ 4000000 by simp)
    clear z0 z1 z2 z3 hbox
    go_loopw [3, 30] (fun v t wr => ∃ (k : Nat) (out : List Int), t = .int .i64 k ∧ Aside0 (k ≤ r.f4.length) ∧ Aside0 (out = [] ++ (r.f4.take k).flatMap bytesOf) ∧ Aside0 (B8 wr w.heap.size (fun _ => True) v out) ∧ Aside0 (wr.heap[g]? = w1.heap[g]?) ∧ Aside0 (Below w.heap.size w wr)) (fun _ t _ => r.f4.length - (intOf t).toNat)
    case atStart => exact ⟨0, _, rfl, ⟨Nat.zero_le _⟩, ⟨by simp⟩, HO, HG, HB⟩
    case round =>
      clear HO HG HB
      obtain ⟨k, out, rfl, HK, HE, HO, HG, HB⟩ := hrel
      by_cases hk : k < r.f4.length
      · obtain ⟨ad, rfl, hcell⟩ := at_str (Kd.C_below G4.out HB.out) k hk
        have q1 : (0 : Int) ≤ (k : Int) := by omega
        have q2 : (k : Int) < (r.f4.length : Int) := by omega
        have HE1 := Aside0.mk (flat_snoc ⟨#[]⟩ bytesOf r.f4 k hk)
        have HLn := Aside0.mk (show out.length + (r.f4.getD k ⟨#[]⟩).size ≤ 140737488355328 by rw [HE.out, List.length_append]; have h1 := names_le r.f4 k; have h2 := HS.out.names; have h3 := HP.out; have h4 := get_le r.f4 k; omega)
        obtain ⟨s, hs⟩ : ∃ s, r.f4.getD k ⟨#[]⟩ = s := ⟨_, rfl⟩
        rw [hs] at HLn
        simp only [hs] at hcell HE1
        clear hs
        go_wp2_with ((with_reducible refine gate_builtin (b := .append) (xs := #[.tmp 34, .tmp 35]) rfl ?_); at_builtin; refine app8s rfl (.tmp 34) (.tmp 35) rfl rfl rfl HO.out HB.out (below_size HB.out) HLn.out ?_; intro v1 w' ho1 hb1 hg1; have HO1 := Aside0.mk ho1; have HG1 := Aside0.mk ((hg1.block g (blk_lt (HG.out.trans HX.out)) (Kd.R_ne HO.out (HG.out.trans HX.out) (by decide))).trans HG.out); have HB1 := Aside0.mk hb1; clear ho1 hb1 hg1)
        go_roundw
        case rel => exact ⟨k + 1, _, by go_num, ⟨hk⟩, ⟨by rw [HE1.out, HE.out]; (simp only [List.append_assoc] <;> rfl)⟩, HO1, HG1, HB1⟩
        case measure => simp [intOf]; omega
      · have hk' : k = r.f4.length := by have := HK.out; omega
        have HE2 := Aside0.mk (show out = ([]) ++ r.f4.flatMap bytesOf by rw [HE.out, hk', List.take_length])
        clear hk' HE
        obtain ⟨z0, z1⟩ : wr.cell? ⟨g, 1, none⟩ = some (.int .u16 r.f1) ∧ wr.cell? ⟨g, 4, none⟩ = some (.slice A4 r.f4.length c4) := ⟨(blk_cell (HG.out.trans HX.out) 1).trans rfl, (blk_cell (HG.out.trans HX.out) 4).trans rfl⟩
        obtain ⟨z2, z3⟩ : wr.cell? ⟨g, 5, none⟩ = some (.slice A5 r.f5.length c5) ∧ wr.cell? ⟨g, 6, none⟩ = some (.slice A6 r.f6.length c6) := ⟨(blk_cell (HG.out.trans HX.out) 5).trans rfl, (blk_cell (HG.out.trans HX.out) 6).trans rfl⟩
        have HP2 := Aside0.mk (show (([]) ++ r.f4.flatMap bytesOf).length ≤ 5000000 by have h1 := names_le r.f4 r.f4.length; rw [List.take_length] at h1; have h2 := HS.out.names; have h3 := HP.out; rw [List.length_append]; omega)
        go_wp2
        rw [HE2.out] at HO
        clear HE2 out
        go_loopw [3, 44] (fun v t wr => ∃ (k : Nat) (out : List Int), t = .int .i64 k ∧ Aside0 (k ≤ r.f5.length) ∧ Aside0 (out = ([] ++ r.f4.flatMap bytesOf) ++ (r.f5.take k).flatMap (fun n => putL n 4)) ∧ Aside0 (B8 wr w.heap.size (fun _ => True) v out) ∧ Aside0 (wr.heap[g]? = w1.heap[g]?) ∧ Aside0 (Below w.heap.size w wr)) (fun _ t _ => r.f5.length - (intOf t).toNat)
        case atStart => exact ⟨0, _, rfl, ⟨Nat.zero_le _⟩, ⟨by simp⟩, HO, HG, HB⟩
        case round =>
          clear HO HG HB z0 z1 z2 z3 HP
          obtain ⟨k, out, rfl, HK, HE, HO, HG, HB⟩ := hrel
          by_cases hk : k < r.f5.length
          · have HP := HP2
            obtain ⟨ad, rfl, hcell⟩ := at_int (Kd.C_below G5.out HB.out) k hk
            have q1 : (0 : Int) ≤ (k : Int) := by omega
            have q2 : (k : Int) < (r.f5.length : Int) := by omega
            obtain ⟨n0, n1⟩ := HS.out.wf k hk
            have HE1 := Aside0.mk (flat_snoc 0 (fun n => putL n 4) r.f5 k hk)
            have HLn := Aside0.mk (show out.length ≤ 1000000000 by rw [HE.out, List.length_append]; have h1 := nums_le r.f5 k 4; have h2 := HS.out.nums; have h3 := HP.out; omega)
            obtain ⟨n, hn⟩ : ∃ n, r.f5.getD k 0 = n := ⟨_, rfl⟩
            rw [hn] at n0 n1
            simp only [hn] at hcell HE1
            clear hn
            obtain ⟨A, c, rfl, hlc, hrc⟩ := Kd.R_reads HO.out
            have HC := Aside0.mk hrc
            have HLC := Aside0.mk hlc
            clear hrc hlc
            go_wp2_with (go_at_call 56; refine (Put_calls A c out n 4 _ HC.out HLC.out HLn.out (by decide) (by decide)).mono ?_; rintro e w' ⟨v1, rfl, ho1, hb1⟩; have HO1 := Aside0.mk (Kd.R_lower ho1 (below_size HB.out)); have HG1 := Aside0.mk ((hb1.block g (blk_lt (HG.out.trans HX.out))).trans HG.out); have HB1 := Aside0.mk (HB.out.trans (hb1.mono (below_size HB.out))); clear ho1 hb1)
            go_roundw
            case rel => exact ⟨k + 1, _, by go_num, ⟨hk⟩, ⟨by rw [HE1.out, HE.out]; (simp only [List.append_assoc] <;> rfl)⟩, HO1, HG1, HB1⟩
            case measure => simp [intOf]; omega
          · have hk' : k = r.f5.length := by have := HK.out; omega
            have HE2 := Aside0.mk (show out = ([] ++ r.f4.flatMap bytesOf) ++ r.f5.flatMap (fun n => putL n 4) by rw [HE.out, hk', List.take_length])
            clear hk' HE
            obtain ⟨z0, z1⟩ : wr.cell? ⟨g, 1, none⟩ = some (.int .u16 r.f1) ∧ wr.cell? ⟨g, 4, none⟩ = some (.slice A4 r.f4.length c4) := ⟨(blk_cell (HG.out.trans HX.out) 1).trans rfl, (blk_cell (HG.out.trans HX.out) 4).trans rfl⟩
            obtain ⟨z2, z3⟩ : wr.cell? ⟨g, 5, none⟩ = some (.slice A5 r.f5.length c5) ∧ wr.cell? ⟨g, 6, none⟩ = some (.slice A6 r.f6.length c6) := ⟨(blk_cell (HG.out.trans HX.out) 5).trans rfl, (blk_cell (HG.out.trans HX.out) 6).trans rfl⟩
            have HP3 := Aside0.mk (show (([] ++ r.f4.flatMap bytesOf) ++ r.f5.flatMap (fun n => putL n 4)).length ≤ 10000000 by have h1 := nums_le r.f5 r.f5.length 4; rw [List.take_length] at h1; have h2 := HS.out.nums; have h3 := HP2.out; rw [List.length_append]; omega)
            go_wp2
            rw [HE2.out] at HO
            clear HE2 out
            go_loopw [3, 56] (fun v t wr => ∃ (k : Nat) (out : List Int), t = .int .i64 k ∧ Aside0 (k ≤ r.f6.length) ∧ Aside0 (out = ([] ++ r.f4.flatMap bytesOf) ++ r.f5.flatMap (fun n => putL n 4) ++ (r.f6.take k).flatMap (textL r)) ∧ Aside0 (B8 wr w.heap.size (fun _ => True) v out) ∧ Aside0 (wr.heap[g]? = w1.heap[g]?) ∧ Aside0 (Below w.heap.size w wr)) (fun _ t _ => r.f6.length - (intOf t).toNat)
            case atStart => exact ⟨0, _, rfl, ⟨Nat.zero_le _⟩, ⟨by simp⟩, HO, HG, HB⟩
            case round =>
              clear HO HG HB z0 z1 z2 z3
              obtain ⟨k, out, rfl, HK, HE, HO, HG, HB⟩ := hrel
              by_cases hk : k < r.f6.length
              · obtain ⟨z0, z1⟩ : wr.cell? ⟨g, 1, none⟩ = some (.int .u16 r.f1) ∧ wr.cell? ⟨g, 4, none⟩ = some (.slice A4 r.f4.length c4) := ⟨(blk_cell (HG.out.trans HX.out) 1).trans rfl, (blk_cell (HG.out.trans HX.out) 4).trans rfl⟩
                obtain ⟨z2, z3⟩ : wr.cell? ⟨g, 5, none⟩ = some (.slice A5 r.f5.length c5) ∧ wr.cell? ⟨g, 6, none⟩ = some (.slice A6 r.f6.length c6) := ⟨(blk_cell (HG.out.trans HX.out) 5).trans rfl, (blk_cell (HG.out.trans HX.out) 6).trans rfl⟩
                obtain ⟨ad, rfl, hcell⟩ := at_str (Kd.C_below G6.out HB.out) k hk
                have q1 : (0 : Int) ≤ (k : Int) := by omega
                have q2 : (k : Int) < (r.f6.length : Int) := by omega
                have HE1 := Aside0.mk (flat_snoc ⟨#[]⟩ (textL r) r.f6 k hk)
                have HLn := Aside0.mk (show out.length + (r.f6.getD k ⟨#[]⟩).size ≤ 130737488355328 by rw [HE.out, List.length_append]; have h1 := texts_le r k; have h2 := HS.out.texts; have h3 := HP3.out; have h4 := get_le r.f6 k; omega)
                obtain ⟨s, hs⟩ : ∃ s, r.f6.getD k ⟨#[]⟩ = s := ⟨_, rfl⟩
                rw [hs] at HLn
                simp only [hs] at hcell HE1
                clear hs
                by_cases t16 : r.f1 = 16
                · have e16 : (r.f1 == 16) = true := beq_iff_eq.mpr t16
                  have HE2 := Aside0.mk (show textL r s = [(s.size : Int) % 256] ++ bytesOf s by unfold textL; rw [if_pos t16])
                  clear t16
                  go_wp2_with (first | ((with_reducible refine gate_builtin (b := .append) (xs := #[.tmp 63, .tmp 67]) rfl ?_); at_builtin; refine app8 (p := (s.size : Int) % 256) rfl (.tmp 63) (.tmp 67) rfl rfl rfl HO.out HB.out (fun _ _ _ => trivial) (below_size HB.out) (by have := HLn.out; omega) ?_; intro v1 w2 ho1 hb1 hg1 _; have HO1 := Aside0.mk ho1; have HG1 := Aside0.mk ((hg1.block g (blk_lt (HG.out.trans HX.out)) (Kd.R_ne HO.out (HG.out.trans HX.out) (by decide))).trans HG.out); have HB1 := Aside0.mk hb1; clear ho1 hb1 hg1) | ((with_reducible refine gate_builtin (b := .append) (xs := #[.tmp 69, .tmp 70]) rfl ?_); at_builtin; refine app8s rfl (.tmp 69) (.tmp 70) rfl rfl rfl HO1.out HB1.out (below_size HB1.out) (by have := HLn.out; rw [List.length_append, List.length_singleton]; omega) ?_; intro v2 w' ho1 hb1 hg1; have HO2 := Aside0.mk ho1; have HG2 := Aside0.mk ((hg1.block g (blk_lt (HG1.out.trans HX.out)) (Kd.R_ne HO1.out (HG1.out.trans HX.out) (by decide))).trans HG1.out); have HB2 := Aside0.mk hb1; clear ho1 hb1 hg1))
                  go_roundw
                  case rel => exact ⟨k + 1, _, by go_num, ⟨hk⟩, ⟨by rw [HE1.out, HE.out, HE2.out]; (simp only [List.append_assoc] <;> rfl)⟩, HO2, HG2, HB2⟩
                  case measure => simp [intOf]; omega
                · have e16 : (r.f1 == 16) = false := beq_eq_false_iff_ne.mpr t16
                  have HE2 := Aside0.mk (show textL r s = bytesOf s by unfold textL; rw [if_neg t16]; rfl)
                  clear t16
                  go_wp2_with ((with_reducible refine gate_builtin (b := .append) (xs := #[.tmp 69, .tmp 70]) rfl ?_); at_builtin; refine app8s rfl (.tmp 69) (.tmp 70) rfl rfl rfl HO.out HB.out (below_size HB.out) (by have := HLn.out; omega) ?_; intro v2 w' ho1 hb1 hg1; have HO2 := Aside0.mk ho1; have HG2 := Aside0.mk ((hg1.block g (blk_lt (HG.out.trans HX.out)) (Kd.R_ne HO.out (HG.out.trans HX.out) (by decide))).trans HG.out); have HB2 := Aside0.mk hb1; clear ho1 hb1 hg1)
                  go_roundw
                  case rel => exact ⟨k + 1, _, by go_num, ⟨hk⟩, ⟨by rw [HE1.out, HE.out, HE2.out]; (simp only [List.append_assoc] <;> rfl)⟩, HO2, HG2, HB2⟩
                  case measure => simp [intOf]; omega
              · have hk' : k = r.f6.length := by have := HK.out; omega
                have HF := Aside0.mk (show out = R by rw [HE.out, hk', List.take_length, ← HR.out]; first | rw [plainL_six T6.out] | rw [plainL_not T6.out])
                clear hk' HE
                go_wp2
                go_ret
                exact ⟨_, rfl, by rw [← HF.out]; exact HO.out, HB.out⟩
  · have e6 : (r.f1 != 6) = true := by rw [bne_iff_ne]; exact t6
    have e7 : (r.f1 == 6) = false := beq_eq_false_iff_ne.mpr t6
    have T6 := Lib.hid t6
    clear t6
    go_enter Try.func64, Try.ntmps64
    go_wp2_with (((with_reducible refine gate_dst (N := 1) rfl ?_); refine box_event rfl (N := 1) rfl (cs := #[.string r.f0, .int .u16 r.f1, .int .u16 r.f2, .int .u32 r.f3, .slice A4 r.f4.length c4, .slice A5 r.f5.length c5, .slice A6 r.f6.length c6]) (t := 44) (by first | (go_simp; done) | (go_simp; rfl)) ?_; intro g hg w1 hbox hb); obtain ⟨z0, z1⟩ : w1.cell? ⟨g, 1, none⟩ = some (.int .u16 r.f1) ∧ w1.cell? ⟨g, 4, none⟩ = some (.slice A4 r.f4.length c4) := ⟨(blk_cell hbox 1).trans rfl, (blk_cell hbox 4).trans rfl⟩; obtain ⟨z2, z3⟩ : w1.cell? ⟨g, 5, none⟩ = some (.slice A5 r.f5.length c5) ∧ w1.cell? ⟨g, 6, none⟩ = some (.slice A6 r.f6.length c6) := ⟨(blk_cell hbox 5).trans rfl, (blk_cell hbox 6).trans rfl⟩; have HB := Aside0.mk hb; have HX := Aside0.mk hbox; clear hb hg)
    have HO := Aside0.mk (Kd.R_nil (Kd.int .u8) 5 w1 w.heap.size (fun _ => True))
    have HG := Aside0.mk (show w1.heap[g]? = w1.heap[g]? from rfl)
    have HP := Aside0.mk (show ([] : List Int).length ≤ 4000000 by simp)
    clear z0 z1 z2 z3 hbox
    go_loopw [3, 18] (fun v t wr => ∃ (k : Nat) (out : List Int), t = .int .i64 k ∧ Aside0 (k ≤ r.f5.length) ∧ Aside0 (out = [] ++ (r.f5.take k).flatMap (fun n => putL n 2)) ∧ Aside0 (B8 wr w.heap.size (fun _ => True) v out) ∧ Aside0 (wr.heap[g]? = w1.heap[g]?) ∧ Aside0 (Below w.heap.size w wr)) (fun _ t _ => r.f5.length - (intOf t).toNat)
    case atStart => exact ⟨0, _, rfl, ⟨Nat.zero_le _⟩, ⟨by simp⟩, HO, HG, HB⟩
    case round =>
      clear HO HG HB
      obtain ⟨k, out, rfl, HK, HE, HO, HG, HB⟩ := hrel
      by_cases hk : k < r.f5.length
      · obtain ⟨ad, rfl, hcell⟩ := at_int (Kd.C_below G5.out HB.out) k hk
        have q1 : (0 : Int) ≤ (k : Int) := by omega
        have q2 : (k : Int) < (r.f5.length : Int) := by omega
        obtain ⟨n0, n1⟩ := HS.out.wf k hk
        have HE1 := Aside0.mk (flat_snoc 0 (fun n => putL n 2) r.f5 k hk)
        have HLn := Aside0.mk (show out.length ≤ 1000000000 by rw [HE.out, List.length_append]; have h1 := nums_le r.f5 k 2; have h2 := HS.out.nums; have h3 := HP.out; omega)
        obtain ⟨n, hn⟩ : ∃ n, r.f5.getD k 0 = n := ⟨_, rfl⟩
        rw [hn] at n0 n1
        simp only [hn] at hcell HE1
        clear hn
        obtain ⟨A, c, rfl, hlc, hrc⟩ := Kd.R_reads HO.out
        have HC := Aside0.mk hrc
        have HLC := Aside0.mk hlc
        clear hrc hlc
        go_wp2_with (go_at_call 56; refine (Put_calls A c out n 2 _ HC.out HLC.out HLn.out (by decide) (by decide)).mono ?_; rintro e w' ⟨v1, rfl, ho1, hb1⟩; have HO1 := Aside0.mk (Kd.R_lower ho1 (below_size HB.out)); have HG1 := Aside0.mk ((hb1.block g (blk_lt (HG.out.trans HX.out))).trans HG.out); have HB1 := Aside0.mk (HB.out.trans (hb1.mono (below_size HB.out))); clear ho1 hb1)
        go_roundw
        case rel => exact ⟨k + 1, _, by go_num, ⟨hk⟩, ⟨by rw [HE1.out, HE.out]; (simp only [List.append_assoc] <;> rfl)⟩, HO1, HG1, HB1⟩
        case measure => simp [intOf]; omega
      · have hk' : k = r.f5.length := by have := HK.out; omega
        have HE2 := Aside0.mk (show out = [] ++ r.f5.flatMap (fun n => putL n 2) by rw [HE.out, hk', List.take_length])
        clear hk' HE
        obtain ⟨z0, z1⟩ : wr.cell? ⟨g, 1, none⟩ = some (.int .u16 r.f1) ∧ wr.cell? ⟨g, 4, none⟩ = some (.slice A4 r.f4.length c4) := ⟨(blk_cell (HG.out.trans HX.out) 1).trans rfl, (blk_cell (HG.out.trans HX.out) 4).trans rfl⟩
        obtain ⟨z2, z3⟩ : wr.cell? ⟨g, 5, none⟩ = some (.slice A5 r.f5.length c5) ∧ wr.cell? ⟨g, 6, none⟩ = some (.slice A6 r.f6.length c6) := ⟨(blk_cell (HG.out.trans HX.out) 5).trans rfl, (blk_cell (HG.out.trans HX.out) 6).trans rfl⟩
        have HP1 := Aside0.mk (show ([] ++ r.f5.flatMap (fun n => putL n 2)).length ≤ 4000000 by have h1 := nums_le r.f5 r.f5.length 2; rw [List.take_length] at h1; have h2 := HS.out.nums; rw [List.nil_append]; omega)
        go_wp2
        rw [HE2.out] at HO
        clear HE2 out
        go_loopw [3, 30] (fun v t wr => ∃ (k : Nat) (out : List Int), t = .int .i64 k ∧ Aside0 (k ≤ r.f4.length) ∧ Aside0 (out = ([] ++ r.f5.flatMap (fun n => putL n 2)) ++ (r.f4.take k).flatMap bytesOf) ∧ Aside0 (B8 wr w.heap.size (fun _ => True) v out) ∧ Aside0 (wr.heap[g]? = w1.heap[g]?) ∧ Aside0 (Below w.heap.size w wr)) (fun _ t _ => r.f4.length - (intOf t).toNat)
        case atStart => exact ⟨0, _, rfl, ⟨Nat.zero_le _⟩, ⟨by simp⟩, HO, HG, HB⟩
        case round =>
          clear HO HG HB HP z0 z1 z2 z3
          obtain ⟨k, out, rfl, HK, HE, HO, HG, HB⟩ := hrel
          by_cases hk : k < r.f4.length
          · obtain ⟨ad, rfl, hcell⟩ := at_str (Kd.C_below G4.out HB.out) k hk
            have q1 : (0 : Int) ≤ (k : Int) := by omega
            have q2 : (k : Int) < (r.f4.length : Int) := by omega
            have HE1 := Aside0.mk (flat_snoc ⟨#[]⟩ bytesOf r.f4 k hk)
            have HLn := Aside0.mk (show out.length + (r.f4.getD k ⟨#[]⟩).size ≤ 140737488355328 by rw [HE.out, List.length_append]; have h1 := names_le r.f4 k; have h2 := HS.out.names; have h3 := HP1.out; have h4 := get_le r.f4 k; omega)
            obtain ⟨s, hs⟩ : ∃ s, r.f4.getD k ⟨#[]⟩ = s := ⟨_, rfl⟩
            rw [hs] at HLn
            simp only [hs] at hcell HE1
            clear hs
            go_wp2_with ((with_reducible refine gate_builtin (b := .append) (xs := #[.tmp 34, .tmp 35]) rfl ?_); at_builtin; refine app8s rfl (.tmp 34) (.tmp 35) rfl rfl rfl HO.out HB.out (below_size HB.out) HLn.out ?_; intro v1 w' ho1 hb1 hg1; have HO1 := Aside0.mk ho1; have HG1 := Aside0.mk ((hg1.block g (blk_lt (HG.out.trans HX.out)) (Kd.R_ne HO.out (HG.out.trans HX.out) (by decide))).trans HG.out); have HB1 := Aside0.mk hb1; clear ho1 hb1 hg1)
            go_roundw
            case rel => exact ⟨k + 1, _, by go_num, ⟨hk⟩, ⟨by rw [HE1.out, HE.out]; (simp only [List.append_assoc] <;> rfl)⟩, HO1, HG1, HB1⟩
            case measure => simp [intOf]; omega
          · have hk' : k = r.f4.length := by have := HK.out; omega
            have HE2 := Aside0.mk (show out = ([] ++ r.f5.flatMap (fun n => putL n 2)) ++ r.f4.flatMap bytesOf by rw [HE.out, hk', List.take_length])
            clear hk' HE
            obtain ⟨z0, z1⟩ : wr.cell? ⟨g, 1, none⟩ = some (.int .u16 r.f1) ∧ wr.cell? ⟨g, 4, none⟩ = some (.slice A4 r.f4.length c4) := ⟨(blk_cell (HG.out.trans HX.out) 1).trans rfl, (blk_cell (HG.out.trans HX.out) 4).trans rfl⟩
            obtain ⟨z2, z3⟩ : wr.cell? ⟨g, 5, none⟩ = some (.slice A5 r.f5.length c5) ∧ wr.cell? ⟨g, 6, none⟩ = some (.slice A6 r.f6.length c6) := ⟨(blk_cell (HG.out.trans HX.out) 5).trans rfl, (blk_cell (HG.out.trans HX.out) 6).trans rfl⟩
            have HP2 := Aside0.mk (show (([] ++ r.f5.flatMap (fun n => putL n 2)) ++ r.f4.flatMap bytesOf).length ≤ 5000000 by have h1 := names_le r.f4 r.f4.length; rw [List.take_length] at h1; have h2 := HS.out.names; have h3 := HP1.out; rw [List.length_append]; omega)
            go_wp2
            rw [HE2.out] at HO
            clear HE2 out
            go_loopw [3, 56] (fun v t wr => ∃ (k : Nat) (out : List Int), t = .int .i64 k ∧ Aside0 (k ≤ r.f6.length) ∧ Aside0 (out = ([] ++ r.f5.flatMap (fun n => putL n 2)) ++ r.f4.flatMap bytesOf ++ (r.f6.take k).flatMap (textL r)) ∧ Aside0 (B8 wr w.heap.size (fun _ => True) v out) ∧ Aside0 (wr.heap[g]? = w1.heap[g]?) ∧ Aside0 (Below w.heap.size w wr)) (fun _ t _ => r.f6.length - (intOf t).toNat)
            case atStart => exact ⟨0, _, rfl, ⟨Nat.zero_le _⟩, ⟨by simp⟩, HO, HG, HB⟩
            case round =>
              clear HO HG HB z0 z1 z2 z3
              obtain ⟨k, out, rfl, HK, HE, HO, HG, HB⟩ := hrel
              by_cases hk : k < r.f6.length
              · obtain ⟨z0, z1⟩ : wr.cell? ⟨g, 1, none⟩ = some (.int .u16 r.f1) ∧ wr.cell? ⟨g, 4, none⟩ = some (.slice A4 r.f4.length c4) := ⟨(blk_cell (HG.out.trans HX.out) 1).trans rfl, (blk_cell (HG.out.trans HX.out) 4).trans rfl⟩
                obtain ⟨z2, z3⟩ : wr.cell? ⟨g, 5, none⟩ = some (.slice A5 r.f5.length c5) ∧ wr.cell? ⟨g, 6, none⟩ = some (.slice A6 r.f6.length c6) := ⟨(blk_cell (HG.out.trans HX.out) 5).trans rfl, (blk_cell (HG.out.trans HX.out) 6).trans rfl⟩
                obtain ⟨ad, rfl, hcell⟩ := at_str (Kd.C_below G6.out HB.out) k hk
                have q1 : (0 : Int) ≤ (k : Int) := by omega
                have q2 : (k : Int) < (r.f6.length : Int) := by omega
                have HE1 := Aside0.mk (flat_snoc ⟨#[]⟩ (textL r) r.f6 k hk)
                have HLn := Aside0.mk (show out.length + (r.f6.getD k ⟨#[]⟩).size ≤ 130737488355328 by rw [HE.out, List.length_append]; have h1 := texts_le r k; have h2 := HS.out.texts; have h3 := HP2.out; have h4 := get_le r.f6 k; omega)
                obtain ⟨s, hs⟩ : ∃ s, r.f6.getD k ⟨#[]⟩ = s := ⟨_, rfl⟩
                rw [hs] at HLn
                simp only [hs] at hcell HE1
                clear hs
                by_cases t16 : r.f1 = 16
                · have e16 : (r.f1 == 16) = true := beq_iff_eq.mpr t16
                  have HE2 := Aside0.mk (show textL r s = [(s.size : Int) % 256] ++ bytesOf s by unfold textL; rw [if_pos t16])
                  clear t16
                  go_wp2_with (first | ((with_reducible refine gate_builtin (b := .append) (xs := #[.tmp 63, .tmp 67]) rfl ?_); at_builtin; refine app8 (p := (s.size : Int) % 256) rfl (.tmp 63) (.tmp 67) rfl rfl rfl HO.out HB.out (fun _ _ _ => trivial) (below_size HB.out) (by have := HLn.out; omega) ?_; intro v1 w2 ho1 hb1 hg1 _; have HO1 := Aside0.mk ho1; have HG1 := Aside0.mk ((hg1.block g (blk_lt (HG.out.trans HX.out)) (Kd.R_ne HO.out (HG.out.trans HX.out) (by decide))).trans HG.out); have HB1 := Aside0.mk hb1; clear ho1 hb1 hg1) | ((with_reducible refine gate_builtin (b := .append) (xs := #[.tmp 69, .tmp 70]) rfl ?_); at_builtin; refine app8s rfl (.tmp 69) (.tmp 70) rfl rfl rfl HO1.out HB1.out (below_size HB1.out) (by have := HLn.out; rw [List.length_append, List.length_singleton]; omega) ?_; intro v2 w' ho1 hb1 hg1; have HO2 := Aside0.mk ho1; have HG2 := Aside0.mk ((hg1.block g (blk_lt (HG1.out.trans HX.out)) (Kd.R_ne HO1.out (HG1.out.trans HX.out) (by decide))).trans HG1.out); have HB2 := Aside0.mk hb1; clear ho1 hb1 hg1))
                  go_roundw
                  case rel => exact ⟨k + 1, _, by go_num, ⟨hk⟩, ⟨by rw [HE1.out, HE.out, HE2.out]; (simp only [List.append_assoc] <;> rfl)⟩, HO2, HG2, HB2⟩
                  case measure => simp [intOf]; omega
                · have e16 : (r.f1 == 16) = false := beq_eq_false_iff_ne.mpr t16
                  have HE2 := Aside0.mk (show textL r s = bytesOf s by unfold textL; rw [if_neg t16]; rfl)
                  clear t16
                  go_wp2_with ((with_reducible refine gate_builtin (b := .append) (xs := #[.tmp 69, .tmp 70]) rfl ?_); at_builtin; refine app8s rfl (.tmp 69) (.tmp 70) rfl rfl rfl HO.out HB.out (below_size HB.out) (by have := HLn.out; omega) ?_; intro v2 w' ho1 hb1 hg1; have HO2 := Aside0.mk ho1; have HG2 := Aside0.mk ((hg1.block g (blk_lt (HG.out.trans HX.out)) (Kd.R_ne HO.out (HG.out.trans HX.out) (by decide))).trans HG.out); have HB2 := Aside0.mk hb1; clear ho1 hb1 hg1)
                  go_roundw
                  case rel => exact ⟨k + 1, _, by go_num, ⟨hk⟩, ⟨by rw [HE1.out, HE.out, HE2.out]; (simp only [List.append_assoc] <;> rfl)⟩, HO2, HG2, HB2⟩
                  case measure => simp [intOf]; omega
              · have hk' : k = r.f6.length := by have := HK.out; omega
                have HF := Aside0.mk (show out = R by rw [HE.out, hk', List.take_length, ← HR.out]; first | rw [plainL_six T6.out] | rw [plainL_not T6.out])
                clear hk' HE
                go_wp2
                go_ret
                exact ⟨_, rfl, by rw [← HF.out]; exact HO.out, HB.out⟩
/-- Is a record right? -/
def checkF (r : Rec) : Int :=
  if isName r.f0 = false then 40 else if r.f4.any notName then 40 else if shapedB r = false then 50 else if 131070 < sizeF r then 50 else if 65535 < (plainL r).length then 50 else
  if 2147483647 < r.f3 ∧ r.f1 ≠ 41 then 1 else 0
/-- What is asked of a record ahead of its check. -/
structure Fine (r : Rec) : Prop where
  len4 : r.f4.length ≤ 1000000000
  names : 4 * r.f5.length + sumS r.f4 ≤ 1000000000
  texts : ∀ j, j < r.f6.length → (r.f6.getD j ⟨#[]⟩).size ≤ 1000000000
  texts2 : r.f6.length ≤ 1000000000
  wf : ∀ j, j < r.f5.length → 0 ≤ r.f5.getD j 0 ∧ r.f5.getD j 0 ≤ 4294967295
theorem sizeGo_le (l : List ByteArray) (n : Nat) (h : sizeGo l n ≤ 131070) : n + sumS l + l.length ≤ 131070 ∨ l = [] := by
  induction l generalizing n with
  | nil => exact .inr rfl
  | cons s l ih =>
    left
    rw [sizeGo] at h
    by_cases hb : 131070 < n + s.size + 1
    · rw [if_pos hb] at h; omega
    · rw [if_neg hb] at h
      rw [sumS_cons, List.length_cons]
      rcases ih _ h with h1 | rfl
      · omega
      · rw [sumS_nil, List.length_nil]; omega
theorem small_of {r : Rec} (hF : Fine r) (h : sizeF r ≤ 131070) (hn : (r.f4.any notName) = false) (hs : shapedB r = true) : Small r := by
  have hs1 := of_decide_eq_true (Bool.and_eq_true_iff.1 hs).1
  obtain ⟨s1, s2, s3⟩ := shapeOf_le r.f1
  have hsz : ∀ s, isName s = true → s.size ≤ 255 := by
    intro s h
    unfold isName split at h
    by_cases hb : 255 < s.size
    · rw [if_pos hb] at h; exact absurd h (by decide)
    · omega
  have hnames : sumS r.f4 ≤ 255 * r.f4.length := by
    generalize r.f4 = l at hn
    induction l with
    | nil => exact Nat.le_refl _
    | cons s l ih =>
      rw [List.any_cons, Bool.or_eq_false_iff] at hn
      have h1 := hsz s (by have := hn.1; unfold notName at this; simpa using this)
      have h2 := ih hn.2
      rw [sumS_cons, List.length_cons]
      omega
  refine ⟨by omega, by omega, ?_, hF.wf⟩
  rcases sizeGo_le _ _ h with h1 | h1
  · omega
  · rw [h1, sumS_nil]; simp

set_option maxHeartbeats 2000000 in
set_option maxRecDepth 100000 in
theorem check_calls (r : Rec) (v : Value) (w : World) (hv : RecAt w v r) (hF : Fine r) :
    Calls Try.prog 41 #[v] w fun e w' => e = .returned (.int .i64 (checkF r)) ∧ Below w.heap.size w w' := by
  have HV := Aside0.mk hv
  obtain ⟨A4, c4, A5, c5, A6, c6, rfl, l4, g4, l5, g5, l6, g6⟩ := hv
  have G4 := Aside0.mk g4
  have HF := Aside0.mk hF
  obtain ⟨R, hR⟩ : ∃ R, checkF r = R := ⟨_, rfl⟩
  rw [hR]
  unfold checkF at hR
  have hl4 := hF.len4
  have hl6 := hF.texts2
  clear g4 g5 g6 hF
  by_cases k1 : isName r.f0 = false
  · rw [if_pos k1] at hR
    subst hR
    have K1 := Lib.hid k1
    clear k1
    go_enter Try.func41, Try.ntmps41
    go_wp2_with (((with_reducible refine gate_dst (N := 1) rfl ?_); refine box_event rfl (N := 1) rfl (cs := #[.string r.f0, .int .u16 r.f1, .int .u16 r.f2, .int .u32 r.f3, .slice A4 r.f4.length c4, .slice A5 r.f5.length c5, .slice A6 r.f6.length c6]) (t := 44) (by first | (go_simp; done) | (go_simp; rfl)) ?_; intro g hg w1 hbox hb); have HX := Aside0.mk hbox; have HB := Aside0.mk hb; clear hb hg; have z0 : w1.cell? ⟨g, 0, none⟩ = some (.string r.f0) := (blk_cell HX.out 0).trans rfl; clear hbox)
    have z0 : w1.cell? ⟨g, 0, none⟩ = some (.string r.f0) := (blk_cell HX.out 0).trans rfl
    have z1 : w1.cell? ⟨g, 1, none⟩ = some (.int .u16 r.f1) := (blk_cell HX.out 1).trans rfl
    have z2 : w1.cell? ⟨g, 2, none⟩ = some (.int .u16 r.f2) := (blk_cell HX.out 2).trans rfl
    have z3 : w1.cell? ⟨g, 3, none⟩ = some (.int .u32 r.f3) := (blk_cell HX.out 3).trans rfl
    have z4 : w1.cell? ⟨g, 4, none⟩ = some (.slice A4 r.f4.length c4) := (blk_cell HX.out 4).trans rfl
    have z5 : w1.cell? ⟨g, 5, none⟩ = some (.slice A5 r.f5.length c5) := (blk_cell HX.out 5).trans rfl
    have z6 : w1.cell? ⟨g, 6, none⟩ = some (.slice A6 r.f6.length c6) := (blk_cell HX.out 6).trans rfl
    refine (isName_no r.f0 _ K1.out).mono ?_
    rintro e w2 ⟨rfl, hb⟩
    have HX2 := Aside0.mk (blk_below HX.out hb)
    have HB2 := Aside0.mk (HB.out.trans (hb.mono (below_size HB.out)))
    clear hb z0 z1 z2 z3 z4 z5 z6
    have z0 : w2.cell? ⟨g, 0, none⟩ = some (.string r.f0) := (blk_cell HX2.out 0).trans rfl
    have z1 : w2.cell? ⟨g, 1, none⟩ = some (.int .u16 r.f1) := (blk_cell HX2.out 1).trans rfl
    have z2 : w2.cell? ⟨g, 2, none⟩ = some (.int .u16 r.f2) := (blk_cell HX2.out 2).trans rfl
    have z3 : w2.cell? ⟨g, 3, none⟩ = some (.int .u32 r.f3) := (blk_cell HX2.out 3).trans rfl
    have z4 : w2.cell? ⟨g, 4, none⟩ = some (.slice A4 r.f4.length c4) := (blk_cell HX2.out 4).trans rfl
    have z5 : w2.cell? ⟨g, 5, none⟩ = some (.slice A5 r.f5.length c5) := (blk_cell HX2.out 5).trans rfl
    have z6 : w2.cell? ⟨g, 6, none⟩ = some (.slice A6 r.f6.length c6) := (blk_cell HX2.out 6).trans rfl
    go_wp2
    go_ret
    exact ⟨rfl, HB2.out⟩
  rw [if_neg k1] at hR
  have K1 := Lib.hid (show isName r.f0 = true by simpa using k1)
  clear k1
  by_cases k2 : r.f4.any notName = true
  · rw [if_pos k2] at hR
    subst hR
    have K2 := Lib.hid k2
    clear k2
    go_enter Try.func41, Try.ntmps41
    go_wp2_with (((with_reducible refine gate_dst (N := 1) rfl ?_); refine box_event rfl (N := 1) rfl (cs := #[.string r.f0, .int .u16 r.f1, .int .u16 r.f2, .int .u32 r.f3, .slice A4 r.f4.length c4, .slice A5 r.f5.length c5, .slice A6 r.f6.length c6]) (t := 44) (by first | (go_simp; done) | (go_simp; rfl)) ?_; intro g hg w1 hbox hb); have HX := Aside0.mk hbox; have HB := Aside0.mk hb; clear hb hg; have z0 : w1.cell? ⟨g, 0, none⟩ = some (.string r.f0) := (blk_cell HX.out 0).trans rfl; clear hbox)
    have z0 : w1.cell? ⟨g, 0, none⟩ = some (.string r.f0) := (blk_cell HX.out 0).trans rfl
    have z1 : w1.cell? ⟨g, 1, none⟩ = some (.int .u16 r.f1) := (blk_cell HX.out 1).trans rfl
    have z2 : w1.cell? ⟨g, 2, none⟩ = some (.int .u16 r.f2) := (blk_cell HX.out 2).trans rfl
    have z3 : w1.cell? ⟨g, 3, none⟩ = some (.int .u32 r.f3) := (blk_cell HX.out 3).trans rfl
    have z4 : w1.cell? ⟨g, 4, none⟩ = some (.slice A4 r.f4.length c4) := (blk_cell HX.out 4).trans rfl
    have z5 : w1.cell? ⟨g, 5, none⟩ = some (.slice A5 r.f5.length c5) := (blk_cell HX.out 5).trans rfl
    have z6 : w1.cell? ⟨g, 6, none⟩ = some (.slice A6 r.f6.length c6) := (blk_cell HX.out 6).trans rfl
    refine (isName_yes r.f0 _ K1.out).mono ?_
    rintro e w2 ⟨rfl, hb⟩
    have HX2 := Aside0.mk (blk_below HX.out hb)
    have HB2 := Aside0.mk (HB.out.trans (hb.mono (below_size HB.out)))
    clear hb z0 z1 z2 z3 z4 z5 z6
    have z0 : w2.cell? ⟨g, 0, none⟩ = some (.string r.f0) := (blk_cell HX2.out 0).trans rfl
    have z1 : w2.cell? ⟨g, 1, none⟩ = some (.int .u16 r.f1) := (blk_cell HX2.out 1).trans rfl
    have z2 : w2.cell? ⟨g, 2, none⟩ = some (.int .u16 r.f2) := (blk_cell HX2.out 2).trans rfl
    have z3 : w2.cell? ⟨g, 3, none⟩ = some (.int .u32 r.f3) := (blk_cell HX2.out 3).trans rfl
    have z4 : w2.cell? ⟨g, 4, none⟩ = some (.slice A4 r.f4.length c4) := (blk_cell HX2.out 4).trans rfl
    have z5 : w2.cell? ⟨g, 5, none⟩ = some (.slice A5 r.f5.length c5) := (blk_cell HX2.out 5).trans rfl
    have z6 : w2.cell? ⟨g, 6, none⟩ = some (.slice A6 r.f6.length c6) := (blk_cell HX2.out 6).trans rfl
    go_wp2_with fail
    refine (Contains_notName A4 c4 r.f4 _ (Kd.C_below G4.out HB2.out) (by omega) _ K2.out).mono ?_
    rintro e w3 ⟨rfl, hb⟩
    have HX3 := Aside0.mk (blk_below HX2.out hb)
    have HB3 := Aside0.mk (HB2.out.trans (hb.mono (below_size HB2.out)))
    clear hb z0 z1 z2 z3 z4 z5 z6
    have z0 : w3.cell? ⟨g, 0, none⟩ = some (.string r.f0) := (blk_cell HX3.out 0).trans rfl
    have z1 : w3.cell? ⟨g, 1, none⟩ = some (.int .u16 r.f1) := (blk_cell HX3.out 1).trans rfl
    have z2 : w3.cell? ⟨g, 2, none⟩ = some (.int .u16 r.f2) := (blk_cell HX3.out 2).trans rfl
    have z3 : w3.cell? ⟨g, 3, none⟩ = some (.int .u32 r.f3) := (blk_cell HX3.out 3).trans rfl
    have z4 : w3.cell? ⟨g, 4, none⟩ = some (.slice A4 r.f4.length c4) := (blk_cell HX3.out 4).trans rfl
    have z5 : w3.cell? ⟨g, 5, none⟩ = some (.slice A5 r.f5.length c5) := (blk_cell HX3.out 5).trans rfl
    have z6 : w3.cell? ⟨g, 6, none⟩ = some (.slice A6 r.f6.length c6) := (blk_cell HX3.out 6).trans rfl
    go_wp2
    go_ret
    exact ⟨rfl, HB3.out⟩
  rw [if_neg k2] at hR
  replace k2 := Bool.eq_false_iff.mpr k2
  have K2 := Lib.hid k2
  by_cases k3 : shapedB r = false
  · rw [if_pos k3] at hR
    subst hR
    have K3 := Lib.hid k3
    clear k3 k2
    go_enter Try.func41, Try.ntmps41
    go_wp2_with (((with_reducible refine gate_dst (N := 1) rfl ?_); refine box_event rfl (N := 1) rfl (cs := #[.string r.f0, .int .u16 r.f1, .int .u16 r.f2, .int .u32 r.f3, .slice A4 r.f4.length c4, .slice A5 r.f5.length c5, .slice A6 r.f6.length c6]) (t := 44) (by first | (go_simp; done) | (go_simp; rfl)) ?_; intro g hg w1 hbox hb); have HX := Aside0.mk hbox; have HB := Aside0.mk hb; clear hb hg; have z0 : w1.cell? ⟨g, 0, none⟩ = some (.string r.f0) := (blk_cell HX.out 0).trans rfl; clear hbox)
    have z0 : w1.cell? ⟨g, 0, none⟩ = some (.string r.f0) := (blk_cell HX.out 0).trans rfl
    have z1 : w1.cell? ⟨g, 1, none⟩ = some (.int .u16 r.f1) := (blk_cell HX.out 1).trans rfl
    have z2 : w1.cell? ⟨g, 2, none⟩ = some (.int .u16 r.f2) := (blk_cell HX.out 2).trans rfl
    have z3 : w1.cell? ⟨g, 3, none⟩ = some (.int .u32 r.f3) := (blk_cell HX.out 3).trans rfl
    have z4 : w1.cell? ⟨g, 4, none⟩ = some (.slice A4 r.f4.length c4) := (blk_cell HX.out 4).trans rfl
    have z5 : w1.cell? ⟨g, 5, none⟩ = some (.slice A5 r.f5.length c5) := (blk_cell HX.out 5).trans rfl
    have z6 : w1.cell? ⟨g, 6, none⟩ = some (.slice A6 r.f6.length c6) := (blk_cell HX.out 6).trans rfl
    refine (isName_yes r.f0 _ K1.out).mono ?_
    rintro e w2 ⟨rfl, hb⟩
    have HX2 := Aside0.mk (blk_below HX.out hb)
    have HB2 := Aside0.mk (HB.out.trans (hb.mono (below_size HB.out)))
    clear hb z0 z1 z2 z3 z4 z5 z6
    have z0 : w2.cell? ⟨g, 0, none⟩ = some (.string r.f0) := (blk_cell HX2.out 0).trans rfl
    have z1 : w2.cell? ⟨g, 1, none⟩ = some (.int .u16 r.f1) := (blk_cell HX2.out 1).trans rfl
    have z2 : w2.cell? ⟨g, 2, none⟩ = some (.int .u16 r.f2) := (blk_cell HX2.out 2).trans rfl
    have z3 : w2.cell? ⟨g, 3, none⟩ = some (.int .u32 r.f3) := (blk_cell HX2.out 3).trans rfl
    have z4 : w2.cell? ⟨g, 4, none⟩ = some (.slice A4 r.f4.length c4) := (blk_cell HX2.out 4).trans rfl
    have z5 : w2.cell? ⟨g, 5, none⟩ = some (.slice A5 r.f5.length c5) := (blk_cell HX2.out 5).trans rfl
    have z6 : w2.cell? ⟨g, 6, none⟩ = some (.slice A6 r.f6.length c6) := (blk_cell HX2.out 6).trans rfl
    go_wp2_with fail
    refine (Contains_notName A4 c4 r.f4 _ (Kd.C_below G4.out HB2.out) (by omega) _ K2.out).mono ?_
    rintro e w3 ⟨rfl, hb⟩
    have HX3 := Aside0.mk (blk_below HX2.out hb)
    have HB3 := Aside0.mk (HB2.out.trans (hb.mono (below_size HB2.out)))
    clear hb z0 z1 z2 z3 z4 z5 z6
    have z0 : w3.cell? ⟨g, 0, none⟩ = some (.string r.f0) := (blk_cell HX3.out 0).trans rfl
    have z1 : w3.cell? ⟨g, 1, none⟩ = some (.int .u16 r.f1) := (blk_cell HX3.out 1).trans rfl
    have z2 : w3.cell? ⟨g, 2, none⟩ = some (.int .u16 r.f2) := (blk_cell HX3.out 2).trans rfl
    have z3 : w3.cell? ⟨g, 3, none⟩ = some (.int .u32 r.f3) := (blk_cell HX3.out 3).trans rfl
    have z4 : w3.cell? ⟨g, 4, none⟩ = some (.slice A4 r.f4.length c4) := (blk_cell HX3.out 4).trans rfl
    have z5 : w3.cell? ⟨g, 5, none⟩ = some (.slice A5 r.f5.length c5) := (blk_cell HX3.out 5).trans rfl
    have z6 : w3.cell? ⟨g, 6, none⟩ = some (.slice A6 r.f6.length c6) := (blk_cell HX3.out 6).trans rfl
    go_wp2_with fail
    refine (shaped_calls r _ _ (HV.out.below HB3.out) (by omega)).mono ?_
    rw [K3.out]
    rintro e w4 ⟨rfl, hb⟩
    have HX4 := Aside0.mk (blk_below HX3.out hb)
    have HB4 := Aside0.mk (HB3.out.trans (hb.mono (below_size HB3.out)))
    clear hb z0 z1 z2 z3 z4 z5 z6
    have z0 : w4.cell? ⟨g, 0, none⟩ = some (.string r.f0) := (blk_cell HX4.out 0).trans rfl
    have z1 : w4.cell? ⟨g, 1, none⟩ = some (.int .u16 r.f1) := (blk_cell HX4.out 1).trans rfl
    have z2 : w4.cell? ⟨g, 2, none⟩ = some (.int .u16 r.f2) := (blk_cell HX4.out 2).trans rfl
    have z3 : w4.cell? ⟨g, 3, none⟩ = some (.int .u32 r.f3) := (blk_cell HX4.out 3).trans rfl
    have z4 : w4.cell? ⟨g, 4, none⟩ = some (.slice A4 r.f4.length c4) := (blk_cell HX4.out 4).trans rfl
    have z5 : w4.cell? ⟨g, 5, none⟩ = some (.slice A5 r.f5.length c5) := (blk_cell HX4.out 5).trans rfl
    have z6 : w4.cell? ⟨g, 6, none⟩ = some (.slice A6 r.f6.length c6) := (blk_cell HX4.out 6).trans rfl
    go_wp2
    go_ret
    exact ⟨rfl, HB4.out⟩
  rw [if_neg k3] at hR
  replace k3 : shapedB r = true := by simpa using k3
  have K3 := Lib.hid k3
  obtain ⟨n, hn⟩ : ∃ n, sizeF r = n := ⟨_, rfl⟩
  rw [hn] at hR
  have K4 := Lib.hid hn
  by_cases k4 : 131070 < n
  · rw [if_pos k4] at hR
    subst hR
    have d4 : decide ((131070 : Int) < (n : Int)) = true := decide_eq_true (by omega)
    have d4' : decide (131070 < n) = true := decide_eq_true k4
    clear k4 k3 k2 hn
    go_enter Try.func41, Try.ntmps41
    go_wp2_with (((with_reducible refine gate_dst (N := 1) rfl ?_); refine box_event rfl (N := 1) rfl (cs := #[.string r.f0, .int .u16 r.f1, .int .u16 r.f2, .int .u32 r.f3, .slice A4 r.f4.length c4, .slice A5 r.f5.length c5, .slice A6 r.f6.length c6]) (t := 44) (by first | (go_simp; done) | (go_simp; rfl)) ?_; intro g hg w1 hbox hb); have HX := Aside0.mk hbox; have HB := Aside0.mk hb; clear hb hg; have z0 : w1.cell? ⟨g, 0, none⟩ = some (.string r.f0) := (blk_cell HX.out 0).trans rfl; clear hbox)
    have z0 : w1.cell? ⟨g, 0, none⟩ = some (.string r.f0) := (blk_cell HX.out 0).trans rfl
    have z1 : w1.cell? ⟨g, 1, none⟩ = some (.int .u16 r.f1) := (blk_cell HX.out 1).trans rfl
    have z2 : w1.cell? ⟨g, 2, none⟩ = some (.int .u16 r.f2) := (blk_cell HX.out 2).trans rfl
    have z3 : w1.cell? ⟨g, 3, none⟩ = some (.int .u32 r.f3) := (blk_cell HX.out 3).trans rfl
    have z4 : w1.cell? ⟨g, 4, none⟩ = some (.slice A4 r.f4.length c4) := (blk_cell HX.out 4).trans rfl
    have z5 : w1.cell? ⟨g, 5, none⟩ = some (.slice A5 r.f5.length c5) := (blk_cell HX.out 5).trans rfl
    have z6 : w1.cell? ⟨g, 6, none⟩ = some (.slice A6 r.f6.length c6) := (blk_cell HX.out 6).trans rfl
    refine (isName_yes r.f0 _ K1.out).mono ?_
    rintro e w2 ⟨rfl, hb⟩
    have HX2 := Aside0.mk (blk_below HX.out hb)
    have HB2 := Aside0.mk (HB.out.trans (hb.mono (below_size HB.out)))
    clear hb z0 z1 z2 z3 z4 z5 z6
    have z0 : w2.cell? ⟨g, 0, none⟩ = some (.string r.f0) := (blk_cell HX2.out 0).trans rfl
    have z1 : w2.cell? ⟨g, 1, none⟩ = some (.int .u16 r.f1) := (blk_cell HX2.out 1).trans rfl
    have z2 : w2.cell? ⟨g, 2, none⟩ = some (.int .u16 r.f2) := (blk_cell HX2.out 2).trans rfl
    have z3 : w2.cell? ⟨g, 3, none⟩ = some (.int .u32 r.f3) := (blk_cell HX2.out 3).trans rfl
    have z4 : w2.cell? ⟨g, 4, none⟩ = some (.slice A4 r.f4.length c4) := (blk_cell HX2.out 4).trans rfl
    have z5 : w2.cell? ⟨g, 5, none⟩ = some (.slice A5 r.f5.length c5) := (blk_cell HX2.out 5).trans rfl
    have z6 : w2.cell? ⟨g, 6, none⟩ = some (.slice A6 r.f6.length c6) := (blk_cell HX2.out 6).trans rfl
    go_wp2_with fail
    refine (Contains_notName A4 c4 r.f4 _ (Kd.C_below G4.out HB2.out) (by omega) _ K2.out).mono ?_
    rintro e w3 ⟨rfl, hb⟩
    have HX3 := Aside0.mk (blk_below HX2.out hb)
    have HB3 := Aside0.mk (HB2.out.trans (hb.mono (below_size HB2.out)))
    clear hb z0 z1 z2 z3 z4 z5 z6
    have z0 : w3.cell? ⟨g, 0, none⟩ = some (.string r.f0) := (blk_cell HX3.out 0).trans rfl
    have z1 : w3.cell? ⟨g, 1, none⟩ = some (.int .u16 r.f1) := (blk_cell HX3.out 1).trans rfl
    have z2 : w3.cell? ⟨g, 2, none⟩ = some (.int .u16 r.f2) := (blk_cell HX3.out 2).trans rfl
    have z3 : w3.cell? ⟨g, 3, none⟩ = some (.int .u32 r.f3) := (blk_cell HX3.out 3).trans rfl
    have z4 : w3.cell? ⟨g, 4, none⟩ = some (.slice A4 r.f4.length c4) := (blk_cell HX3.out 4).trans rfl
    have z5 : w3.cell? ⟨g, 5, none⟩ = some (.slice A5 r.f5.length c5) := (blk_cell HX3.out 5).trans rfl
    have z6 : w3.cell? ⟨g, 6, none⟩ = some (.slice A6 r.f6.length c6) := (blk_cell HX3.out 6).trans rfl
    go_wp2_with fail
    refine (shaped_calls r _ _ (HV.out.below HB3.out) (by omega)).mono ?_
    rw [K3.out]
    rintro e w4 ⟨rfl, hb⟩
    have HX4 := Aside0.mk (blk_below HX3.out hb)
    have HB4 := Aside0.mk (HB3.out.trans (hb.mono (below_size HB3.out)))
    clear hb z0 z1 z2 z3 z4 z5 z6
    have z0 : w4.cell? ⟨g, 0, none⟩ = some (.string r.f0) := (blk_cell HX4.out 0).trans rfl
    have z1 : w4.cell? ⟨g, 1, none⟩ = some (.int .u16 r.f1) := (blk_cell HX4.out 1).trans rfl
    have z2 : w4.cell? ⟨g, 2, none⟩ = some (.int .u16 r.f2) := (blk_cell HX4.out 2).trans rfl
    have z3 : w4.cell? ⟨g, 3, none⟩ = some (.int .u32 r.f3) := (blk_cell HX4.out 3).trans rfl
    have z4 : w4.cell? ⟨g, 4, none⟩ = some (.slice A4 r.f4.length c4) := (blk_cell HX4.out 4).trans rfl
    have z5 : w4.cell? ⟨g, 5, none⟩ = some (.slice A5 r.f5.length c5) := (blk_cell HX4.out 5).trans rfl
    have z6 : w4.cell? ⟨g, 6, none⟩ = some (.slice A6 r.f6.length c6) := (blk_cell HX4.out 6).trans rfl
    go_wp2_with fail
    refine (size_calls r _ _ (HV.out.below HB4.out) HF.out.names HF.out.texts).mono ?_
    rw [K4.out]
    rintro e w5 ⟨rfl, hb⟩
    have HX5 := Aside0.mk (blk_below HX4.out hb)
    have HB5 := Aside0.mk (HB4.out.trans (hb.mono (below_size HB4.out)))
    clear hb z0 z1 z2 z3 z4 z5 z6
    have z0 : w5.cell? ⟨g, 0, none⟩ = some (.string r.f0) := (blk_cell HX5.out 0).trans rfl
    have z1 : w5.cell? ⟨g, 1, none⟩ = some (.int .u16 r.f1) := (blk_cell HX5.out 1).trans rfl
    have z2 : w5.cell? ⟨g, 2, none⟩ = some (.int .u16 r.f2) := (blk_cell HX5.out 2).trans rfl
    have z3 : w5.cell? ⟨g, 3, none⟩ = some (.int .u32 r.f3) := (blk_cell HX5.out 3).trans rfl
    have z4 : w5.cell? ⟨g, 4, none⟩ = some (.slice A4 r.f4.length c4) := (blk_cell HX5.out 4).trans rfl
    have z5 : w5.cell? ⟨g, 5, none⟩ = some (.slice A5 r.f5.length c5) := (blk_cell HX5.out 5).trans rfl
    have z6 : w5.cell? ⟨g, 6, none⟩ = some (.slice A6 r.f6.length c6) := (blk_cell HX5.out 6).trans rfl
    go_wp2
    go_ret
    exact ⟨rfl, HB5.out⟩
  rw [if_neg k4] at hR
  have HS := Aside0.mk (small_of HF.out (by omega) k2 k3)
  have d4 : decide ((131070 : Int) < (n : Int)) = false := decide_eq_false (by omega)
  have d4' : decide (131070 < n) = false := decide_eq_false k4
  clear k4 k3 k2 hn
  by_cases k5 : 65535 < (plainL r).length
  · rw [if_pos k5] at hR
    subst hR
    have d5 : decide ((65535 : Int) < ((plainL r).length : Int)) = true := decide_eq_true (by omega)
    have d5' : decide (65535 < (plainL r).length) = true := decide_eq_true k5
    clear k5
    go_enter Try.func41, Try.ntmps41
    go_wp2_with (((with_reducible refine gate_dst (N := 1) rfl ?_); refine box_event rfl (N := 1) rfl (cs := #[.string r.f0, .int .u16 r.f1, .int .u16 r.f2, .int .u32 r.f3, .slice A4 r.f4.length c4, .slice A5 r.f5.length c5, .slice A6 r.f6.length c6]) (t := 44) (by first | (go_simp; done) | (go_simp; rfl)) ?_; intro g hg w1 hbox hb); have HX := Aside0.mk hbox; have HB := Aside0.mk hb; clear hb hg; have z0 : w1.cell? ⟨g, 0, none⟩ = some (.string r.f0) := (blk_cell HX.out 0).trans rfl; clear hbox)
    have z0 : w1.cell? ⟨g, 0, none⟩ = some (.string r.f0) := (blk_cell HX.out 0).trans rfl
    have z1 : w1.cell? ⟨g, 1, none⟩ = some (.int .u16 r.f1) := (blk_cell HX.out 1).trans rfl
    have z2 : w1.cell? ⟨g, 2, none⟩ = some (.int .u16 r.f2) := (blk_cell HX.out 2).trans rfl
    have z3 : w1.cell? ⟨g, 3, none⟩ = some (.int .u32 r.f3) := (blk_cell HX.out 3).trans rfl
    have z4 : w1.cell? ⟨g, 4, none⟩ = some (.slice A4 r.f4.length c4) := (blk_cell HX.out 4).trans rfl
    have z5 : w1.cell? ⟨g, 5, none⟩ = some (.slice A5 r.f5.length c5) := (blk_cell HX.out 5).trans rfl
    have z6 : w1.cell? ⟨g, 6, none⟩ = some (.slice A6 r.f6.length c6) := (blk_cell HX.out 6).trans rfl
    refine (isName_yes r.f0 _ K1.out).mono ?_
    rintro e w2 ⟨rfl, hb⟩
    have HX2 := Aside0.mk (blk_below HX.out hb)
    have HB2 := Aside0.mk (HB.out.trans (hb.mono (below_size HB.out)))
    clear hb z0 z1 z2 z3 z4 z5 z6
    have z0 : w2.cell? ⟨g, 0, none⟩ = some (.string r.f0) := (blk_cell HX2.out 0).trans rfl
    have z1 : w2.cell? ⟨g, 1, none⟩ = some (.int .u16 r.f1) := (blk_cell HX2.out 1).trans rfl
    have z2 : w2.cell? ⟨g, 2, none⟩ = some (.int .u16 r.f2) := (blk_cell HX2.out 2).trans rfl
    have z3 : w2.cell? ⟨g, 3, none⟩ = some (.int .u32 r.f3) := (blk_cell HX2.out 3).trans rfl
    have z4 : w2.cell? ⟨g, 4, none⟩ = some (.slice A4 r.f4.length c4) := (blk_cell HX2.out 4).trans rfl
    have z5 : w2.cell? ⟨g, 5, none⟩ = some (.slice A5 r.f5.length c5) := (blk_cell HX2.out 5).trans rfl
    have z6 : w2.cell? ⟨g, 6, none⟩ = some (.slice A6 r.f6.length c6) := (blk_cell HX2.out 6).trans rfl
    go_wp2_with fail
    refine (Contains_notName A4 c4 r.f4 _ (Kd.C_below G4.out HB2.out) (by omega) _ K2.out).mono ?_
    rintro e w3 ⟨rfl, hb⟩
    have HX3 := Aside0.mk (blk_below HX2.out hb)
    have HB3 := Aside0.mk (HB2.out.trans (hb.mono (below_size HB2.out)))
    clear hb z0 z1 z2 z3 z4 z5 z6
    have z0 : w3.cell? ⟨g, 0, none⟩ = some (.string r.f0) := (blk_cell HX3.out 0).trans rfl
    have z1 : w3.cell? ⟨g, 1, none⟩ = some (.int .u16 r.f1) := (blk_cell HX3.out 1).trans rfl
    have z2 : w3.cell? ⟨g, 2, none⟩ = some (.int .u16 r.f2) := (blk_cell HX3.out 2).trans rfl
    have z3 : w3.cell? ⟨g, 3, none⟩ = some (.int .u32 r.f3) := (blk_cell HX3.out 3).trans rfl
    have z4 : w3.cell? ⟨g, 4, none⟩ = some (.slice A4 r.f4.length c4) := (blk_cell HX3.out 4).trans rfl
    have z5 : w3.cell? ⟨g, 5, none⟩ = some (.slice A5 r.f5.length c5) := (blk_cell HX3.out 5).trans rfl
    have z6 : w3.cell? ⟨g, 6, none⟩ = some (.slice A6 r.f6.length c6) := (blk_cell HX3.out 6).trans rfl
    go_wp2_with fail
    refine (shaped_calls r _ _ (HV.out.below HB3.out) (by omega)).mono ?_
    rw [K3.out]
    rintro e w4 ⟨rfl, hb⟩
    have HX4 := Aside0.mk (blk_below HX3.out hb)
    have HB4 := Aside0.mk (HB3.out.trans (hb.mono (below_size HB3.out)))
    clear hb z0 z1 z2 z3 z4 z5 z6
    have z0 : w4.cell? ⟨g, 0, none⟩ = some (.string r.f0) := (blk_cell HX4.out 0).trans rfl
    have z1 : w4.cell? ⟨g, 1, none⟩ = some (.int .u16 r.f1) := (blk_cell HX4.out 1).trans rfl
    have z2 : w4.cell? ⟨g, 2, none⟩ = some (.int .u16 r.f2) := (blk_cell HX4.out 2).trans rfl
    have z3 : w4.cell? ⟨g, 3, none⟩ = some (.int .u32 r.f3) := (blk_cell HX4.out 3).trans rfl
    have z4 : w4.cell? ⟨g, 4, none⟩ = some (.slice A4 r.f4.length c4) := (blk_cell HX4.out 4).trans rfl
    have z5 : w4.cell? ⟨g, 5, none⟩ = some (.slice A5 r.f5.length c5) := (blk_cell HX4.out 5).trans rfl
    have z6 : w4.cell? ⟨g, 6, none⟩ = some (.slice A6 r.f6.length c6) := (blk_cell HX4.out 6).trans rfl
    go_wp2_with fail
    refine (size_calls r _ _ (HV.out.below HB4.out) HF.out.names HF.out.texts).mono ?_
    rw [K4.out]
    rintro e w5 ⟨rfl, hb⟩
    have HX5 := Aside0.mk (blk_below HX4.out hb)
    have HB5 := Aside0.mk (HB4.out.trans (hb.mono (below_size HB4.out)))
    clear hb z0 z1 z2 z3 z4 z5 z6
    have z0 : w5.cell? ⟨g, 0, none⟩ = some (.string r.f0) := (blk_cell HX5.out 0).trans rfl
    have z1 : w5.cell? ⟨g, 1, none⟩ = some (.int .u16 r.f1) := (blk_cell HX5.out 1).trans rfl
    have z2 : w5.cell? ⟨g, 2, none⟩ = some (.int .u16 r.f2) := (blk_cell HX5.out 2).trans rfl
    have z3 : w5.cell? ⟨g, 3, none⟩ = some (.int .u32 r.f3) := (blk_cell HX5.out 3).trans rfl
    have z4 : w5.cell? ⟨g, 4, none⟩ = some (.slice A4 r.f4.length c4) := (blk_cell HX5.out 4).trans rfl
    have z5 : w5.cell? ⟨g, 5, none⟩ = some (.slice A5 r.f5.length c5) := (blk_cell HX5.out 5).trans rfl
    have z6 : w5.cell? ⟨g, 6, none⟩ = some (.slice A6 r.f6.length c6) := (blk_cell HX5.out 6).trans rfl
    go_wp2_with fail
    refine (plain_calls r _ _ (HV.out.below HB5.out) HS.out).mono ?_
    rintro e w6 ⟨v0, rfl, ho, hb⟩
    obtain ⟨A, c, rfl, _, _⟩ := Kd.R_reads ho
    clear ho
    have HX6 := Aside0.mk (blk_below HX5.out hb)
    have HB6 := Aside0.mk (HB5.out.trans (hb.mono (below_size HB5.out)))
    clear hb z0 z1 z2 z3 z4 z5 z6
    have z0 : w6.cell? ⟨g, 0, none⟩ = some (.string r.f0) := (blk_cell HX6.out 0).trans rfl
    have z1 : w6.cell? ⟨g, 1, none⟩ = some (.int .u16 r.f1) := (blk_cell HX6.out 1).trans rfl
    have z2 : w6.cell? ⟨g, 2, none⟩ = some (.int .u16 r.f2) := (blk_cell HX6.out 2).trans rfl
    have z3 : w6.cell? ⟨g, 3, none⟩ = some (.int .u32 r.f3) := (blk_cell HX6.out 3).trans rfl
    have z4 : w6.cell? ⟨g, 4, none⟩ = some (.slice A4 r.f4.length c4) := (blk_cell HX6.out 4).trans rfl
    have z5 : w6.cell? ⟨g, 5, none⟩ = some (.slice A5 r.f5.length c5) := (blk_cell HX6.out 5).trans rfl
    have z6 : w6.cell? ⟨g, 6, none⟩ = some (.slice A6 r.f6.length c6) := (blk_cell HX6.out 6).trans rfl
    go_wp2
    go_ret
    exact ⟨rfl, HB6.out⟩
  rw [if_neg k5] at hR
  have d5 : decide ((65535 : Int) < ((plainL r).length : Int)) = false := decide_eq_false (by omega)
  have d5' : decide (65535 < (plainL r).length) = false := decide_eq_false k5
  clear k5
  by_cases k6 : 2147483647 < r.f3
  · have d6 : decide (2147483647 < r.f3) = true := decide_eq_true k6
    by_cases k7 : r.f1 = 41
    · rw [if_neg (fun h => h.2 k7)] at hR
      subst hR
      have d7 : (r.f1 != 41) = false := by rw [bne_eq_false_iff_eq]; exact k7
      clear k6 k7
      go_enter Try.func41, Try.ntmps41
      go_wp2_with (((with_reducible refine gate_dst (N := 1) rfl ?_); refine box_event rfl (N := 1) rfl (cs := #[.string r.f0, .int .u16 r.f1, .int .u16 r.f2, .int .u32 r.f3, .slice A4 r.f4.length c4, .slice A5 r.f5.length c5, .slice A6 r.f6.length c6]) (t := 44) (by first | (go_simp; done) | (go_simp; rfl)) ?_; intro g hg w1 hbox hb); have HX := Aside0.mk hbox; have HB := Aside0.mk hb; clear hb hg; have z0 : w1.cell? ⟨g, 0, none⟩ = some (.string r.f0) := (blk_cell HX.out 0).trans rfl; clear hbox)
      have z0 : w1.cell? ⟨g, 0, none⟩ = some (.string r.f0) := (blk_cell HX.out 0).trans rfl
      have z1 : w1.cell? ⟨g, 1, none⟩ = some (.int .u16 r.f1) := (blk_cell HX.out 1).trans rfl
      have z2 : w1.cell? ⟨g, 2, none⟩ = some (.int .u16 r.f2) := (blk_cell HX.out 2).trans rfl
      have z3 : w1.cell? ⟨g, 3, none⟩ = some (.int .u32 r.f3) := (blk_cell HX.out 3).trans rfl
      have z4 : w1.cell? ⟨g, 4, none⟩ = some (.slice A4 r.f4.length c4) := (blk_cell HX.out 4).trans rfl
      have z5 : w1.cell? ⟨g, 5, none⟩ = some (.slice A5 r.f5.length c5) := (blk_cell HX.out 5).trans rfl
      have z6 : w1.cell? ⟨g, 6, none⟩ = some (.slice A6 r.f6.length c6) := (blk_cell HX.out 6).trans rfl
      refine (isName_yes r.f0 _ K1.out).mono ?_
      rintro e w2 ⟨rfl, hb⟩
      have HX2 := Aside0.mk (blk_below HX.out hb)
      have HB2 := Aside0.mk (HB.out.trans (hb.mono (below_size HB.out)))
      clear hb z0 z1 z2 z3 z4 z5 z6
      have z0 : w2.cell? ⟨g, 0, none⟩ = some (.string r.f0) := (blk_cell HX2.out 0).trans rfl
      have z1 : w2.cell? ⟨g, 1, none⟩ = some (.int .u16 r.f1) := (blk_cell HX2.out 1).trans rfl
      have z2 : w2.cell? ⟨g, 2, none⟩ = some (.int .u16 r.f2) := (blk_cell HX2.out 2).trans rfl
      have z3 : w2.cell? ⟨g, 3, none⟩ = some (.int .u32 r.f3) := (blk_cell HX2.out 3).trans rfl
      have z4 : w2.cell? ⟨g, 4, none⟩ = some (.slice A4 r.f4.length c4) := (blk_cell HX2.out 4).trans rfl
      have z5 : w2.cell? ⟨g, 5, none⟩ = some (.slice A5 r.f5.length c5) := (blk_cell HX2.out 5).trans rfl
      have z6 : w2.cell? ⟨g, 6, none⟩ = some (.slice A6 r.f6.length c6) := (blk_cell HX2.out 6).trans rfl
      go_wp2_with fail
      refine (Contains_notName A4 c4 r.f4 _ (Kd.C_below G4.out HB2.out) (by omega) _ K2.out).mono ?_
      rintro e w3 ⟨rfl, hb⟩
      have HX3 := Aside0.mk (blk_below HX2.out hb)
      have HB3 := Aside0.mk (HB2.out.trans (hb.mono (below_size HB2.out)))
      clear hb z0 z1 z2 z3 z4 z5 z6
      have z0 : w3.cell? ⟨g, 0, none⟩ = some (.string r.f0) := (blk_cell HX3.out 0).trans rfl
      have z1 : w3.cell? ⟨g, 1, none⟩ = some (.int .u16 r.f1) := (blk_cell HX3.out 1).trans rfl
      have z2 : w3.cell? ⟨g, 2, none⟩ = some (.int .u16 r.f2) := (blk_cell HX3.out 2).trans rfl
      have z3 : w3.cell? ⟨g, 3, none⟩ = some (.int .u32 r.f3) := (blk_cell HX3.out 3).trans rfl
      have z4 : w3.cell? ⟨g, 4, none⟩ = some (.slice A4 r.f4.length c4) := (blk_cell HX3.out 4).trans rfl
      have z5 : w3.cell? ⟨g, 5, none⟩ = some (.slice A5 r.f5.length c5) := (blk_cell HX3.out 5).trans rfl
      have z6 : w3.cell? ⟨g, 6, none⟩ = some (.slice A6 r.f6.length c6) := (blk_cell HX3.out 6).trans rfl
      go_wp2_with fail
      refine (shaped_calls r _ _ (HV.out.below HB3.out) (by omega)).mono ?_
      rw [K3.out]
      rintro e w4 ⟨rfl, hb⟩
      have HX4 := Aside0.mk (blk_below HX3.out hb)
      have HB4 := Aside0.mk (HB3.out.trans (hb.mono (below_size HB3.out)))
      clear hb z0 z1 z2 z3 z4 z5 z6
      have z0 : w4.cell? ⟨g, 0, none⟩ = some (.string r.f0) := (blk_cell HX4.out 0).trans rfl
      have z1 : w4.cell? ⟨g, 1, none⟩ = some (.int .u16 r.f1) := (blk_cell HX4.out 1).trans rfl
      have z2 : w4.cell? ⟨g, 2, none⟩ = some (.int .u16 r.f2) := (blk_cell HX4.out 2).trans rfl
      have z3 : w4.cell? ⟨g, 3, none⟩ = some (.int .u32 r.f3) := (blk_cell HX4.out 3).trans rfl
      have z4 : w4.cell? ⟨g, 4, none⟩ = some (.slice A4 r.f4.length c4) := (blk_cell HX4.out 4).trans rfl
      have z5 : w4.cell? ⟨g, 5, none⟩ = some (.slice A5 r.f5.length c5) := (blk_cell HX4.out 5).trans rfl
      have z6 : w4.cell? ⟨g, 6, none⟩ = some (.slice A6 r.f6.length c6) := (blk_cell HX4.out 6).trans rfl
      go_wp2_with fail
      refine (size_calls r _ _ (HV.out.below HB4.out) HF.out.names HF.out.texts).mono ?_
      rw [K4.out]
      rintro e w5 ⟨rfl, hb⟩
      have HX5 := Aside0.mk (blk_below HX4.out hb)
      have HB5 := Aside0.mk (HB4.out.trans (hb.mono (below_size HB4.out)))
      clear hb z0 z1 z2 z3 z4 z5 z6
      have z0 : w5.cell? ⟨g, 0, none⟩ = some (.string r.f0) := (blk_cell HX5.out 0).trans rfl
      have z1 : w5.cell? ⟨g, 1, none⟩ = some (.int .u16 r.f1) := (blk_cell HX5.out 1).trans rfl
      have z2 : w5.cell? ⟨g, 2, none⟩ = some (.int .u16 r.f2) := (blk_cell HX5.out 2).trans rfl
      have z3 : w5.cell? ⟨g, 3, none⟩ = some (.int .u32 r.f3) := (blk_cell HX5.out 3).trans rfl
      have z4 : w5.cell? ⟨g, 4, none⟩ = some (.slice A4 r.f4.length c4) := (blk_cell HX5.out 4).trans rfl
      have z5 : w5.cell? ⟨g, 5, none⟩ = some (.slice A5 r.f5.length c5) := (blk_cell HX5.out 5).trans rfl
      have z6 : w5.cell? ⟨g, 6, none⟩ = some (.slice A6 r.f6.length c6) := (blk_cell HX5.out 6).trans rfl
      go_wp2_with fail
      refine (plain_calls r _ _ (HV.out.below HB5.out) HS.out).mono ?_
      rintro e w6 ⟨v0, rfl, ho, hb⟩
      obtain ⟨A, c, rfl, _, _⟩ := Kd.R_reads ho
      clear ho
      have HX6 := Aside0.mk (blk_below HX5.out hb)
      have HB6 := Aside0.mk (HB5.out.trans (hb.mono (below_size HB5.out)))
      clear hb z0 z1 z2 z3 z4 z5 z6
      have z0 : w6.cell? ⟨g, 0, none⟩ = some (.string r.f0) := (blk_cell HX6.out 0).trans rfl
      have z1 : w6.cell? ⟨g, 1, none⟩ = some (.int .u16 r.f1) := (blk_cell HX6.out 1).trans rfl
      have z2 : w6.cell? ⟨g, 2, none⟩ = some (.int .u16 r.f2) := (blk_cell HX6.out 2).trans rfl
      have z3 : w6.cell? ⟨g, 3, none⟩ = some (.int .u32 r.f3) := (blk_cell HX6.out 3).trans rfl
      have z4 : w6.cell? ⟨g, 4, none⟩ = some (.slice A4 r.f4.length c4) := (blk_cell HX6.out 4).trans rfl
      have z5 : w6.cell? ⟨g, 5, none⟩ = some (.slice A5 r.f5.length c5) := (blk_cell HX6.out 5).trans rfl
      have z6 : w6.cell? ⟨g, 6, none⟩ = some (.slice A6 r.f6.length c6) := (blk_cell HX6.out 6).trans rfl
      go_wp2
      go_ret
      exact ⟨rfl, HB6.out⟩
    · rw [if_pos ⟨k6, k7⟩] at hR
      subst hR
      have d7 : (r.f1 != 41) = true := by rw [bne_iff_ne]; exact k7
      clear k6 k7
      go_enter Try.func41, Try.ntmps41
      go_wp2_with (((with_reducible refine gate_dst (N := 1) rfl ?_); refine box_event rfl (N := 1) rfl (cs := #[.string r.f0, .int .u16 r.f1, .int .u16 r.f2, .int .u32 r.f3, .slice A4 r.f4.length c4, .slice A5 r.f5.length c5, .slice A6 r.f6.length c6]) (t := 44) (by first | (go_simp; done) | (go_simp; rfl)) ?_; intro g hg w1 hbox hb); have HX := Aside0.mk hbox; have HB := Aside0.mk hb; clear hb hg; have z0 : w1.cell? ⟨g, 0, none⟩ = some (.string r.f0) := (blk_cell HX.out 0).trans rfl; clear hbox)
      have z0 : w1.cell? ⟨g, 0, none⟩ = some (.string r.f0) := (blk_cell HX.out 0).trans rfl
      have z1 : w1.cell? ⟨g, 1, none⟩ = some (.int .u16 r.f1) := (blk_cell HX.out 1).trans rfl
      have z2 : w1.cell? ⟨g, 2, none⟩ = some (.int .u16 r.f2) := (blk_cell HX.out 2).trans rfl
      have z3 : w1.cell? ⟨g, 3, none⟩ = some (.int .u32 r.f3) := (blk_cell HX.out 3).trans rfl
      have z4 : w1.cell? ⟨g, 4, none⟩ = some (.slice A4 r.f4.length c4) := (blk_cell HX.out 4).trans rfl
      have z5 : w1.cell? ⟨g, 5, none⟩ = some (.slice A5 r.f5.length c5) := (blk_cell HX.out 5).trans rfl
      have z6 : w1.cell? ⟨g, 6, none⟩ = some (.slice A6 r.f6.length c6) := (blk_cell HX.out 6).trans rfl
      refine (isName_yes r.f0 _ K1.out).mono ?_
      rintro e w2 ⟨rfl, hb⟩
      have HX2 := Aside0.mk (blk_below HX.out hb)
      have HB2 := Aside0.mk (HB.out.trans (hb.mono (below_size HB.out)))
      clear hb z0 z1 z2 z3 z4 z5 z6
      have z0 : w2.cell? ⟨g, 0, none⟩ = some (.string r.f0) := (blk_cell HX2.out 0).trans rfl
      have z1 : w2.cell? ⟨g, 1, none⟩ = some (.int .u16 r.f1) := (blk_cell HX2.out 1).trans rfl
      have z2 : w2.cell? ⟨g, 2, none⟩ = some (.int .u16 r.f2) := (blk_cell HX2.out 2).trans rfl
      have z3 : w2.cell? ⟨g, 3, none⟩ = some (.int .u32 r.f3) := (blk_cell HX2.out 3).trans rfl
      have z4 : w2.cell? ⟨g, 4, none⟩ = some (.slice A4 r.f4.length c4) := (blk_cell HX2.out 4).trans rfl
      have z5 : w2.cell? ⟨g, 5, none⟩ = some (.slice A5 r.f5.length c5) := (blk_cell HX2.out 5).trans rfl
      have z6 : w2.cell? ⟨g, 6, none⟩ = some (.slice A6 r.f6.length c6) := (blk_cell HX2.out 6).trans rfl
      go_wp2_with fail
      refine (Contains_notName A4 c4 r.f4 _ (Kd.C_below G4.out HB2.out) (by omega) _ K2.out).mono ?_
      rintro e w3 ⟨rfl, hb⟩
      have HX3 := Aside0.mk (blk_below HX2.out hb)
      have HB3 := Aside0.mk (HB2.out.trans (hb.mono (below_size HB2.out)))
      clear hb z0 z1 z2 z3 z4 z5 z6
      have z0 : w3.cell? ⟨g, 0, none⟩ = some (.string r.f0) := (blk_cell HX3.out 0).trans rfl
      have z1 : w3.cell? ⟨g, 1, none⟩ = some (.int .u16 r.f1) := (blk_cell HX3.out 1).trans rfl
      have z2 : w3.cell? ⟨g, 2, none⟩ = some (.int .u16 r.f2) := (blk_cell HX3.out 2).trans rfl
      have z3 : w3.cell? ⟨g, 3, none⟩ = some (.int .u32 r.f3) := (blk_cell HX3.out 3).trans rfl
      have z4 : w3.cell? ⟨g, 4, none⟩ = some (.slice A4 r.f4.length c4) := (blk_cell HX3.out 4).trans rfl
      have z5 : w3.cell? ⟨g, 5, none⟩ = some (.slice A5 r.f5.length c5) := (blk_cell HX3.out 5).trans rfl
      have z6 : w3.cell? ⟨g, 6, none⟩ = some (.slice A6 r.f6.length c6) := (blk_cell HX3.out 6).trans rfl
      go_wp2_with fail
      refine (shaped_calls r _ _ (HV.out.below HB3.out) (by omega)).mono ?_
      rw [K3.out]
      rintro e w4 ⟨rfl, hb⟩
      have HX4 := Aside0.mk (blk_below HX3.out hb)
      have HB4 := Aside0.mk (HB3.out.trans (hb.mono (below_size HB3.out)))
      clear hb z0 z1 z2 z3 z4 z5 z6
      have z0 : w4.cell? ⟨g, 0, none⟩ = some (.string r.f0) := (blk_cell HX4.out 0).trans rfl
      have z1 : w4.cell? ⟨g, 1, none⟩ = some (.int .u16 r.f1) := (blk_cell HX4.out 1).trans rfl
      have z2 : w4.cell? ⟨g, 2, none⟩ = some (.int .u16 r.f2) := (blk_cell HX4.out 2).trans rfl
      have z3 : w4.cell? ⟨g, 3, none⟩ = some (.int .u32 r.f3) := (blk_cell HX4.out 3).trans rfl
      have z4 : w4.cell? ⟨g, 4, none⟩ = some (.slice A4 r.f4.length c4) := (blk_cell HX4.out 4).trans rfl
      have z5 : w4.cell? ⟨g, 5, none⟩ = some (.slice A5 r.f5.length c5) := (blk_cell HX4.out 5).trans rfl
      have z6 : w4.cell? ⟨g, 6, none⟩ = some (.slice A6 r.f6.length c6) := (blk_cell HX4.out 6).trans rfl
      go_wp2_with fail
      refine (size_calls r _ _ (HV.out.below HB4.out) HF.out.names HF.out.texts).mono ?_
      rw [K4.out]
      rintro e w5 ⟨rfl, hb⟩
      have HX5 := Aside0.mk (blk_below HX4.out hb)
      have HB5 := Aside0.mk (HB4.out.trans (hb.mono (below_size HB4.out)))
      clear hb z0 z1 z2 z3 z4 z5 z6
      have z0 : w5.cell? ⟨g, 0, none⟩ = some (.string r.f0) := (blk_cell HX5.out 0).trans rfl
      have z1 : w5.cell? ⟨g, 1, none⟩ = some (.int .u16 r.f1) := (blk_cell HX5.out 1).trans rfl
      have z2 : w5.cell? ⟨g, 2, none⟩ = some (.int .u16 r.f2) := (blk_cell HX5.out 2).trans rfl
      have z3 : w5.cell? ⟨g, 3, none⟩ = some (.int .u32 r.f3) := (blk_cell HX5.out 3).trans rfl
      have z4 : w5.cell? ⟨g, 4, none⟩ = some (.slice A4 r.f4.length c4) := (blk_cell HX5.out 4).trans rfl
      have z5 : w5.cell? ⟨g, 5, none⟩ = some (.slice A5 r.f5.length c5) := (blk_cell HX5.out 5).trans rfl
      have z6 : w5.cell? ⟨g, 6, none⟩ = some (.slice A6 r.f6.length c6) := (blk_cell HX5.out 6).trans rfl
      go_wp2_with fail
      refine (plain_calls r _ _ (HV.out.below HB5.out) HS.out).mono ?_
      rintro e w6 ⟨v0, rfl, ho, hb⟩
      obtain ⟨A, c, rfl, _, _⟩ := Kd.R_reads ho
      clear ho
      have HX6 := Aside0.mk (blk_below HX5.out hb)
      have HB6 := Aside0.mk (HB5.out.trans (hb.mono (below_size HB5.out)))
      clear hb z0 z1 z2 z3 z4 z5 z6
      have z0 : w6.cell? ⟨g, 0, none⟩ = some (.string r.f0) := (blk_cell HX6.out 0).trans rfl
      have z1 : w6.cell? ⟨g, 1, none⟩ = some (.int .u16 r.f1) := (blk_cell HX6.out 1).trans rfl
      have z2 : w6.cell? ⟨g, 2, none⟩ = some (.int .u16 r.f2) := (blk_cell HX6.out 2).trans rfl
      have z3 : w6.cell? ⟨g, 3, none⟩ = some (.int .u32 r.f3) := (blk_cell HX6.out 3).trans rfl
      have z4 : w6.cell? ⟨g, 4, none⟩ = some (.slice A4 r.f4.length c4) := (blk_cell HX6.out 4).trans rfl
      have z5 : w6.cell? ⟨g, 5, none⟩ = some (.slice A5 r.f5.length c5) := (blk_cell HX6.out 5).trans rfl
      have z6 : w6.cell? ⟨g, 6, none⟩ = some (.slice A6 r.f6.length c6) := (blk_cell HX6.out 6).trans rfl
      go_wp2
      go_ret
      exact ⟨rfl, HB6.out⟩
  · rw [if_neg (fun h => k6 h.1)] at hR
    subst hR
    have d6 : decide (2147483647 < r.f3) = false := decide_eq_false k6
    clear k6
    go_enter Try.func41, Try.ntmps41
    go_wp2_with (((with_reducible refine gate_dst (N := 1) rfl ?_); refine box_event rfl (N := 1) rfl (cs := #[.string r.f0, .int .u16 r.f1, .int .u16 r.f2, .int .u32 r.f3, .slice A4 r.f4.length c4, .slice A5 r.f5.length c5, .slice A6 r.f6.length c6]) (t := 44) (by first | (go_simp; done) | (go_simp; rfl)) ?_; intro g hg w1 hbox hb); have HX := Aside0.mk hbox; have HB := Aside0.mk hb; clear hb hg; have z0 : w1.cell? ⟨g, 0, none⟩ = some (.string r.f0) := (blk_cell HX.out 0).trans rfl; clear hbox)
    have z0 : w1.cell? ⟨g, 0, none⟩ = some (.string r.f0) := (blk_cell HX.out 0).trans rfl
    have z1 : w1.cell? ⟨g, 1, none⟩ = some (.int .u16 r.f1) := (blk_cell HX.out 1).trans rfl
    have z2 : w1.cell? ⟨g, 2, none⟩ = some (.int .u16 r.f2) := (blk_cell HX.out 2).trans rfl
    have z3 : w1.cell? ⟨g, 3, none⟩ = some (.int .u32 r.f3) := (blk_cell HX.out 3).trans rfl
    have z4 : w1.cell? ⟨g, 4, none⟩ = some (.slice A4 r.f4.length c4) := (blk_cell HX.out 4).trans rfl
    have z5 : w1.cell? ⟨g, 5, none⟩ = some (.slice A5 r.f5.length c5) := (blk_cell HX.out 5).trans rfl
    have z6 : w1.cell? ⟨g, 6, none⟩ = some (.slice A6 r.f6.length c6) := (blk_cell HX.out 6).trans rfl
    refine (isName_yes r.f0 _ K1.out).mono ?_
    rintro e w2 ⟨rfl, hb⟩
    have HX2 := Aside0.mk (blk_below HX.out hb)
    have HB2 := Aside0.mk (HB.out.trans (hb.mono (below_size HB.out)))
    clear hb z0 z1 z2 z3 z4 z5 z6
    have z0 : w2.cell? ⟨g, 0, none⟩ = some (.string r.f0) := (blk_cell HX2.out 0).trans rfl
    have z1 : w2.cell? ⟨g, 1, none⟩ = some (.int .u16 r.f1) := (blk_cell HX2.out 1).trans rfl
    have z2 : w2.cell? ⟨g, 2, none⟩ = some (.int .u16 r.f2) := (blk_cell HX2.out 2).trans rfl
    have z3 : w2.cell? ⟨g, 3, none⟩ = some (.int .u32 r.f3) := (blk_cell HX2.out 3).trans rfl
    have z4 : w2.cell? ⟨g, 4, none⟩ = some (.slice A4 r.f4.length c4) := (blk_cell HX2.out 4).trans rfl
    have z5 : w2.cell? ⟨g, 5, none⟩ = some (.slice A5 r.f5.length c5) := (blk_cell HX2.out 5).trans rfl
    have z6 : w2.cell? ⟨g, 6, none⟩ = some (.slice A6 r.f6.length c6) := (blk_cell HX2.out 6).trans rfl
    go_wp2_with fail
    refine (Contains_notName A4 c4 r.f4 _ (Kd.C_below G4.out HB2.out) (by omega) _ K2.out).mono ?_
    rintro e w3 ⟨rfl, hb⟩
    have HX3 := Aside0.mk (blk_below HX2.out hb)
    have HB3 := Aside0.mk (HB2.out.trans (hb.mono (below_size HB2.out)))
    clear hb z0 z1 z2 z3 z4 z5 z6
    have z0 : w3.cell? ⟨g, 0, none⟩ = some (.string r.f0) := (blk_cell HX3.out 0).trans rfl
    have z1 : w3.cell? ⟨g, 1, none⟩ = some (.int .u16 r.f1) := (blk_cell HX3.out 1).trans rfl
    have z2 : w3.cell? ⟨g, 2, none⟩ = some (.int .u16 r.f2) := (blk_cell HX3.out 2).trans rfl
    have z3 : w3.cell? ⟨g, 3, none⟩ = some (.int .u32 r.f3) := (blk_cell HX3.out 3).trans rfl
    have z4 : w3.cell? ⟨g, 4, none⟩ = some (.slice A4 r.f4.length c4) := (blk_cell HX3.out 4).trans rfl
    have z5 : w3.cell? ⟨g, 5, none⟩ = some (.slice A5 r.f5.length c5) := (blk_cell HX3.out 5).trans rfl
    have z6 : w3.cell? ⟨g, 6, none⟩ = some (.slice A6 r.f6.length c6) := (blk_cell HX3.out 6).trans rfl
    go_wp2_with fail
    refine (shaped_calls r _ _ (HV.out.below HB3.out) (by omega)).mono ?_
    rw [K3.out]
    rintro e w4 ⟨rfl, hb⟩
    have HX4 := Aside0.mk (blk_below HX3.out hb)
    have HB4 := Aside0.mk (HB3.out.trans (hb.mono (below_size HB3.out)))
    clear hb z0 z1 z2 z3 z4 z5 z6
    have z0 : w4.cell? ⟨g, 0, none⟩ = some (.string r.f0) := (blk_cell HX4.out 0).trans rfl
    have z1 : w4.cell? ⟨g, 1, none⟩ = some (.int .u16 r.f1) := (blk_cell HX4.out 1).trans rfl
    have z2 : w4.cell? ⟨g, 2, none⟩ = some (.int .u16 r.f2) := (blk_cell HX4.out 2).trans rfl
    have z3 : w4.cell? ⟨g, 3, none⟩ = some (.int .u32 r.f3) := (blk_cell HX4.out 3).trans rfl
    have z4 : w4.cell? ⟨g, 4, none⟩ = some (.slice A4 r.f4.length c4) := (blk_cell HX4.out 4).trans rfl
    have z5 : w4.cell? ⟨g, 5, none⟩ = some (.slice A5 r.f5.length c5) := (blk_cell HX4.out 5).trans rfl
    have z6 : w4.cell? ⟨g, 6, none⟩ = some (.slice A6 r.f6.length c6) := (blk_cell HX4.out 6).trans rfl
    go_wp2_with fail
    refine (size_calls r _ _ (HV.out.below HB4.out) HF.out.names HF.out.texts).mono ?_
    rw [K4.out]
    rintro e w5 ⟨rfl, hb⟩
    have HX5 := Aside0.mk (blk_below HX4.out hb)
    have HB5 := Aside0.mk (HB4.out.trans (hb.mono (below_size HB4.out)))
    clear hb z0 z1 z2 z3 z4 z5 z6
    have z0 : w5.cell? ⟨g, 0, none⟩ = some (.string r.f0) := (blk_cell HX5.out 0).trans rfl
    have z1 : w5.cell? ⟨g, 1, none⟩ = some (.int .u16 r.f1) := (blk_cell HX5.out 1).trans rfl
    have z2 : w5.cell? ⟨g, 2, none⟩ = some (.int .u16 r.f2) := (blk_cell HX5.out 2).trans rfl
    have z3 : w5.cell? ⟨g, 3, none⟩ = some (.int .u32 r.f3) := (blk_cell HX5.out 3).trans rfl
    have z4 : w5.cell? ⟨g, 4, none⟩ = some (.slice A4 r.f4.length c4) := (blk_cell HX5.out 4).trans rfl
    have z5 : w5.cell? ⟨g, 5, none⟩ = some (.slice A5 r.f5.length c5) := (blk_cell HX5.out 5).trans rfl
    have z6 : w5.cell? ⟨g, 6, none⟩ = some (.slice A6 r.f6.length c6) := (blk_cell HX5.out 6).trans rfl
    go_wp2_with fail
    refine (plain_calls r _ _ (HV.out.below HB5.out) HS.out).mono ?_
    rintro e w6 ⟨v0, rfl, ho, hb⟩
    obtain ⟨A, c, rfl, _, _⟩ := Kd.R_reads ho
    clear ho
    have HX6 := Aside0.mk (blk_below HX5.out hb)
    have HB6 := Aside0.mk (HB5.out.trans (hb.mono (below_size HB5.out)))
    clear hb z0 z1 z2 z3 z4 z5 z6
    have z0 : w6.cell? ⟨g, 0, none⟩ = some (.string r.f0) := (blk_cell HX6.out 0).trans rfl
    have z1 : w6.cell? ⟨g, 1, none⟩ = some (.int .u16 r.f1) := (blk_cell HX6.out 1).trans rfl
    have z2 : w6.cell? ⟨g, 2, none⟩ = some (.int .u16 r.f2) := (blk_cell HX6.out 2).trans rfl
    have z3 : w6.cell? ⟨g, 3, none⟩ = some (.int .u32 r.f3) := (blk_cell HX6.out 3).trans rfl
    have z4 : w6.cell? ⟨g, 4, none⟩ = some (.slice A4 r.f4.length c4) := (blk_cell HX6.out 4).trans rfl
    have z5 : w6.cell? ⟨g, 5, none⟩ = some (.slice A5 r.f5.length c5) := (blk_cell HX6.out 5).trans rfl
    have z6 : w6.cell? ⟨g, 6, none⟩ = some (.slice A6 r.f6.length c6) := (blk_cell HX6.out 6).trans rfl
    go_wp2
    go_ret
    exact ⟨rfl, HB6.out⟩
end Go.Proofs.Ytbbeikdbioelgaa.M
