/- Joined texts: walks and plain laws. -/
import Derived.Test.YtbbeikdbioelgaaBMG1
import Derived.Maps.OwnSet
import Derived.Maps.Ext
import Derived.Deep.RegionHeld3
import Derived.Deep.RegionLaw
import Derived.Deep.DrawnRows
import Derived.Deep.DeepMust
import Derived.MapKept
import Derived.Laws.StructEq
set_option linter.unusedVariables false
set_option linter.unusedSimpArgs false
namespace Go.Proofs.Ytbbeikdbioelgaa.M
open Go.RowKit Go.Maps Go.Proofs.YtbbeikdbioelgaaW.PrintWords Go.Proofs.YtbbeikdbioelgaaW.PrintLast Go.Proofs.YtbbeikdbioelgaaW.PrintMore
attribute [local go_sem] max2_int min2_int max_two min_two max_three min_three max_four min_four
attribute [local go_sem ↓] Go.wp_at_zero Go.wp_at_succ
def plainS (r : Rec) : ByteArray := if checkF r = 0 then strOfNums (plainL r) else ⟨#[]⟩
theorem check_small {r : Rec} (hF : Fine r) (h : checkF r = 0) : Small r ∧ (plainL r).length ≤ 65535 ∧ isName r.f0 = true ∧ (r.f4.any notName) = false ∧ shapedB r = true := by
  unfold checkF at h
  by_cases k1 : isName r.f0 = false
  · rw [if_pos k1] at h; exact absurd h (by decide)
  rw [if_neg k1] at h
  by_cases k2 : r.f4.any notName = true
  · rw [if_pos k2] at h; exact absurd h (by decide)
  rw [if_neg k2] at h
  by_cases k3 : shapedB r = false
  · rw [if_pos k3] at h; exact absurd h (by decide)
  rw [if_neg k3] at h
  by_cases k4 : 131070 < sizeF r
  · rw [if_pos k4] at h; exact absurd h (by decide)
  rw [if_neg k4] at h
  by_cases k5 : 65535 < (plainL r).length
  · rw [if_pos k5] at h; exact absurd h (by decide)
  exact ⟨small_of hF (by omega) (Bool.eq_false_iff.mpr k2) (by simpa using k3), by omega, by simpa using k1, Bool.eq_false_iff.mpr k2, by simpa using k3⟩
set_option maxHeartbeats 1000000 in
theorem Plain_calls (r : Rec) (v : Value) (w : World) (hv : RecAt w v r) (hF : Fine r) :
    Calls Try.prog 73 #[v] w fun e w' => e = .returned (.string (plainS r)) ∧ Below w.heap.size w w' := by
  have HV := Aside0.mk hv
  obtain ⟨A4, c4, A5, c5, A6, c6, rfl, l4, g4, l5, g5, l6, g6⟩ := hv
  have HF := Aside0.mk hF
  obtain ⟨R, hR⟩ : ∃ R, plainS r = R := ⟨_, rfl⟩
  rw [hR]
  unfold plainS at hR
  obtain ⟨n, hn⟩ : ∃ n, checkF r = n := ⟨_, rfl⟩
  rw [hn] at hR
  have HN := Lib.hid hn
  by_cases k : n = 0
  · subst k
    rw [if_pos rfl] at hR
    have HS := Aside0.mk (check_small hF hn).1
    have HR := Lib.hid hR
    clear g4 g5 g6 hF hR hn
    go_enter Try.func73, Try.ntmps73
    go_wp2_with (((with_reducible refine gate_dst (N := 1) rfl ?_); refine box_event rfl (N := 1) rfl (cs := #[.string r.f0, .int .u16 r.f1, .int .u16 r.f2, .int .u32 r.f3, .slice A4 r.f4.length c4, .slice A5 r.f5.length c5, .slice A6 r.f6.length c6]) (t := 44) (by first | (go_simp; done) | (go_simp; rfl)) ?_; intro g hg w1 hbox hb); have HX := Aside0.mk hbox; have HB := Aside0.mk hb; clear hb hg; have z0 : w1.cell? ⟨g, 0, none⟩ = some (.string r.f0) := (blk_cell HX.out 0).trans rfl; clear hbox; have z1 : w1.cell? ⟨g, 1, none⟩ = some (.int .u16 r.f1) := (blk_cell HX.out 1).trans rfl; have z2 : w1.cell? ⟨g, 2, none⟩ = some (.int .u16 r.f2) := (blk_cell HX.out 2).trans rfl; have z3 : w1.cell? ⟨g, 3, none⟩ = some (.int .u32 r.f3) := (blk_cell HX.out 3).trans rfl; have z4 : w1.cell? ⟨g, 4, none⟩ = some (.slice A4 r.f4.length c4) := (blk_cell HX.out 4).trans rfl; have z5 : w1.cell? ⟨g, 5, none⟩ = some (.slice A5 r.f5.length c5) := (blk_cell HX.out 5).trans rfl; have z6 : w1.cell? ⟨g, 6, none⟩ = some (.slice A6 r.f6.length c6) := (blk_cell HX.out 6).trans rfl)
    refine (check_calls r _ _ (HV.out.below HB.out) HF.out).mono ?_
    rw [HN.out]
    rintro e w2 ⟨rfl, hb⟩
    have HX2 := Aside0.mk (blk_below HX.out hb)
    have HB2 := Aside0.mk (HB.out.trans (hb.mono (below_size HB.out)))
    clear hb z0 z1 z2 z3 z4 z5 z6
    have z0 : w2.cell? ⟨g, 0, none⟩ = some (.string r.f0) := (blk_cell HX2.out 0).trans rfl
    have z1 : w2.cell? ⟨g, 1, none⟩ = some (.int .u16 r.f1) := (blk_cell HX2.out 1).trans rfl
    have z2 : w2.cell? ⟨g, 2, none⟩ = some (.int .u16 r.f2) := (blk_cell HX2.out 2).trans rfl
    have z3 : w2.cell? ⟨g, 3, none⟩ = some (.int .u32 r.f3) := (blk_cell HX2.out 3).trans rfl
    have z4 : w2.cell? ⟨g, 4, none⟩ = some (.slice A4 r.f4.length c4) := (blk_cell HX2.out 4).trans rfl
    have z5 : w2.cell? ⟨g, 5, none⟩ = some (.slice A5 r.f5.length c5) := (blk_cell HX2.out 5).trans rfl
    have z6 : w2.cell? ⟨g, 6, none⟩ = some (.slice A6 r.f6.length c6) := (blk_cell HX2.out 6).trans rfl
    go_wp2_with fail
    refine (plain_calls r _ _ (HV.out.below HB2.out) HS.out).mono ?_
    rintro e w3 ⟨v0, rfl, ho, hb⟩
    have hc := strOf ho
    have HB3 := Aside0.mk (HB2.out.trans (hb.mono (below_size HB2.out)))
    clear ho hb
    go_wp2_with fail
    go_ret
    exact ⟨by rw [← HR.out]; rfl, HB3.out⟩
  · rw [if_neg k] at hR
    subst hR
    have hne : (n != 0) = true := by rw [bne_iff_ne]; exact k
    clear g4 g5 g6 hF hn k
    go_enter Try.func73, Try.ntmps73
    go_wp2_with (((with_reducible refine gate_dst (N := 1) rfl ?_); refine box_event rfl (N := 1) rfl (cs := #[.string r.f0, .int .u16 r.f1, .int .u16 r.f2, .int .u32 r.f3, .slice A4 r.f4.length c4, .slice A5 r.f5.length c5, .slice A6 r.f6.length c6]) (t := 44) (by first | (go_simp; done) | (go_simp; rfl)) ?_; intro g hg w1 hbox hb); have HX := Aside0.mk hbox; have HB := Aside0.mk hb; clear hb hg; have z0 : w1.cell? ⟨g, 0, none⟩ = some (.string r.f0) := (blk_cell HX.out 0).trans rfl; clear hbox; have z1 : w1.cell? ⟨g, 1, none⟩ = some (.int .u16 r.f1) := (blk_cell HX.out 1).trans rfl; have z2 : w1.cell? ⟨g, 2, none⟩ = some (.int .u16 r.f2) := (blk_cell HX.out 2).trans rfl; have z3 : w1.cell? ⟨g, 3, none⟩ = some (.int .u32 r.f3) := (blk_cell HX.out 3).trans rfl; have z4 : w1.cell? ⟨g, 4, none⟩ = some (.slice A4 r.f4.length c4) := (blk_cell HX.out 4).trans rfl; have z5 : w1.cell? ⟨g, 5, none⟩ = some (.slice A5 r.f5.length c5) := (blk_cell HX.out 5).trans rfl; have z6 : w1.cell? ⟨g, 6, none⟩ = some (.slice A6 r.f6.length c6) := (blk_cell HX.out 6).trans rfl)
    refine (check_calls r _ _ (HV.out.below HB.out) HF.out).mono ?_
    rw [HN.out]
    rintro e w2 ⟨rfl, hb⟩
    have HX2 := Aside0.mk (blk_below HX.out hb)
    have HB2 := Aside0.mk (HB.out.trans (hb.mono (below_size HB.out)))
    clear hb z0 z1 z2 z3 z4 z5 z6
    have z0 : w2.cell? ⟨g, 0, none⟩ = some (.string r.f0) := (blk_cell HX2.out 0).trans rfl
    have z1 : w2.cell? ⟨g, 1, none⟩ = some (.int .u16 r.f1) := (blk_cell HX2.out 1).trans rfl
    have z2 : w2.cell? ⟨g, 2, none⟩ = some (.int .u16 r.f2) := (blk_cell HX2.out 2).trans rfl
    have z3 : w2.cell? ⟨g, 3, none⟩ = some (.int .u32 r.f3) := (blk_cell HX2.out 3).trans rfl
    have z4 : w2.cell? ⟨g, 4, none⟩ = some (.slice A4 r.f4.length c4) := (blk_cell HX2.out 4).trans rfl
    have z5 : w2.cell? ⟨g, 5, none⟩ = some (.slice A5 r.f5.length c5) := (blk_cell HX2.out 5).trans rfl
    have z6 : w2.cell? ⟨g, 6, none⟩ = some (.slice A6 r.f6.length c6) := (blk_cell HX2.out 6).trans rfl
    go_wp2_with fail
    go_ret
    exact ⟨rfl, HB2.out⟩
theorem nameF_len (k : Nat) (out : List Int) (m : List UInt8 → Option Int) (s : ByteArray) : (nameF k out m s).1.length ≤ out.length + s.size + 2 := by
  induction k generalizing out m s with
  | zero => simp only [nameF]; omega
  | succ k ih =>
    unfold nameF
    by_cases h : s.size ≤ 1
    · rw [if_pos h]; simp; omega
    · rw [if_neg h]
      cases m s.data.toList with
      | some a => simp only []; rw [List.length_append, putL_length]; omega
      | none =>
        refine Nat.le_trans (ih _ _ _) ?_
        rw [List.length_append, bytesOf_length, ByteArray.size_extract, ByteArray.size_extract]
        omega
def Near (m : List UInt8 → Option Int) : Prop := ∀ l v, m l = some v → 0 ≤ v ∧ v < 16384
theorem nameF_near (k : Nat) (out : List Int) (m : List UInt8 → Option Int) (s : ByteArray) (hm : Near m) : Near (nameF k out m s).2 := by
  induction k generalizing out m s with
  | zero => exact hm
  | succ k ih =>
    unfold nameF
    by_cases h : s.size ≤ 1
    · rw [if_pos h]; exact hm
    · rw [if_neg h]
      cases m s.data.toList with
      | some a => exact hm
      | none =>
        refine ih _ _ _ ?_
        by_cases h2 : out.length < 16384
        · rw [if_pos h2]
          intro l v hl
          unfold updS at hl
          by_cases e : l = s.data.toList
          · rw [if_pos e] at hl
            have := Option.some.inj hl
            omega
          · rw [if_neg e] at hl
            exact hm l v hl
        · rw [if_neg h2]; exact hm
theorem isName_size {s : ByteArray} (h : isName s = true) : s.size ≤ 255 := by
  unfold isName split at h
  by_cases hb : 255 < s.size
  · rw [if_pos hb] at h; exact absurd h (by decide)
  · omega
theorem isName_ok {s : ByteArray} (h : isName s = true) : nameOk (s.size + 1) s := by
  have hs := isName_size h
  unfold isName split at h
  rw [if_neg (by omega)] at h
  exact nameOk_split _ _ _ h
def nameN (p : List Int × (List UInt8 → Option Int)) (s : ByteArray) : List Int × (List UInt8 → Option Int) := nameF (s.size + 1) p.1 p.2 s
theorem nameN_calls {w0 w : World} {q mb N : Nat} {p : List Int × (List UInt8 → Option Int)} (h : WAt w0 w q mb p.1 p.2 N) (hv : Near p.2) (s : ByteArray) (hs : isName s = true) (hl : p.1.length ≤ 10000000) (hN : N ≤ 1000000) :
    Calls Try.prog 33 #[.pointer (some ⟨q, 0, none⟩), .string s] w fun e w' => e = .returned (.tuple #[]) ∧ WAt w0 w' q mb (nameN p s).1 (nameN p s).2 (N + 256) ∧ KeepT w w' q mb := by
  have hz := isName_size hs
  refine (name_calls h hv s (s.size + 1) (by omega) (isName_ok hs) hz hl hN).mono ?_
  rintro e w' ⟨rfl, h1, h2⟩
  exact ⟨rfl, h1.more (by omega), h2⟩
theorem WAt.alloc {w0 w w1 : World} {q mb N : Nat} {out : List Int} {m : List UInt8 → Option Int} (h : WAt w0 w q mb out m N) (hb : Below w.heap.size w w1) : WAt w0 w1 q mb out m N := by
  obtain ⟨⟨v, hx, ho⟩, ⟨D, hM, hR⟩, h3, h4, h5, h6⟩ := h
  exact ⟨⟨v, blk_below hx hb, Kd.R_below ho hb⟩, ⟨D, mapOf_far hM (hb.block mb hM.lt), hR⟩, h3, h4, h5, h6.trans (hb.mono h6.size)⟩
theorem WAt.lt {w0 w : World} {q mb N : Nat} {out : List Int} {m : List UInt8 → Option Int} (h : WAt w0 w q mb out m N) : q < w.heap.size ∧ mb < w.heap.size := by
  obtain ⟨⟨v, hx, ho⟩, ⟨D, hM, hR⟩, h3, h4, h5, h6⟩ := h
  exact ⟨blk_lt hx, hM.lt⟩
def pointedB (k : Int) : Bool := if k = 2 then true else if k = 5 then true else if k = 12 then true else if k = 6 then true else if k = 15 then true else false
theorem pointed_calls (k : Int) (w : World) : Calls Try.prog 72 #[.int .u16 k] w fun e w' => e = .returned (.bool (pointedB k)) ∧ w = w' := by
  obtain ⟨x, hx⟩ : ∃ x, pointedB k = x := ⟨_, rfl⟩
  rw [hx]
  unfold pointedB at hx
  by_cases h1 : k = 2
  · subst h1; subst hx
    go_enter Try.func72, Try.ntmps72
    go_wp2
    go_ret
    exact ⟨rfl, rfl⟩
  by_cases h2 : k = 5
  · subst h2; subst hx
    go_enter Try.func72, Try.ntmps72
    go_wp2
    go_ret
    exact ⟨rfl, rfl⟩
  by_cases h3 : k = 12
  · subst h3; subst hx
    go_enter Try.func72, Try.ntmps72
    go_wp2
    go_ret
    exact ⟨rfl, rfl⟩
  by_cases h4 : k = 6
  · subst h4; subst hx
    go_enter Try.func72, Try.ntmps72
    go_wp2
    go_ret
    exact ⟨rfl, rfl⟩
  by_cases h5 : k = 15
  · subst h5; subst hx
    go_enter Try.func72, Try.ntmps72
    go_wp2
    go_ret
    exact ⟨rfl, rfl⟩
  rw [if_neg h1, if_neg h2, if_neg h3, if_neg h4, if_neg h5] at hx
  subst hx
  replace h1 : (k == 2) = false := beq_eq_false_iff_ne.mpr h1
  replace h2 : (k == 5) = false := beq_eq_false_iff_ne.mpr h2
  replace h3 : (k == 12) = false := beq_eq_false_iff_ne.mpr h3
  replace h4 : (k == 6) = false := beq_eq_false_iff_ne.mpr h4
  replace h5 : (k == 15) = false := beq_eq_false_iff_ne.mpr h5
  go_enter Try.func72, Try.ntmps72
  go_wp2
  go_ret
  exact ⟨rfl, rfl⟩
theorem plainS_size {r : Rec} (h : Small r ∧ (plainL r).length ≤ 65535 ∧ isName r.f0 = true ∧ (r.f4.any notName) = false ∧ shapedB r = true) : (plainS r).size ≤ 65535 := by
  unfold plainS
  split
  · have : (strOfNums (plainL r)).size = (plainL r).length := by simp [strOfNums, ByteArray.size]
    omega
  · exact Nat.zero_le _
theorem names_ok {l : List ByteArray} (h : (l.any notName) = false) {k : Nat} (hk : k < l.length) : isName (l.getD k ⟨#[]⟩) = true := by
  have := List.any_eq_false.1 h (l.getD k ⟨#[]⟩) (by rw [List.getD_eq_getElem?_getD, List.getElem?_eq_getElem hk]; exact List.getElem_mem hk)
  unfold notName at this
  simpa using this
def dataF (p : List Int × (List UInt8 → Option Int)) (r : Rec) : List Int × (List UInt8 → Option Int) :=
  if pointedB r.f1 = false then (p.1 ++ bytesOf (plainS r), p.2) else
  let a := if r.f1 = 15 then (p.1 ++ putL (r.f5.getD 0 0) 2, p.2) else p
  let b := r.f4.foldl nameN a
  if r.f1 = 6 then (b.1 ++ r.f5.flatMap (fun n => putL n 4), b.2) else b
set_option maxHeartbeats 4000000 in
set_option maxRecDepth 100000 in
theorem data_calls {w0 w : World} {q mb N : Nat} {p : List Int × (List UInt8 → Option Int)} (h : WAt w0 w q mb p.1 p.2 N) (hn : Near p.2) (r : Rec) (v : Value) (hv : RecAt w0 v r) (hF : Fine r) (hc : checkF r = 0) (hl : p.1.length ≤ 9000000) (hN : N ≤ 900000) :
    Calls Try.prog 57 #[.pointer (some ⟨q, 0, none⟩), v] w fun e w' => e = .returned (.tuple #[]) ∧ WAt w0 w' q mb (dataF p r).1 (dataF p r).2 (N + 512) ∧ KeepT w w' q mb := by
  obtain ⟨out, m⟩ := p
  have HV := Aside0.mk hv
  obtain ⟨A4, c4, A5, c5, A6, c6, rfl, l4, g4, l5, g5, l6, g6⟩ := hv
  have G4 := Aside0.mk g4
  have G5 := Aside0.mk g5
  have HF := Aside0.mk hF
  have HW := Aside0.mk (show WAt w0 w q mb out m N from h)
  have HN := Aside0.mk (show Near m from hn)
  have HC := Aside0.mk (check_small hF hc)
  have HL := Aside0.mk (show out.length ≤ 9000000 from hl)
  obtain ⟨R, hR⟩ : ∃ R, dataF (out, m) r = R := ⟨_, rfl⟩
  rw [hR]
  unfold dataF at hR
  clear g4 g5 g6 hF h hn hc hl
  obtain ⟨b, hb0⟩ : ∃ b, pointedB r.f1 = b := ⟨_, rfl⟩
  rw [hb0] at hR
  have HPt := Lib.hid hb0
  cases b with
  | false =>
    rw [if_pos rfl] at hR
    have HR := Lib.hid hR
    clear hb0 hR
    go_enter Try.func57, Try.ntmps57
    go_wp2_with (first | (((with_reducible refine gate_dst (N := 3) rfl ?_); refine box_event rfl (N := 3) rfl (cs := #[.string r.f0, .int .u16 r.f1, .int .u16 r.f2, .int .u32 r.f3, .slice A4 r.f4.length c4, .slice A5 r.f5.length c5, .slice A6 r.f6.length c6]) (t := 44) (by first | (go_simp; done) | (go_simp; rfl)) ?_; intro g hg w1 hbox hb); have HX := Aside0.mk hbox; have HB := Aside0.mk hb; have HGe := Aside0.mk hg; clear hb hg; have z0 : w1.cell? ⟨g, 0, none⟩ = some (.string r.f0) := (blk_cell HX.out 0).trans rfl; clear hbox; have z1 : w1.cell? ⟨g, 1, none⟩ = some (.int .u16 r.f1) := (blk_cell HX.out 1).trans rfl; have z2 : w1.cell? ⟨g, 2, none⟩ = some (.int .u16 r.f2) := (blk_cell HX.out 2).trans rfl; have z3 : w1.cell? ⟨g, 3, none⟩ = some (.int .u32 r.f3) := (blk_cell HX.out 3).trans rfl; have z4 : w1.cell? ⟨g, 4, none⟩ = some (.slice A4 r.f4.length c4) := (blk_cell HX.out 4).trans rfl; have z5 : w1.cell? ⟨g, 5, none⟩ = some (.slice A5 r.f5.length c5) := (blk_cell HX.out 5).trans rfl; have z6 : w1.cell? ⟨g, 6, none⟩ = some (.slice A6 r.f6.length c6) := (blk_cell HX.out 6).trans rfl) | (go_at_call 72; refine (pointed_calls r.f1 _).mono ?_; rw [HPt.out]; rintro e w' ⟨rfl, rfl⟩))
    have HW1 := HW.out.alloc HB.out
    have ht1 := KeepT.below HB.out q mb
    obtain ⟨⟨v, hcell, ho⟩, ⟨D, hmap, hrep⟩, hg, hmb, hne, hb⟩ := HW1
    obtain ⟨A, c, rfl, _, _⟩ := Kd.R_reads ho
    have y0 : w1.cell? ⟨q, 0, none⟩ = some (.slice A out.length c) := (blk_cell hcell 0).trans rfl
    refine start_ (n := 11) (S := fun w' => w'.cell? ⟨q, 0, none⟩ = some (.slice A out.length c) ∧ w'.cell? ⟨g, 0, none⟩ = some (.string r.f0) ∧ w'.cell? ⟨g, 1, none⟩ = some (.int .u16 r.f1) ∧ w'.cell? ⟨g, 2, none⟩ = some (.int .u16 r.f2) ∧ w'.cell? ⟨g, 3, none⟩ = some (.int .u32 r.f3) ∧ w'.cell? ⟨g, 4, none⟩ = some (.slice A4 r.f4.length c4) ∧ w'.cell? ⟨g, 5, none⟩ = some (.slice A5 r.f5.length c5) ∧ w'.cell? ⟨g, 6, none⟩ = some (.slice A6 r.f6.length c6)) (ds := [10]) (Array.replicate 11 false) (by kernel_rfl) (by kernel_rfl) rfl ⟨y0, z0, z1, z2, z3, z4, z5, z6⟩ (fun hS => ?_)
    refine dpure 0 (some 12) rfl rfl (by kernel_rfl) (fun _ _ _ h => h) (by rfl) (v := ?_) (a' := ?_) ?_ ?_ ?_
    rotate_left 2
    · intro w'; go_simp; with_reducible rfl
    · simp only [Act.put, List.setIfInBounds_toArray, List.set_cons_zero, List.set_cons_succ]; rfl
    refine dpure 1 (some 13) rfl rfl (by kernel_rfl) (fun _ _ _ h => h) (by rfl) (v := ?_) (a' := ?_) ?_ ?_ ?_
    rotate_left 2
    · intro w'; go_simp; with_reducible rfl
    · simp only [Act.put, List.setIfInBounds_toArray, List.set_cons_zero, List.set_cons_succ]; rfl
    refine dpure 2 (some 14) rfl rfl (by kernel_rfl) (fun _ _ _ h => h) (by rfl) (v := ?_) (a' := ?_) ?_ ?_ ?_
    rotate_left 2
    · intro w'; go_simp; with_reducible rfl
    · simp only [Act.put, List.setIfInBounds_toArray, List.set_cons_zero, List.set_cons_succ]; rfl
    refine dpure 3 (some 15) rfl rfl (by kernel_rfl) (fun _ _ _ h => h) (by rfl) (v := ?_) (a' := ?_) ?_ ?_ ?_
    rotate_left 2
    · intro w'; go_simp; with_reducible rfl
    · simp only [Act.put, List.setIfInBounds_toArray, List.set_cons_zero, List.set_cons_succ]; rfl
    refine dtake 4 (some 16) rfl rfl (by kernel_rfl) (fun _ _ _ h => h) (by rfl) hS (v := ?_) (a' := ?_) ?_ ?_ ?_
    rotate_left 2
    · rintro w' ⟨s0,s1,s2,s3,s4,s5,s6,s7⟩; go_simp; with_reducible rfl
    · simp only [Act.put, List.setIfInBounds_toArray, List.set_cons_zero, List.set_cons_succ]; rfl
    refine dtake 5 (some 17) rfl rfl (by kernel_rfl) (fun _ _ _ h => h) (by rfl) hS (v := ?_) (a' := ?_) ?_ ?_ ?_
    rotate_left 2
    · rintro w' ⟨s0,s1,s2,s3,s4,s5,s6,s7⟩; go_simp; with_reducible rfl
    · simp only [Act.put, List.setIfInBounds_toArray, List.set_cons_zero, List.set_cons_succ]; rfl
    refine done1 6 (some 18) rfl rfl (by kernel_rfl) (by decide) (fun K hK => ?_)
    refine goes_ Try.func73 (by kernel_rfl) rfl #[.agg #[.string r.f0, .int .u16 r.f1, .int .u16 r.f2, .int .u32 r.f3, .slice A4 r.f4.length c4, .slice A5 r.f5.length c5, .slice A6 r.f6.length c6]] (by rfl) rfl rfl (by kernel_rfl) ?_
    refine (Plain_calls r _ w1.drew (HV.out.below hb.drew) HF.out).mono ?_
    rintro e w2 ⟨rfl, hb2⟩
    refine ⟨_, rfl, ?_⟩
    have HX2 := blk_below (blk_drew HX.out) hb2
    have hx2 := blk_below (blk_drew hcell) hb2
    have ho2 := Kd.R_below (Kd.R_drew ho) hb2
    have hm2 := mapOf_far hmap (hb2.block mb hmap.lt)
    have hbb2 := hb.trans ((undrew hb2).mono hb.size)
    have ht2 := (ht1.trans (KeepT.drew w1 q mb)).trans (KeepT.below hb2 q mb)
    refine hK.out _ _ ⟨(blk_cell hx2 0).trans rfl, (blk_cell HX2 0).trans rfl, (blk_cell HX2 1).trans rfl, (blk_cell HX2 2).trans rfl, (blk_cell HX2 3).trans rfl, (blk_cell HX2 4).trans rfl, (blk_cell HX2 5).trans rfl, (blk_cell HX2 6).trans rfl⟩ (fun hS => ?_)
    clear hK K
    refine norm_ (a' := ?_) ?_ ?_
    rotate_left
    · simp only [Act.put, List.setIfInBounds_toArray, List.set_cons_zero, List.set_cons_succ]; rfl
    refine done1 7 (some 19) rfl rfl (by kernel_rfl) (by decide) (fun K hK => ?_)
    refine app8s_step (w0 := w0) (base := w0.heap.size) (some 19) rfl (by rfl) (.tmp 16) (.tmp 18) (by kernel_rfl) (by kernel_rfl) (by kernel_rfl) (y := plainS r) ho2 hbb2 hbb2.size (by have := HL.out; have := plainS_size HC.out; omega) ?_
    intro v3 w3 ho3 hb3 hg3
    obtain ⟨A3, c3, rfl⟩ := Kd.R_slice ho3
    have HX3 := blk_grown HX2 hg3 (Kd.R_ne ho2 HX2 (by decide))
    have hx3 := blk_grown hx2 hg3 (Kd.R_ne ho2 hx2 (by decide))
    have hm3 := mapOf_far hm2 (hg3.block mb hm2.lt (map_ne hm2 ho2))
    have f3 : w3.frozen? ⟨q, 0, none⟩ = false := blk_frozen hx3 0
    have y3 : w3.cell? ⟨q, 0, none⟩ = some (.slice A out.length c) := (blk_cell hx3 0).trans rfl
    have ht3 := (ht2.trans (KeepT.grown ho2 hg3 q mb)).trans (KeepT.set w3 q mb 0 (.slice A3 (out ++ bytesOf (plainS r)).length c3))
    refine hK.out _ _ ⟨(blk_cell hx3 0).trans rfl, (blk_cell HX3 0).trans rfl, (blk_cell HX3 1).trans rfl, (blk_cell HX3 2).trans rfl, (blk_cell HX3 3).trans rfl, (blk_cell HX3 4).trans rfl, (blk_cell HX3 5).trans rfl, (blk_cell HX3 6).trans rfl⟩ (fun hS => ?_)
    clear hK K
    refine norm_ (a' := ?_) ?_ ?_
    rotate_left
    · simp only [Act.put, List.setIfInBounds_toArray, List.set_cons_zero, List.set_cons_succ]; rfl
    refine dpure 8 (some 20) rfl rfl (by kernel_rfl) (fun _ _ _ h => h) (by rfl) (v := ?_) (a' := ?_) ?_ ?_ ?_
    rotate_left 2
    · intro w'; go_simp; with_reducible rfl
    · simp only [Act.put, List.setIfInBounds_toArray, List.set_cons_zero, List.set_cons_succ]; rfl
    refine dpure 9 (some 21) rfl rfl (by kernel_rfl) (fun _ _ _ h => h) (by rfl) (v := ?_) (a' := ?_) ?_ ?_ ?_
    rotate_left 2
    · intro w'; go_simp; with_reducible rfl
    · simp only [Act.put, List.setIfInBounds_toArray, List.set_cons_zero, List.set_cons_succ]; rfl
    refine dlast 10 (Array.getElem?_eq_getElem (by decide)) (by kernel_rfl) (List.mem_singleton.2 rfl) ?_
    intro K hK
    refine dskip (w1 := w3.setCell ⟨q, 0, none⟩ (.slice A3 (out ++ bytesOf (plainS r)).length c3)) (by kernel_rfl) (by kernel_rfl) ?_ ?_
    · go_simp
    refine hK.out _ _ (done_ (by kernel_rfl) ?_)
    clear hK K
    have e4 := (WAt.stored hx3 ho3 hm3 hrep hg hmb hne hb3).more (N' := N + 512) (by omega)
    have HW4 := Aside0.mk e4
    have HT4 := Aside0.mk ht3
    clear e4 ht3
    go_wp2_with fail
    refine bodyPost_ret (results_none rfl _ _ _) rfl ⟨rfl, ?_, HT4.out⟩
    rw [← HR.out]
    exact HW4.out
  | true =>
    rw [if_neg (by decide)] at hR
    have hsh := of_decide_eq_true (Bool.and_eq_true_iff.1 HC.out.2.2.2.2).1
    obtain ⟨s1, s2, s3⟩ := shapeOf_le r.f1
    have k4 : r.f4.length ≤ 2 := by omega
    have k5 : r.f5.length ≤ 5 := by omega
    have H15 := Lib.hid (show r.f1 = 15 → 0 < r.f5.length by intro h; rw [h] at hsh; have := hsh.2.1; simp [shapeOf] at this; omega)
    have hq := HW.out.lt
    have HQ := Aside0.mk hq
    clear hsh s1 s2 s3 hb0 hq
    by_cases t15 : r.f1 = 15
    · have e15 : (r.f1 == 15) = true := beq_iff_eq.mpr t15
      have e6 : (r.f1 == 6) = false := beq_eq_false_iff_ne.mpr (by omega)
      rw [if_pos t15, if_neg (by omega)] at hR
      have HR := Lib.hid hR
      have hl0 := H15.out t15
      obtain ⟨n0, n1⟩ := HF.out.wf 0 hl0
      obtain ⟨n, hn⟩ : ∃ n, r.f5.getD 0 0 = n := ⟨_, rfl⟩
      rw [hn] at n0 n1
      have HNn := Lib.hid hn
      obtain ⟨ad, rfl, hcell⟩ := at_int G5.out 0 hl0
      rw [HNn.out, show ad.add 0 = ad from rfl] at hcell
      have q1 : (0 : Int) < (r.f5.length : Int) := by omega
      clear t15 hR hn
      go_enter Try.func57, Try.ntmps57
      go_wp2_with (first | ((((with_reducible refine gate_dst (N := 3) rfl ?_); refine box_event rfl (N := 3) rfl (cs := #[.string r.f0, .int .u16 r.f1, .int .u16 r.f2, .int .u32 r.f3, .slice A4 r.f4.length c4, .slice (some ad) r.f5.length c5, .slice A6 r.f6.length c6]) (t := 44) (by first | (go_simp; done) | (go_simp; rfl)) ?_; intro g hg w1 hbox hb); have HX := Aside0.mk hbox; have HB := Aside0.mk hb; have HGe := Aside0.mk hg; clear hb hg; have z0 : w1.cell? ⟨g, 0, none⟩ = some (.string r.f0) := (blk_cell HX.out 0).trans rfl; clear hbox; have z1 : w1.cell? ⟨g, 1, none⟩ = some (.int .u16 r.f1) := (blk_cell HX.out 1).trans rfl; have z2 : w1.cell? ⟨g, 2, none⟩ = some (.int .u16 r.f2) := (blk_cell HX.out 2).trans rfl; have z3 : w1.cell? ⟨g, 3, none⟩ = some (.int .u32 r.f3) := (blk_cell HX.out 3).trans rfl; have z4 : w1.cell? ⟨g, 4, none⟩ = some (.slice A4 r.f4.length c4) := (blk_cell HX.out 4).trans rfl; have z5 : w1.cell? ⟨g, 5, none⟩ = some (.slice (some ad) r.f5.length c5) := (blk_cell HX.out 5).trans rfl; have z6 : w1.cell? ⟨g, 6, none⟩ = some (.slice A6 r.f6.length c6) := (blk_cell HX.out 6).trans rfl); have hcell2 := pw_cell_below (HW.out.alloc HB.out).below hcell) | (go_at_call 72; refine (pointed_calls r.f1 _).mono ?_; rw [HPt.out]; rintro e w' ⟨rfl, rfl⟩))
      refine (num_calls (HW.out.alloc HB.out) n 2 (by decide) (by decide) n0 n1 (by have := HL.out; omega)).mono ?_
      rintro e w2 ⟨rfl, hw2, ht2⟩
      have hgq : g ≠ q := by rw [HGe.out]; have := HQ.out.1; omega
      have hgm : g ≠ mb := by rw [HGe.out]; have := HQ.out.2; omega
      have HX2 := Aside0.mk (ht2.2 g _ _ HX.out (by decide) hgq hgm)
      have HT2 := Aside0.mk ((KeepT.below HB.out q mb).trans ht2)
      have HW2 := Aside0.mk hw2
      clear z0 z1 z2 z3 z4 z5 z6 hw2 ht2
      have z0 : w2.cell? ⟨g, 0, none⟩ = some (.string r.f0) := (blk_cell HX2.out 0).trans rfl
      have z1 : w2.cell? ⟨g, 1, none⟩ = some (.int .u16 r.f1) := (blk_cell HX2.out 1).trans rfl
      have z2 : w2.cell? ⟨g, 2, none⟩ = some (.int .u16 r.f2) := (blk_cell HX2.out 2).trans rfl
      have z3 : w2.cell? ⟨g, 3, none⟩ = some (.int .u32 r.f3) := (blk_cell HX2.out 3).trans rfl
      have z4 : w2.cell? ⟨g, 4, none⟩ = some (.slice A4 r.f4.length c4) := (blk_cell HX2.out 4).trans rfl
      have z5 : w2.cell? ⟨g, 5, none⟩ = some (.slice (some ad) r.f5.length c5) := (blk_cell HX2.out 5).trans rfl
      have z6 : w2.cell? ⟨g, 6, none⟩ = some (.slice A6 r.f6.length c6) := (blk_cell HX2.out 6).trans rfl
      go_wp2_with fail
      have HN0 := HN
      have HG0 := Aside0.mk (show w2.heap[g]? = w2.heap[g]? from rfl)
      go_loopw [35] (fun t wr => ∃ (k : Nat) (p : List Int × (List UInt8 → Option Int)), t = .int .i64 k ∧ Aside0 (k ≤ r.f4.length) ∧ Aside0 ((r.f4.drop k).foldl nameN p = r.f4.foldl nameN (out ++ putL n 2, m)) ∧ Aside0 (Near p.2) ∧ Aside0 (p.1.length ≤ 9000010 + 300 * k) ∧ Aside0 (WAt w0 wr q mb p.1 p.2 (N + 256 * k)) ∧ Aside0 (KeepT w wr q mb) ∧ Aside0 (wr.heap[g]? = w2.heap[g]?)) (fun t _ => r.f4.length - (intOf t).toNat)
      case atStart => exact ⟨0, (out ++ putL n 2, m), rfl, ⟨Nat.zero_le _⟩, ⟨rfl⟩, HN0, ⟨by have := HL.out; (simp only [List.length_append, putL_length]; omega)⟩, HW2, HT2, HG0⟩
      case round =>
        clear HG0 z0 z1 z2 z3 z4 z5 z6
        obtain ⟨k, p, rfl, HK, HE, HNr, HLr, HWr, HTr, HGr⟩ := hrel
        have HXr := Aside0.mk (HGr.out.trans HX2.out)
        have z0 : wr.cell? ⟨g, 0, none⟩ = some (.string r.f0) := (blk_cell HXr.out 0).trans rfl
        have z1 : wr.cell? ⟨g, 1, none⟩ = some (.int .u16 r.f1) := (blk_cell HXr.out 1).trans rfl
        have z2 : wr.cell? ⟨g, 2, none⟩ = some (.int .u16 r.f2) := (blk_cell HXr.out 2).trans rfl
        have z3 : wr.cell? ⟨g, 3, none⟩ = some (.int .u32 r.f3) := (blk_cell HXr.out 3).trans rfl
        have z4 : wr.cell? ⟨g, 4, none⟩ = some (.slice A4 r.f4.length c4) := (blk_cell HXr.out 4).trans rfl
        have z5 : wr.cell? ⟨g, 5, none⟩ = some (.slice (some ad) r.f5.length c5) := (blk_cell HXr.out 5).trans rfl
        have z6 : wr.cell? ⟨g, 6, none⟩ = some (.slice A6 r.f6.length c6) := (blk_cell HXr.out 6).trans rfl
        by_cases hk : k < r.f4.length
        · obtain ⟨ad4, h4, hcell⟩ := at_str (Kd.C_below G4.out HWr.out.below) k hk
          subst h4
          have q1 : (0 : Int) ≤ (k : Int) := by omega
          have q2 : (k : Int) < (r.f4.length : Int) := by omega
          have hs := names_ok HC.out.2.2.2.1 hk
          have he := HE.out
          rw [drop_get ⟨#[]⟩ r.f4 k hk, List.foldl_cons] at he
          obtain ⟨s, hs'⟩ : ∃ s, r.f4.getD k ⟨#[]⟩ = s := ⟨_, rfl⟩
          rw [hs'] at hcell hs he
          have HE1 := Aside0.mk he
          have HSn := Lib.hid hs
          clear he hs hs' HE
          go_wp2_with fail
          refine (nameN_calls HWr.out HNr.out s HSn.out (by have := HLr.out; omega) (by omega)).mono ?_
          rintro e w4 ⟨rfl, hw4, ht4⟩
          have HW4 := Aside0.mk (hw4.more (N' := N + 256 * (k + 1)) (by omega))
          have HT4 := Aside0.mk (HTr.out.trans ht4)
          have HG4 := Aside0.mk ((ht4.2 g _ _ HXr.out (by decide) hgq hgm).trans HX2.out.symm)
          have HL4 := Aside0.mk (Nat.le_trans (nameF_len (s.size + 1) p.1 p.2 s) (show p.1.length + s.size + 2 ≤ 9000010 + 300 * (k + 1) by have := HLr.out; have := isName_size HSn.out; omega))
          have HN4 := Aside0.mk (nameF_near (s.size + 1) p.1 p.2 s HNr.out)
          clear hw4 ht4 z0 z1 z2 z3 z4 z5 z6
          go_wp2_with fail
          go_roundw
          case rel => exact ⟨k + 1, nameN p s, by go_num, ⟨hk⟩, HE1, HN4, HL4, HW4, HT4, HG4⟩
          case measure => simp [intOf]; omega
        · have hk' : k = r.f4.length := by have := HK.out; omega
          have HF2 := Lib.hid (show p = R by rw [← HR.out, HNn.out, ← HE.out, hk', List.drop_length]; rfl)
          clear hk'
          go_wp2_with fail
          refine bodyPost_end (results_none rfl _ _ _) rfl ⟨rfl, ?_, HTr.out⟩
          rw [← HF2.out]
          exact HWr.out.more (by have := HK.out; omega)
    · have e15 : (r.f1 == 15) = false := beq_eq_false_iff_ne.mpr t15
      rw [if_neg t15] at hR
      have T15 := Lib.hid t15
      clear t15
      go_enter Try.func57, Try.ntmps57
      by_cases t6 : r.f1 = 6
      · have e6 : (r.f1 == 6) = true := beq_iff_eq.mpr t6
        rw [if_pos t6] at hR
        have HR := Lib.hid hR
        clear t6 hR
        go_wp2_with (first | (((with_reducible refine gate_dst (N := 3) rfl ?_); refine box_event rfl (N := 3) rfl (cs := #[.string r.f0, .int .u16 r.f1, .int .u16 r.f2, .int .u32 r.f3, .slice A4 r.f4.length c4, .slice A5 r.f5.length c5, .slice A6 r.f6.length c6]) (t := 44) (by first | (go_simp; done) | (go_simp; rfl)) ?_; intro g hg w1 hbox hb); have HX := Aside0.mk hbox; have HB := Aside0.mk hb; have HGe := Aside0.mk hg; clear hb hg; have z0 : w1.cell? ⟨g, 0, none⟩ = some (.string r.f0) := (blk_cell HX.out 0).trans rfl; clear hbox; have z1 : w1.cell? ⟨g, 1, none⟩ = some (.int .u16 r.f1) := (blk_cell HX.out 1).trans rfl; have z2 : w1.cell? ⟨g, 2, none⟩ = some (.int .u16 r.f2) := (blk_cell HX.out 2).trans rfl; have z3 : w1.cell? ⟨g, 3, none⟩ = some (.int .u32 r.f3) := (blk_cell HX.out 3).trans rfl; have z4 : w1.cell? ⟨g, 4, none⟩ = some (.slice A4 r.f4.length c4) := (blk_cell HX.out 4).trans rfl; have z5 : w1.cell? ⟨g, 5, none⟩ = some (.slice A5 r.f5.length c5) := (blk_cell HX.out 5).trans rfl; have z6 : w1.cell? ⟨g, 6, none⟩ = some (.slice A6 r.f6.length c6) := (blk_cell HX.out 6).trans rfl) | (go_at_call 72; refine (pointed_calls r.f1 _).mono ?_; rw [HPt.out]; rintro e w' ⟨rfl, rfl⟩))
        have hgq : g ≠ q := by rw [HGe.out]; have := HQ.out.1; omega
        have hgm : g ≠ mb := by rw [HGe.out]; have := HQ.out.2; omega
        have HT2 := Aside0.mk (KeepT.below HB.out q mb)
        have HW2 := Aside0.mk (HW.out.alloc HB.out)
        have HN0 := HN
        have HG0 := Aside0.mk (show w1.heap[g]? = w1.heap[g]? from rfl)
        go_loopw [35] (fun t wr => ∃ (k : Nat) (p : List Int × (List UInt8 → Option Int)), t = .int .i64 k ∧ Aside0 (k ≤ r.f4.length) ∧ Aside0 ((r.f4.drop k).foldl nameN p = r.f4.foldl nameN (out, m)) ∧ Aside0 (Near p.2) ∧ Aside0 (p.1.length ≤ 9000010 + 300 * k) ∧ Aside0 (WAt w0 wr q mb p.1 p.2 (N + 256 * k)) ∧ Aside0 (KeepT w wr q mb) ∧ Aside0 (wr.heap[g]? = w1.heap[g]?)) (fun t _ => r.f4.length - (intOf t).toNat)
        case atStart => exact ⟨0, (out, m), rfl, ⟨Nat.zero_le _⟩, ⟨rfl⟩, HN0, ⟨by have := HL.out; (simp only []; omega)⟩, HW2, HT2, HG0⟩
        case round =>
          clear HG0 z0 z1 z2 z3 z4 z5 z6
          obtain ⟨k, p, rfl, HK, HE, HNr, HLr, HWr, HTr, HGr⟩ := hrel
          have HXr := Aside0.mk (HGr.out.trans HX.out)
          have z0 : wr.cell? ⟨g, 0, none⟩ = some (.string r.f0) := (blk_cell HXr.out 0).trans rfl
          have z1 : wr.cell? ⟨g, 1, none⟩ = some (.int .u16 r.f1) := (blk_cell HXr.out 1).trans rfl
          have z2 : wr.cell? ⟨g, 2, none⟩ = some (.int .u16 r.f2) := (blk_cell HXr.out 2).trans rfl
          have z3 : wr.cell? ⟨g, 3, none⟩ = some (.int .u32 r.f3) := (blk_cell HXr.out 3).trans rfl
          have z4 : wr.cell? ⟨g, 4, none⟩ = some (.slice A4 r.f4.length c4) := (blk_cell HXr.out 4).trans rfl
          have z5 : wr.cell? ⟨g, 5, none⟩ = some (.slice A5 r.f5.length c5) := (blk_cell HXr.out 5).trans rfl
          have z6 : wr.cell? ⟨g, 6, none⟩ = some (.slice A6 r.f6.length c6) := (blk_cell HXr.out 6).trans rfl
          by_cases hk : k < r.f4.length
          · obtain ⟨ad4, h4, hcell⟩ := at_str (Kd.C_below G4.out HWr.out.below) k hk
            subst h4
            have q1 : (0 : Int) ≤ (k : Int) := by omega
            have q2 : (k : Int) < (r.f4.length : Int) := by omega
            have hs := names_ok HC.out.2.2.2.1 hk
            have he := HE.out
            rw [drop_get ⟨#[]⟩ r.f4 k hk, List.foldl_cons] at he
            obtain ⟨s, hs'⟩ : ∃ s, r.f4.getD k ⟨#[]⟩ = s := ⟨_, rfl⟩
            rw [hs'] at hcell hs he
            have HE1 := Aside0.mk he
            have HSn := Lib.hid hs
            clear he hs hs' HE
            go_wp2_with fail
            refine (nameN_calls HWr.out HNr.out s HSn.out (by have := HLr.out; omega) (by omega)).mono ?_
            rintro e w4 ⟨rfl, hw4, ht4⟩
            have HW4 := Aside0.mk (hw4.more (N' := N + 256 * (k + 1)) (by omega))
            have HT4 := Aside0.mk (HTr.out.trans ht4)
            have HG4 := Aside0.mk ((ht4.2 g _ _ HXr.out (by decide) hgq hgm).trans HX.out.symm)
            have HL4 := Aside0.mk (Nat.le_trans (nameF_len (s.size + 1) p.1 p.2 s) (show p.1.length + s.size + 2 ≤ 9000010 + 300 * (k + 1) by have := HLr.out; have := isName_size HSn.out; omega))
            have HN4 := Aside0.mk (nameF_near (s.size + 1) p.1 p.2 s HNr.out)
            clear hw4 ht4 z0 z1 z2 z3 z4 z5 z6
            go_wp2_with fail
            go_roundw
            case rel => exact ⟨k + 1, nameN p s, by go_num, ⟨hk⟩, HE1, HN4, HL4, HW4, HT4, HG4⟩
            case measure => simp [intOf]; omega
          · have hk' : k = r.f4.length := by have := HK.out; omega
            obtain ⟨o2, m2⟩ := p
            have HF2 := Lib.hid (show (o2 ++ r.f5.flatMap (fun n => putL n 4), m2) = R by rw [← HR.out, ← HE.out, hk', List.drop_length]; rfl)
            have HLo := Aside0.mk (show o2.length ≤ 9001000 by have := HLr.out; simp only at this; omega)
            have HWo := Aside0.mk (show WAt w0 wr q mb o2 m2 (N + 512) from HWr.out.more (by have := HK.out; omega))
            have HX5 := HXr
            clear hk' HK HE HNr HLr HWr HGr
            go_wp2_with fail
            obtain ⟨wo, hwo⟩ : ∃ wo, wo = wr.heap[g]? := ⟨_, rfl⟩
            have HG0 := Aside0.mk hwo.symm
            have HX6 := Aside0.mk (hwo.trans HX5.out)
            clear hwo HX5 HXr
            go_loopw [49] (fun t wr => ∃ (k : Nat) (o3 : List Int), t = .int .i64 k ∧ Aside0 (k ≤ r.f5.length) ∧ Aside0 (o3 = o2 ++ (r.f5.take k).flatMap (fun n => putL n 4)) ∧ Aside0 (o3.length = o2.length + 4 * k) ∧ Aside0 (WAt w0 wr q mb o3 m2 (N + 512)) ∧ Aside0 (KeepT w wr q mb) ∧ Aside0 (wr.heap[g]? = wo)) (fun t _ => r.f5.length - (intOf t).toNat)
            case atStart => exact ⟨0, o2, rfl, ⟨Nat.zero_le _⟩, ⟨by simp⟩, ⟨rfl⟩, HWo, HTr, HG0⟩
            case round =>
              clear HWo HTr HG0 z0 z1 z2 z3 z4 z5 z6
              obtain ⟨k, o3, rfl, HK, HE, HLr, HWr, HTr, HGr⟩ := hrel
              have HXr := Aside0.mk (HGr.out.trans HX6.out)
              by_cases hk : k < r.f5.length
              · obtain ⟨ad5, h5, hcell⟩ := at_int (Kd.C_below G5.out HWr.out.below) k hk
                subst h5
                have q1 : (0 : Int) ≤ (k : Int) := by omega
                have q2 : (k : Int) < (r.f5.length : Int) := by omega
                obtain ⟨n0, n1⟩ := HF.out.wf k hk
                have HE1 := Aside0.mk (flat_snoc 0 (fun n => putL n 4) r.f5 k hk)
                obtain ⟨n, hn⟩ : ∃ n, r.f5.getD k 0 = n := ⟨_, rfl⟩
                rw [hn] at n0 n1
                simp only [hn] at hcell HE1
                clear hn
                go_wp2_with fail
                refine (num_calls HWr.out n 4 (by decide) (by decide) n0 n1 (by have := HLr.out; have := HLo.out; omega)).mono ?_
                rintro e w4 ⟨rfl, hw4, ht4⟩
                have HW4 := Aside0.mk hw4
                have HT4 := Aside0.mk (HTr.out.trans ht4)
                have HG4 := Aside0.mk ((ht4.2 g _ _ HXr.out (by decide) hgq hgm).trans HX6.out.symm)
                clear hw4 ht4
                go_wp2_with fail
                go_roundw
                case rel => exact ⟨k + 1, o3 ++ putL n 4, by go_num, ⟨hk⟩, ⟨by rw [HE1.out, HE.out, List.append_assoc]⟩, ⟨by have := HLr.out; rw [List.length_append, putL_length]; omega⟩, HW4, HT4, HG4⟩
                case measure => simp [intOf]; omega
              · have hk' : k = r.f5.length := by have := HK.out; omega
                have HF3 := Lib.hid (show (o3, m2) = R by rw [← HF2.out, HE.out, hk', List.take_length])
                clear hk'
                go_wp2_with fail
                refine bodyPost_end (results_none rfl _ _ _) rfl ⟨rfl, ?_, HTr.out⟩
                rw [← HF3.out]
                exact HWr.out
      · have e6 : (r.f1 == 6) = false := beq_eq_false_iff_ne.mpr t6
        rw [if_neg t6] at hR
        have HR := Lib.hid hR
        clear t6 hR
        go_wp2_with (first | (((with_reducible refine gate_dst (N := 3) rfl ?_); refine box_event rfl (N := 3) rfl (cs := #[.string r.f0, .int .u16 r.f1, .int .u16 r.f2, .int .u32 r.f3, .slice A4 r.f4.length c4, .slice A5 r.f5.length c5, .slice A6 r.f6.length c6]) (t := 44) (by first | (go_simp; done) | (go_simp; rfl)) ?_; intro g hg w1 hbox hb); have HX := Aside0.mk hbox; have HB := Aside0.mk hb; have HGe := Aside0.mk hg; clear hb hg; have z0 : w1.cell? ⟨g, 0, none⟩ = some (.string r.f0) := (blk_cell HX.out 0).trans rfl; clear hbox; have z1 : w1.cell? ⟨g, 1, none⟩ = some (.int .u16 r.f1) := (blk_cell HX.out 1).trans rfl; have z2 : w1.cell? ⟨g, 2, none⟩ = some (.int .u16 r.f2) := (blk_cell HX.out 2).trans rfl; have z3 : w1.cell? ⟨g, 3, none⟩ = some (.int .u32 r.f3) := (blk_cell HX.out 3).trans rfl; have z4 : w1.cell? ⟨g, 4, none⟩ = some (.slice A4 r.f4.length c4) := (blk_cell HX.out 4).trans rfl; have z5 : w1.cell? ⟨g, 5, none⟩ = some (.slice A5 r.f5.length c5) := (blk_cell HX.out 5).trans rfl; have z6 : w1.cell? ⟨g, 6, none⟩ = some (.slice A6 r.f6.length c6) := (blk_cell HX.out 6).trans rfl) | (go_at_call 72; refine (pointed_calls r.f1 _).mono ?_; rw [HPt.out]; rintro e w' ⟨rfl, rfl⟩))
        have hgq : g ≠ q := by rw [HGe.out]; have := HQ.out.1; omega
        have hgm : g ≠ mb := by rw [HGe.out]; have := HQ.out.2; omega
        have HT2 := Aside0.mk (KeepT.below HB.out q mb)
        have HW2 := Aside0.mk (HW.out.alloc HB.out)
        have HN0 := HN
        have HG0 := Aside0.mk (show w1.heap[g]? = w1.heap[g]? from rfl)
        go_loopw [35] (fun t wr => ∃ (k : Nat) (p : List Int × (List UInt8 → Option Int)), t = .int .i64 k ∧ Aside0 (k ≤ r.f4.length) ∧ Aside0 ((r.f4.drop k).foldl nameN p = r.f4.foldl nameN (out, m)) ∧ Aside0 (Near p.2) ∧ Aside0 (p.1.length ≤ 9000010 + 300 * k) ∧ Aside0 (WAt w0 wr q mb p.1 p.2 (N + 256 * k)) ∧ Aside0 (KeepT w wr q mb) ∧ Aside0 (wr.heap[g]? = w1.heap[g]?)) (fun t _ => r.f4.length - (intOf t).toNat)
        case atStart => exact ⟨0, (out, m), rfl, ⟨Nat.zero_le _⟩, ⟨rfl⟩, HN0, ⟨by have := HL.out; (simp only []; omega)⟩, HW2, HT2, HG0⟩
        case round =>
          clear HG0 z0 z1 z2 z3 z4 z5 z6
          obtain ⟨k, p, rfl, HK, HE, HNr, HLr, HWr, HTr, HGr⟩ := hrel
          have HXr := Aside0.mk (HGr.out.trans HX.out)
          have z0 : wr.cell? ⟨g, 0, none⟩ = some (.string r.f0) := (blk_cell HXr.out 0).trans rfl
          have z1 : wr.cell? ⟨g, 1, none⟩ = some (.int .u16 r.f1) := (blk_cell HXr.out 1).trans rfl
          have z2 : wr.cell? ⟨g, 2, none⟩ = some (.int .u16 r.f2) := (blk_cell HXr.out 2).trans rfl
          have z3 : wr.cell? ⟨g, 3, none⟩ = some (.int .u32 r.f3) := (blk_cell HXr.out 3).trans rfl
          have z4 : wr.cell? ⟨g, 4, none⟩ = some (.slice A4 r.f4.length c4) := (blk_cell HXr.out 4).trans rfl
          have z5 : wr.cell? ⟨g, 5, none⟩ = some (.slice A5 r.f5.length c5) := (blk_cell HXr.out 5).trans rfl
          have z6 : wr.cell? ⟨g, 6, none⟩ = some (.slice A6 r.f6.length c6) := (blk_cell HXr.out 6).trans rfl
          by_cases hk : k < r.f4.length
          · obtain ⟨ad4, h4, hcell⟩ := at_str (Kd.C_below G4.out HWr.out.below) k hk
            subst h4
            have q1 : (0 : Int) ≤ (k : Int) := by omega
            have q2 : (k : Int) < (r.f4.length : Int) := by omega
            have hs := names_ok HC.out.2.2.2.1 hk
            have he := HE.out
            rw [drop_get ⟨#[]⟩ r.f4 k hk, List.foldl_cons] at he
            obtain ⟨s, hs'⟩ : ∃ s, r.f4.getD k ⟨#[]⟩ = s := ⟨_, rfl⟩
            rw [hs'] at hcell hs he
            have HE1 := Aside0.mk he
            have HSn := Lib.hid hs
            clear he hs hs' HE
            go_wp2_with fail
            refine (nameN_calls HWr.out HNr.out s HSn.out (by have := HLr.out; omega) (by omega)).mono ?_
            rintro e w4 ⟨rfl, hw4, ht4⟩
            have HW4 := Aside0.mk (hw4.more (N' := N + 256 * (k + 1)) (by omega))
            have HT4 := Aside0.mk (HTr.out.trans ht4)
            have HG4 := Aside0.mk ((ht4.2 g _ _ HXr.out (by decide) hgq hgm).trans HX.out.symm)
            have HL4 := Aside0.mk (Nat.le_trans (nameF_len (s.size + 1) p.1 p.2 s) (show p.1.length + s.size + 2 ≤ 9000010 + 300 * (k + 1) by have := HLr.out; have := isName_size HSn.out; omega))
            have HN4 := Aside0.mk (nameF_near (s.size + 1) p.1 p.2 s HNr.out)
            clear hw4 ht4 z0 z1 z2 z3 z4 z5 z6
            go_wp2_with fail
            go_roundw
            case rel => exact ⟨k + 1, nameN p s, by go_num, ⟨hk⟩, HE1, HN4, HL4, HW4, HT4, HG4⟩
            case measure => simp [intOf]; omega
          · have hk' : k = r.f4.length := by have := HK.out; omega
            have HF2 := Lib.hid (show p = R by rw [← HR.out, ← HE.out, hk', List.drop_length]; rfl)
            clear hk'
            go_wp2_with fail
            refine bodyPost_end (results_none rfl _ _ _) rfl ⟨rfl, ?_, HTr.out⟩
            rw [← HF2.out]
            exact HWr.out.more (by have := HK.out; omega)
end Go.Proofs.Ytbbeikdbioelgaa.M
set_option linter.unusedVariables false
set_option linter.unusedSimpArgs false
namespace Go.Proofs.Ytbbeikdbioelgaa.M
open Go.RowKit Go.Maps Go.Proofs.YtbbeikdbioelgaaW.PrintWords Go.Proofs.YtbbeikdbioelgaaW.PrintLast Go.Proofs.YtbbeikdbioelgaaW.PrintMore
attribute [local go_sem] max2_int min2_int max_two min_two max_three min_three max_four min_four
attribute [local go_sem ↓] Go.wp_at_zero Go.wp_at_succ
theorem foldl_near {l : List ByteArray} (p : List Int × (List UInt8 → Option Int)) (h : Near p.2) : Near (l.foldl nameN p).2 := by
  induction l generalizing p with
  | nil => exact h
  | cons s l ih => exact ih _ (nameF_near _ _ _ _ h)
theorem nameF_pre (k : Nat) (out : List Int) (m : List UInt8 → Option Int) (s : ByteArray) : ∃ t, (nameF k out m s).1 = out ++ t := by
  induction k generalizing out m s with
  | zero => exact ⟨[], by simp [nameF]⟩
  | succ k ih =>
    unfold nameF
    by_cases h : s.size ≤ 1
    · rw [if_pos h]; exact ⟨_, rfl⟩
    · rw [if_neg h]
      cases m s.data.toList with
      | some a => exact ⟨_, rfl⟩
      | none =>
        obtain ⟨t, ht⟩ := ih (out ++ bytesOf (s.extract 0 (nb s 0 + 1))) (if out.length < 16384 then updS m s.data.toList out.length else m) (s.extract (nb s 0 + 1) s.size)
        exact ⟨_, by simp only []; rw [ht, List.append_assoc]⟩
theorem foldl_pre (l : List ByteArray) (p : List Int × (List UInt8 → Option Int)) : ∃ t, (l.foldl nameN p).1 = p.1 ++ t := by
  induction l generalizing p with
  | nil => exact ⟨[], by simp⟩
  | cons s l ih =>
    obtain ⟨t, ht⟩ := ih (nameN p s)
    obtain ⟨u, hu⟩ := nameF_pre (s.size + 1) p.1 p.2 s
    refine ⟨u ++ t, ?_⟩
    rw [List.foldl_cons, ht]
    show (nameF (s.size + 1) p.1 p.2 s).1 ++ t = _
    rw [hu, List.append_assoc]
theorem dataF_pre (p : List Int × (List UInt8 → Option Int)) (r : Rec) : ∃ t, (dataF p r).1 = p.1 ++ t := by
  unfold dataF
  split
  · exact ⟨_, rfl⟩
  · have key : ∀ a : List Int × (List UInt8 → Option Int), (∃ t, a.1 = p.1 ++ t) → ∃ t, (if r.f1 = 6 then ((r.f4.foldl nameN a).1 ++ r.f5.flatMap (fun n => putL n 4), (r.f4.foldl nameN a).2) else r.f4.foldl nameN a).1 = p.1 ++ t := by
      rintro a ⟨u, hu⟩
      obtain ⟨t, ht⟩ := foldl_pre r.f4 a
      split
      · exact ⟨u ++ (t ++ r.f5.flatMap (fun n => putL n 4)), by simp only []; rw [ht, hu]; simp only [List.append_assoc]⟩
      · exact ⟨u ++ t, by rw [ht, hu, List.append_assoc]⟩
    refine key _ ?_
    split
    · exact ⟨_, rfl⟩
    · exact ⟨[], by simp⟩
theorem foldl_len (l : List ByteArray) (p : List Int × (List UInt8 → Option Int)) (h : ∀ k, k < l.length → (l.getD k ⟨#[]⟩).size ≤ 255) : (l.foldl nameN p).1.length ≤ p.1.length + 257 * l.length := by
  induction l generalizing p with
  | nil => simp
  | cons s l ih =>
    have h1 := ih (nameN p s) (fun k hk => by simpa using h (k + 1) (by simpa using hk))
    have h2 := nameF_len (s.size + 1) p.1 p.2 s
    have h3 := h 0 (by simp)
    rw [List.getD_cons_zero] at h3
    rw [List.foldl_cons, List.length_cons]
    have h4 : (nameN p s).1.length ≤ p.1.length + s.size + 2 := h2
    omega
theorem dataF_len (p : List Int × (List UInt8 → Option Int)) {r : Rec} (hF : Fine r) (hc : checkF r = 0) : (dataF p r).1.length ≤ p.1.length + 70000 := by
  have HC := check_small hF hc
  have hsh := of_decide_eq_true (Bool.and_eq_true_iff.1 HC.2.2.2.2).1
  obtain ⟨s1, s2, s3⟩ := shapeOf_le r.f1
  have k4 : r.f4.length ≤ 2 := by omega
  have k5 : r.f5.length ≤ 5 := by omega
  unfold dataF
  split
  · have := plainS_size HC
    simp only [List.length_append, bytesOf_length]
    omega
  · have hn : ∀ k, k < r.f4.length → (r.f4.getD k ⟨#[]⟩).size ≤ 255 := fun k hk => isName_size (names_ok HC.2.2.2.1 hk)
    have h5 := nums_le r.f5 r.f5.length 4
    rw [List.take_length] at h5
    have key : ∀ a : List Int × (List UInt8 → Option Int), a.1.length ≤ p.1.length + 2 → (if r.f1 = 6 then ((r.f4.foldl nameN a).1 ++ r.f5.flatMap (fun n => putL n 4), (r.f4.foldl nameN a).2) else r.f4.foldl nameN a).1.length ≤ p.1.length + 70000 := by
      intro a ha
      have := foldl_len r.f4 a hn
      split
      · simp only [List.length_append]; omega
      · omega
    refine key _ ?_
    split
    · simp only [List.length_append, putL_length]; omega
    · omega
theorem dataF_near (p : List Int × (List UInt8 → Option Int)) (r : Rec) (h : Near p.2) : Near (dataF p r).2 := by
  unfold dataF
  split
  · exact h
  · have key : ∀ a : List Int × (List UInt8 → Option Int), Near a.2 → Near (if r.f1 = 6 then ((r.f4.foldl nameN a).1 ++ r.f5.flatMap (fun n => putL n 4), (r.f4.foldl nameN a).2) else r.f4.foldl nameN a).2 := by
      intro a ha
      split
      · exact foldl_near _ ha
      · exact foldl_near _ ha
    refine key _ ?_
    split <;> exact h
theorem u8w (x : Int) : IntKind.u8.wrap x = x % 256 := by simp [IntKind.wrap, IntKind.bits, IntKind.signed]
theorem own_form {w : World} {base : Nat} {ok : Nat → Prop} {v : Value} {xs : List Int} (h : B8 w base ok v xs) (hne : 0 < xs.length) : ∃ gb cap cur, v = .slice (some ⟨gb, 0, none⟩) xs.length cap ∧ w.heap[gb]? = some (.cells cur 5 (0, 0)) := by
  have ho := Kd.own_of_R h
  rcases ho.2 with ⟨rfl, hx⟩ | ⟨g, cap, cur, rfl, hb, hh, _⟩
  · omega
  · exact ⟨g, cap, cur, rfl, hh⟩
theorem cell8 {w : World} {base gb c : Nat} {ok : Nat → Prop} {xs : List Int} (h : B8 w base ok (.slice (some ⟨gb, 0, none⟩) xs.length c) xs) (k : Nat) (hk : k < xs.length) : w.cell? ⟨gb, k, none⟩ = some (.int .u8 (xs.getD k 0)) := by
  obtain ⟨A, c', he, _, hr⟩ := Kd.R_reads h
  obtain ⟨ad, hA, hc⟩ := at_int hr k hk
  injection he with h1 _ _
  rw [← h1] at hA
  rw [← Option.some.inj hA] at hc
  have ha : (⟨gb, 0, none⟩ : Addr).add k = ⟨gb, k, none⟩ := by unfold Addr.add; split <;> simp_all
  rwa [ha] at hc
structure Wf (r : Rec) : Prop where
  t0 : 0 ≤ r.f1
  t1 : r.f1 ≤ 65535
  c0 : 0 ≤ r.f2
  c1 : r.f2 ≤ 65535
  l0 : 0 ≤ r.f3
  l1 : r.f3 ≤ 4294967295
def headF (p : List Int × (List UInt8 → Option Int)) (r : Rec) : List Int × (List UInt8 → Option Int) := ((nameN p r.f0).1 ++ putL r.f1 2 ++ putL r.f2 2 ++ putL r.f3 4, (nameN p r.f0).2)
def recordF (p : List Int × (List UInt8 → Option Int)) (r : Rec) : List Int × (List UInt8 → Option Int) :=
  let a := headF p r
  let d := dataF (a.1 ++ putL 0 2, a.2) r
  let n : Int := (d.1.length : Int) - (a.1.length : Int) - 2
  ((d.1.set a.1.length (n / 256 % 256)).set (a.1.length + 1) (n % 256), d.2)
theorem headF_len (p : List Int × (List UInt8 → Option Int)) {r : Rec} (h : isName r.f0 = true) : (headF p r).1.length ≤ p.1.length + 300 := by
  have h2 : (nameN p r.f0).1.length ≤ p.1.length + r.f0.size + 2 := nameF_len (r.f0.size + 1) p.1 p.2 r.f0
  have := isName_size h
  unfold headF
  simp only [List.length_append, putL_length]
  omega
theorem recordF_len (p : List Int × (List UInt8 → Option Int)) {r : Rec} (hF : Fine r) (hc : checkF r = 0) : (recordF p r).1.length ≤ p.1.length + 80000 := by
  have h1 := dataF_len ((headF p r).1 ++ putL 0 2, (headF p r).2) hF hc
  have h2 := headF_len p (check_small hF hc).2.2.1
  unfold recordF
  simp only [List.length_set]
  simp only [List.length_append, putL_length] at h1
  omega
theorem recordF_near (p : List Int × (List UInt8 → Option Int)) (r : Rec) (h : Near p.2) : Near (recordF p r).2 := dataF_near _ _ (nameF_near _ _ _ _ h)
theorem put8 {w0 w : World} {q mb N gb n c : Nat} {out : List Int} {cur : Array Value} {D : DataW Unit} (hx : w.heap[q]? = some (.cells #[.slice (some ⟨gb, 0, none⟩) n c, .map (some mb)] 67 (0, 0)))
    (ho : B8 w w0.heap.size (fun _ => True) (.slice (some ⟨gb, 0, none⟩) n c) out) (hM : w.ownsMap Try.prog 9 (plainElem Try.prog 3) mb N D) (hcur : w.heap[gb]? = some (.cells cur 5 (0, 0))) (hb : Below w0.heap.size w0 w) (k : Nat) (x : Int) :
    (w.setCell ⟨gb, k, none⟩ (.int .u8 x)).heap[q]? = some (.cells #[.slice (some ⟨gb, 0, none⟩) n c, .map (some mb)] 67 (0, 0)) ∧ B8 (w.setCell ⟨gb, k, none⟩ (.int .u8 x)) w0.heap.size (fun _ => True) (.slice (some ⟨gb, 0, none⟩) n c) (out.set k x) ∧
    (w.setCell ⟨gb, k, none⟩ (.int .u8 x)).ownsMap Try.prog 9 (plainElem Try.prog 3) mb N D ∧ (∃ cur', (w.setCell ⟨gb, k, none⟩ (.int .u8 x)).heap[gb]? = some (.cells cur' 5 (0, 0))) ∧ Below w0.heap.size w0 (w.setCell ⟨gb, k, none⟩ (.int .u8 x)) := by
  have hq : q ≠ gb := blk_ne hx hcur (by decide)
  refine ⟨blk_far hx (p := ⟨gb, k, none⟩) hq _, ?_, mapOf_far hM (Below.heap_setCell w _ _ mb ?_), ⟨_, blk_set hcur k _⟩, hb.setCell ?_ _⟩
  · have := Kd.R_putn (enc := Value.int .u8) ho (k : Int) x
    rw [Int.toNat_natCast] at this
    exact this
  · intro e
    exact map_ne hM ho (by rw [e]; rfl)
  · exact own_base (Kd.own_of_R ho) gb rfl
set_option maxHeartbeats 4000000 in
set_option maxRecDepth 100000 in
theorem record_calls {w0 w : World} {q mb N : Nat} {p : List Int × (List UInt8 → Option Int)} (h : WAt w0 w q mb p.1 p.2 N) (hn : Near p.2) (r : Rec) (v : Value) (hv : RecAt w0 v r) (hF : Fine r) (hW : Wf r) (hc : checkF r = 0) (hl : p.1.length ≤ 1000000) (hN : N ≤ 800000) :
    Calls Try.prog 35 #[.pointer (some ⟨q, 0, none⟩), v] w fun e w' => e = .returned (.tuple #[]) ∧ WAt w0 w' q mb (recordF p r).1 (recordF p r).2 (N + 1024) := by
  have HV := Aside0.mk hv
  obtain ⟨A4, c4, A5, c5, A6, c6, rfl, l4, g4, l5, g5, l6, g6⟩ := hv
  have HF := Aside0.mk hF
  have HW := Aside0.mk h
  have HN := Aside0.mk hn
  have HC := Lib.hid hc
  have HNm := Lib.hid (check_small hF hc).2.2.1
  have HL := Aside0.mk hl
  have HQ := Aside0.mk h.lt
  have hh0 := headF_len p (check_small hF hc).2.2.1
  obtain ⟨u, hu⟩ := dataF_pre ((headF p r).1 ++ putL 0 2, (headF p r).2) r
  have hlh := headF_len p (check_small hF hc).2.2.1
  have hld := dataF_len ((headF p r).1 ++ putL 0 2, (headF p r).2) hF hc
  obtain ⟨R, hR⟩ : ∃ R, recordF p r = R := ⟨_, rfl⟩
  rw [hR]
  unfold recordF at hR
  obtain ⟨⟨o4, m4⟩, h4⟩ : ∃ x, headF p r = x := ⟨_, rfl⟩
  simp only [h4] at hu hlh hld hR
  obtain ⟨⟨o6, m6⟩, h6⟩ : ∃ x, dataF (o4 ++ putL 0 2, m4) r = x := ⟨_, rfl⟩
  simp only [h6] at hu hld hR
  have H4 := Lib.hid h4
  have H6 := Lib.hid h6
  have HU := Lib.hid hu
  have HR := Lib.hid hR
  have HLh := Aside0.mk hlh
  have HLd := Aside0.mk hld
  obtain ⟨w01, w02, w03, w04, w05, w06⟩ := hW
  have HL2 := Aside0.mk (show (nameN p r.f0).1.length ≤ 1001000 by unfold headF at hh0; simp only [List.length_append, putL_length] at hh0; omega)
  clear g4 g5 g6 hF h hn hc hl hu hlh hld hR h4 h6 hh0
  go_enter Try.func35, Try.ntmps35
  go_wp2_with (((with_reducible refine gate_dst (N := 3) rfl ?_); refine box_event rfl (N := 3) rfl (cs := #[.string r.f0, .int .u16 r.f1, .int .u16 r.f2, .int .u32 r.f3, .slice A4 r.f4.length c4, .slice A5 r.f5.length c5, .slice A6 r.f6.length c6]) (t := 44) (by first | (go_simp; done) | (go_simp; rfl)) ?_; intro g hg w1 hbox hb); have HX := Aside0.mk hbox; have HB := Aside0.mk hb; have HGe := Aside0.mk hg; clear hb hg; have z0 : w1.cell? ⟨g, 0, none⟩ = some (.string r.f0) := (blk_cell HX.out 0).trans rfl; clear hbox; have z1 : w1.cell? ⟨g, 1, none⟩ = some (.int .u16 r.f1) := (blk_cell HX.out 1).trans rfl; have z2 : w1.cell? ⟨g, 2, none⟩ = some (.int .u16 r.f2) := (blk_cell HX.out 2).trans rfl; have z3 : w1.cell? ⟨g, 3, none⟩ = some (.int .u32 r.f3) := (blk_cell HX.out 3).trans rfl; have z4 : w1.cell? ⟨g, 4, none⟩ = some (.slice A4 r.f4.length c4) := (blk_cell HX.out 4).trans rfl; have z5 : w1.cell? ⟨g, 5, none⟩ = some (.slice A5 r.f5.length c5) := (blk_cell HX.out 5).trans rfl; have z6 : w1.cell? ⟨g, 6, none⟩ = some (.slice A6 r.f6.length c6) := (blk_cell HX.out 6).trans rfl)
  have hgq : g ≠ q := by rw [HGe.out]; have := HQ.out.1; omega
  have hgm : g ≠ mb := by rw [HGe.out]; have := HQ.out.2; omega
  refine (nameN_calls (HW.out.alloc HB.out) HN.out r.f0 HNm.out (by have := HL.out; omega) (by omega)).mono ?_
  rintro e w2 ⟨rfl, hw2, ht2⟩
  have HW2 := Aside0.mk hw2
  have HX2 := Aside0.mk (ht2.2 g _ _ HX.out (by decide) hgq hgm)
  clear hw2 ht2 z0 z1 z2 z3 z4 z5 z6
  have z0 : w2.cell? ⟨g, 0, none⟩ = some (.string r.f0) := (blk_cell HX2.out 0).trans rfl
  have z1 : w2.cell? ⟨g, 1, none⟩ = some (.int .u16 r.f1) := (blk_cell HX2.out 1).trans rfl
  have z2 : w2.cell? ⟨g, 2, none⟩ = some (.int .u16 r.f2) := (blk_cell HX2.out 2).trans rfl
  have z3 : w2.cell? ⟨g, 3, none⟩ = some (.int .u32 r.f3) := (blk_cell HX2.out 3).trans rfl
  have z4 : w2.cell? ⟨g, 4, none⟩ = some (.slice A4 r.f4.length c4) := (blk_cell HX2.out 4).trans rfl
  have z5 : w2.cell? ⟨g, 5, none⟩ = some (.slice A5 r.f5.length c5) := (blk_cell HX2.out 5).trans rfl
  have z6 : w2.cell? ⟨g, 6, none⟩ = some (.slice A6 r.f6.length c6) := (blk_cell HX2.out 6).trans rfl
  go_wp2_with fail
  refine (num_calls HW2.out r.f1 2 (by decide) (by decide) w01 (by omega) (by have := HL2.out; omega)).mono ?_
  rintro e w3 ⟨rfl, hw3, ht3⟩
  have HW3 := Aside0.mk hw3
  have HX3 := Aside0.mk (ht3.2 g _ _ HX2.out (by decide) hgq hgm)
  clear hw3 ht3 z0 z1 z2 z3 z4 z5 z6
  have z0 : w3.cell? ⟨g, 0, none⟩ = some (.string r.f0) := (blk_cell HX3.out 0).trans rfl
  have z1 : w3.cell? ⟨g, 1, none⟩ = some (.int .u16 r.f1) := (blk_cell HX3.out 1).trans rfl
  have z2 : w3.cell? ⟨g, 2, none⟩ = some (.int .u16 r.f2) := (blk_cell HX3.out 2).trans rfl
  have z3 : w3.cell? ⟨g, 3, none⟩ = some (.int .u32 r.f3) := (blk_cell HX3.out 3).trans rfl
  have z4 : w3.cell? ⟨g, 4, none⟩ = some (.slice A4 r.f4.length c4) := (blk_cell HX3.out 4).trans rfl
  have z5 : w3.cell? ⟨g, 5, none⟩ = some (.slice A5 r.f5.length c5) := (blk_cell HX3.out 5).trans rfl
  have z6 : w3.cell? ⟨g, 6, none⟩ = some (.slice A6 r.f6.length c6) := (blk_cell HX3.out 6).trans rfl
  go_wp2_with fail
  refine (num_calls HW3.out r.f2 2 (by decide) (by decide) w03 (by omega) (by have := HL2.out; rw [List.length_append, putL_length]; omega)).mono ?_
  rintro e w4 ⟨rfl, hw4, ht4⟩
  have HW4 := Aside0.mk hw4
  have HX4 := Aside0.mk (ht4.2 g _ _ HX3.out (by decide) hgq hgm)
  clear hw4 ht4 z0 z1 z2 z3 z4 z5 z6
  have z0 : w4.cell? ⟨g, 0, none⟩ = some (.string r.f0) := (blk_cell HX4.out 0).trans rfl
  have z1 : w4.cell? ⟨g, 1, none⟩ = some (.int .u16 r.f1) := (blk_cell HX4.out 1).trans rfl
  have z2 : w4.cell? ⟨g, 2, none⟩ = some (.int .u16 r.f2) := (blk_cell HX4.out 2).trans rfl
  have z3 : w4.cell? ⟨g, 3, none⟩ = some (.int .u32 r.f3) := (blk_cell HX4.out 3).trans rfl
  have z4 : w4.cell? ⟨g, 4, none⟩ = some (.slice A4 r.f4.length c4) := (blk_cell HX4.out 4).trans rfl
  have z5 : w4.cell? ⟨g, 5, none⟩ = some (.slice A5 r.f5.length c5) := (blk_cell HX4.out 5).trans rfl
  have z6 : w4.cell? ⟨g, 6, none⟩ = some (.slice A6 r.f6.length c6) := (blk_cell HX4.out 6).trans rfl
  go_wp2_with fail
  refine (num_calls HW4.out r.f3 4 (by decide) (by decide) w05 (by omega) (by have := HL2.out; rw [List.length_append, putL_length, List.length_append, putL_length]; omega)).mono ?_
  rintro e w5 ⟨rfl, hw5, ht5⟩
  have HW5 := Aside0.mk (show WAt w0 w5 q mb o4 m4 (N + 256) by have e := hw5; have e4 := H4.out; unfold headF at e4; injection e4 with e5 e6; rw [← e5, ← e6]; exact e)
  have HX5 := Aside0.mk (ht5.2 g _ _ HX4.out (by decide) hgq hgm)
  have HL4 := Aside0.mk (show o4.length ≤ 1000300 by have := HLh.out; have := HL.out; omega)
  obtain ⟨⟨v, hcell, ho⟩, _⟩ := HW5.out
  obtain ⟨A, c, rfl, _, _⟩ := Kd.R_reads ho
  have y0 : w5.cell? ⟨q, 0, none⟩ = some (.slice A o4.length c) := (blk_cell hcell 0).trans rfl
  clear hw5 ht5 z0 z1 z2 z3 z4 z5 z6 hcell ho
  have z0 : w5.cell? ⟨g, 0, none⟩ = some (.string r.f0) := (blk_cell HX5.out 0).trans rfl
  have z1 : w5.cell? ⟨g, 1, none⟩ = some (.int .u16 r.f1) := (blk_cell HX5.out 1).trans rfl
  have z2 : w5.cell? ⟨g, 2, none⟩ = some (.int .u16 r.f2) := (blk_cell HX5.out 2).trans rfl
  have z3 : w5.cell? ⟨g, 3, none⟩ = some (.int .u32 r.f3) := (blk_cell HX5.out 3).trans rfl
  have z4 : w5.cell? ⟨g, 4, none⟩ = some (.slice A4 r.f4.length c4) := (blk_cell HX5.out 4).trans rfl
  have z5 : w5.cell? ⟨g, 5, none⟩ = some (.slice A5 r.f5.length c5) := (blk_cell HX5.out 5).trans rfl
  have z6 : w5.cell? ⟨g, 6, none⟩ = some (.slice A6 r.f6.length c6) := (blk_cell HX5.out 6).trans rfl
  go_wp2_with fail
  refine (num_calls HW5.out 0 2 (by decide) (by decide) (by decide) (by decide) (by have := HL4.out; omega)).mono ?_
  rintro e w6 ⟨rfl, hw6, ht6⟩
  have HW6 := Aside0.mk (show WAt w0 w6 q mb (o4 ++ putL 0 2) m4 (N + 256) from hw6)
  have HX6 := Aside0.mk (ht6.2 g _ _ HX5.out (by decide) hgq hgm)
  clear hw6 ht6 z0 z1 z2 z3 z4 z5 z6 y0
  have z0 : w6.cell? ⟨g, 0, none⟩ = some (.string r.f0) := (blk_cell HX6.out 0).trans rfl
  have z1 : w6.cell? ⟨g, 1, none⟩ = some (.int .u16 r.f1) := (blk_cell HX6.out 1).trans rfl
  have z2 : w6.cell? ⟨g, 2, none⟩ = some (.int .u16 r.f2) := (blk_cell HX6.out 2).trans rfl
  have z3 : w6.cell? ⟨g, 3, none⟩ = some (.int .u32 r.f3) := (blk_cell HX6.out 3).trans rfl
  have z4 : w6.cell? ⟨g, 4, none⟩ = some (.slice A4 r.f4.length c4) := (blk_cell HX6.out 4).trans rfl
  have z5 : w6.cell? ⟨g, 5, none⟩ = some (.slice A5 r.f5.length c5) := (blk_cell HX6.out 5).trans rfl
  have z6 : w6.cell? ⟨g, 6, none⟩ = some (.slice A6 r.f6.length c6) := (blk_cell HX6.out 6).trans rfl
  go_wp2_with fail
  refine (data_calls (p := (o4 ++ putL 0 2, m4)) HW6.out (by have e4 := H4.out; unfold headF at e4; injection e4 with e5 e6; rw [← e6]; exact nameF_near _ _ _ _ HN.out) r _ HV.out HF.out HC.out (by have := HL4.out; rw [List.length_append, putL_length]; omega) (by omega)).mono ?_
  rw [H6.out]
  rintro e w7 ⟨rfl, hw7, ht7⟩
  have HW7 := Aside0.mk (show WAt w0 w7 q mb o6 m6 (N + 1024) from hw7.more (by omega))
  have HX7 := Aside0.mk (ht7.2 g _ _ HX6.out (by decide) hgq hgm)
  obtain ⟨⟨v, hcell, ho⟩, ⟨D, hmap, hrep⟩, hg, hmb, hne, hb⟩ := HW7.out
  obtain ⟨gb, c, cur, rfl, hcur⟩ := own_form ho (by have e := congrArg List.length HU.out; simp only [List.length_append, putL_length] at e; omega)
  have y0 : w7.cell? ⟨q, 0, none⟩ = some (.slice (some ⟨gb, 0, none⟩) o6.length c) := (blk_cell hcell 0).trans rfl
  have HL6 := Aside0.mk (show o4.length + 2 ≤ o6.length ∧ o6.length ≤ 1100000 by have e := congrArg List.length HU.out; have := HLd.out; have := HL4.out; simp only [List.length_append, putL_length] at *; omega)
  have q0 : (o4.length : Int) ≤ 1000300 := by have := HL4.out; omega
  have q1 : (o6.length : Int) ≤ 1100000 := by have := HL6.out.2; omega
  have q2 : (o4.length : Int) + 2 ≤ (o6.length : Int) := by have := HL6.out.1; omega
  have q3 : 0 ≤ (o6.length : Int) - (o4.length : Int) - 2 := by omega
  clear hw7 ht7 z0 z1 z2 z3 z4 z5 z6
  go_wp2_with fail
  have r1 : o4.length < o6.length := by have := HL6.out.1; omega
  have r2 : (o4.length : Int) + 1 < (o6.length : Int) := by omega
  have r3 : (0 : Int) ≤ (o4.length : Int) + 1 := by omega
  have hw1 : IntKind.i64.wrap ((o4.length : Int) + 1) = (o4.length : Int) + 1 := by rw [IntKind.wrap_i64]; omega
  have hw2 : ((o4.length : Int) + 1).toNat = o4.length + 1 := by omega
  have c1 := cell8 ho o4.length (by have := HL6.out.1; omega)
  have c2 := cell8 ho (o4.length + 1) (by have := HL6.out.1; omega)
  have f1 : w7.frozen? ⟨gb, o4.length, none⟩ = false := blk_frozen hcur _
  have f2 : w7.frozen? ⟨gb, o4.length + 1, none⟩ = false := blk_frozen hcur _
  refine start_ (n := 20) (S := fun w' => w'.cell? ⟨q, 0, none⟩ = some (.slice (some ⟨gb, 0, none⟩) o6.length c)) (ds := [17, 19]) (Array.replicate 20 false) (by kernel_rfl) (by kernel_rfl) rfl y0 (fun hS => ?_)
  refine dpure 0 (some 43) rfl rfl (by kernel_rfl) (fun _ _ _ h => h) (by rfl) (v := ?_) (a' := ?_) ?_ ?_ ?_
  rotate_left 2
  · intro w'; go_simp; with_reducible rfl
  · simp only [Act.put, List.setIfInBounds_toArray, List.set_cons_zero, List.set_cons_succ]; rfl
  refine dpure 1 (some 44) rfl rfl (by kernel_rfl) (fun _ _ _ h => h) (by rfl) (v := ?_) (a' := ?_) ?_ ?_ ?_
  rotate_left 2
  · intro w'; go_simp; with_reducible rfl
  · simp only [Act.put, List.setIfInBounds_toArray, List.set_cons_zero, List.set_cons_succ]; rfl
  refine dpure 2 (some 45) rfl rfl (by kernel_rfl) (fun _ _ _ h => h) (by rfl) (v := ?_) (a' := ?_) ?_ ?_ ?_
  rotate_left 2
  · intro w'; go_simp; with_reducible rfl
  · simp only [Act.put, List.setIfInBounds_toArray, List.set_cons_zero, List.set_cons_succ]; rfl
  refine dtake 3 (some 46) rfl rfl (by kernel_rfl) (fun _ _ _ h => h) (by rfl) hS (v := ?_) (a' := ?_) ?_ ?_ ?_
  rotate_left 2
  · rintro w' s0; go_simp; with_reducible rfl
  · simp only [Act.put, List.setIfInBounds_toArray, List.set_cons_zero, List.set_cons_succ]; rfl
  refine dpure 4 (some 47) rfl rfl (by kernel_rfl) (fun _ _ _ h => h) (by rfl) (v := ?_) (a' := ?_) ?_ ?_ ?_
  rotate_left 2
  · intro w'; go_simp; with_reducible rfl
  · simp only [Act.put, List.setIfInBounds_toArray, List.set_cons_zero, List.set_cons_succ]; rfl
  refine dpure 5 (some 48) rfl rfl (by kernel_rfl) (fun _ _ _ h => h) (by rfl) (v := ?_) (a' := ?_) ?_ ?_ ?_
  rotate_left 2
  · intro w'; go_simp; with_reducible rfl
  · simp only [Act.put, List.setIfInBounds_toArray, List.set_cons_zero, List.set_cons_succ]; rfl
  refine dpure 6 (some 49) rfl rfl (by kernel_rfl) (fun _ _ _ h => h) (by rfl) (v := ?_) (a' := ?_) ?_ ?_ ?_
  rotate_left 2
  · intro w'; go_simp; with_reducible rfl
  · simp only [Act.put, List.setIfInBounds_toArray, List.set_cons_zero, List.set_cons_succ]; rfl
  refine dpure 7 (some 50) rfl rfl (by kernel_rfl) (fun _ _ _ h => h) (by rfl) (v := ?_) (a' := ?_) ?_ ?_ ?_
  rotate_left 2
  · intro w'; go_simp; with_reducible rfl
  · simp only [Act.put, List.setIfInBounds_toArray, List.set_cons_zero, List.set_cons_succ]; rfl
  refine dtake 8 (some 51) rfl rfl (by kernel_rfl) (fun _ _ _ h => h) (by rfl) hS (v := ?_) (a' := ?_) ?_ ?_ ?_
  rotate_left 2
  · rintro w' s0; go_simp; with_reducible rfl
  · simp only [Act.put, List.setIfInBounds_toArray, List.set_cons_zero, List.set_cons_succ]; rfl
  refine dpure 9 (some 52) rfl rfl (by kernel_rfl) (fun _ _ _ h => h) (by rfl) (v := ?_) (a' := ?_) ?_ ?_ ?_
  rotate_left 2
  · intro w'; go_simp; with_reducible rfl
  · simp only [Act.put, List.setIfInBounds_toArray, List.set_cons_zero, List.set_cons_succ]; rfl
  refine dpure 10 (some 53) rfl rfl (by kernel_rfl) (fun _ _ _ h => h) (by rfl) (v := ?_) (a' := ?_) ?_ ?_ ?_
  rotate_left 2
  · intro w'; go_simp; with_reducible rfl
  · simp only [Act.put, List.setIfInBounds_toArray, List.set_cons_zero, List.set_cons_succ]; rfl
  refine dpure 11 (some 54) rfl rfl (by kernel_rfl) (fun _ _ _ h => h) (by rfl) (v := ?_) (a' := ?_) ?_ ?_ ?_
  rotate_left 2
  · intro w'; go_simp; with_reducible rfl
  · simp only [Act.put, List.setIfInBounds_toArray, List.set_cons_zero, List.set_cons_succ]; rfl
  refine dpure 12 (some 55) rfl rfl (by kernel_rfl) (fun _ _ _ h => h) (by rfl) (v := ?_) (a' := ?_) ?_ ?_ ?_
  rotate_left 2
  · intro w'; go_simp; with_reducible rfl
  · simp only [Act.put, List.setIfInBounds_toArray, List.set_cons_zero, List.set_cons_succ]; rfl
  refine dpure 13 (some 56) rfl rfl (by kernel_rfl) (fun _ _ _ h => h) (by rfl) (v := ?_) (a' := ?_) ?_ ?_ ?_
  rotate_left 2
  · intro w'; go_simp; with_reducible rfl
  · simp only [Act.put, List.setIfInBounds_toArray, List.set_cons_zero, List.set_cons_succ]; rfl
  refine dpure 14 (some 57) rfl rfl (by kernel_rfl) (fun _ _ _ h => h) (by rfl) (v := ?_) (a' := ?_) ?_ ?_ ?_
  rotate_left 2
  · intro w'; go_simp; with_reducible rfl
  · simp only [Act.put, List.setIfInBounds_toArray, List.set_cons_zero, List.set_cons_succ]; rfl
  refine dpure 15 (some 58) rfl rfl (by kernel_rfl) (fun _ _ _ h => h) (by rfl) (v := ?_) (a' := ?_) ?_ ?_ ?_
  rotate_left 2
  · intro w'; go_simp; with_reducible rfl
  · simp only [Act.put, List.setIfInBounds_toArray, List.set_cons_zero, List.set_cons_succ]; rfl
  refine dpure 16 (some 59) rfl rfl (by kernel_rfl) (fun _ _ _ h => h) (by rfl) (v := ?_) (a' := ?_) ?_ ?_ ?_
  rotate_left 2
  · intro w'; go_simp; with_reducible rfl
  · simp only [Act.put, List.setIfInBounds_toArray, List.set_cons_zero, List.set_cons_succ]; rfl
  refine dlast 17 (Array.getElem?_eq_getElem (by decide)) (by kernel_rfl) (by decide) ?_
  intro K hK
  refine dskip (w1 := w7.drew.setCell ⟨gb, o4.length, none⟩ (.int .u8 (((o6.length : Int) - (o4.length : Int) - 2) / 256 % 256))) (by kernel_rfl) (by kernel_rfl) ?_ ?_
  · go_simp; rw [u8w]
  refine hK.out _ _ ?_
  clear hK K
  refine dpure 18 (some 60) rfl rfl (by kernel_rfl) (fun _ _ _ h => h) (by rfl) (v := ?_) (a' := ?_) ?_ ?_ ?_
  rotate_left 2
  · intro w'; go_simp; with_reducible rfl
  · simp only [Act.put, List.setIfInBounds_toArray, List.set_cons_zero, List.set_cons_succ]; rfl
  refine dlast 19 (Array.getElem?_eq_getElem (by decide)) (by kernel_rfl) (by decide) ?_
  intro K hK
  refine dskip (w1 := (w7.drew.setCell ⟨gb, o4.length, none⟩ (.int .u8 (((o6.length : Int) - (o4.length : Int) - 2) / 256 % 256))).setCell ⟨gb, o4.length + 1, none⟩ (.int .u8 (((o6.length : Int) - (o4.length : Int) - 2) % 256))) (by kernel_rfl) (by kernel_rfl) ?_ ?_
  · go_simp; rw [u8w]
  refine hK.out _ _ (done_ (by kernel_rfl) ?_)
  clear hK K
  obtain ⟨a1, a2, a3, ⟨cur1, a4⟩, a5⟩ := put8 (w := w7.drew) (blk_drew hcell) (Kd.R_drew ho) (mapOf_far hmap rfl) (blk_drew hcur) hb.drew o4.length (((o6.length : Int) - (o4.length : Int) - 2) / 256 % 256)
  obtain ⟨b1, b2, b3, _, b5⟩ := put8 a1 a2 a3 a4 a5 (o4.length + 1) (((o6.length : Int) - (o4.length : Int) - 2) % 256)
  go_end0
  refine ⟨rfl, ?_⟩
  rw [← HR.out]
  exact ⟨⟨_, b1, b2⟩, ⟨D, b3, hrep⟩, hg, hmb, hne, b5⟩
end Go.Proofs.Ytbbeikdbioelgaa.M
set_option linter.unusedVariables false
set_option linter.unusedSimpArgs false
namespace Go.Proofs.Ytbbeikdbioelgaa.M
open Go.RowKit Go.Maps Go.Proofs.YtbbeikdbioelgaaW.PrintWords Go.Proofs.YtbbeikdbioelgaaW.PrintLast Go.Proofs.YtbbeikdbioelgaaW.PrintMore
attribute [local go_sem] max2_int min2_int max_two min_two max_three min_three max_four min_four
theorem results34 : Try.f34.results = #[.cell 2 62] := by kernel_rfl
theorem sections_calls (m : Msg) (A2 A3 A4 A5 : Option Addr) (c2 c3 c4 c5 : Nat) (w : World) :
    Calls Try.prog 34 #[.agg #[.int .u16 m.id, .int .u16 m.flags, .slice A2 m.qs.length c2, .slice A3 m.ans.length c3, .slice A4 m.auth.length c4, .slice A5 m.add.length c5]] w fun e w' => e = .returned (.agg #[.slice A3 m.ans.length c3, .slice A4 m.auth.length c4, .slice A5 m.add.length c5]) ∧ Below w.heap.size w w' := by
  go_enter Try.func34, Try.ntmps34
  go_wp2_with (((with_reducible refine gate_dst (N := 1) rfl ?_); refine box_event rfl (N := 1) rfl (cs := #[.int .u16 m.id, .int .u16 m.flags, .slice A2 m.qs.length c2, .slice A3 m.ans.length c3, .slice A4 m.auth.length c4, .slice A5 m.add.length c5]) (t := 26) (by first | (go_simp; done) | (go_simp; rfl)) ?_; intro g hg w1 hbox hb); have HX := Aside0.mk hbox; have HB := Aside0.mk hb; have HGe := Aside0.mk hg; clear hb hg; have z0 : w1.cell? ⟨g, 0, none⟩ = some (.int .u16 m.id) := (blk_cell HX.out 0).trans rfl; have z1 : w1.cell? ⟨g, 1, none⟩ = some (.int .u16 m.flags) := (blk_cell HX.out 1).trans rfl; have z2 : w1.cell? ⟨g, 2, none⟩ = some (.slice A2 m.qs.length c2) := (blk_cell HX.out 2).trans rfl; have z3 : w1.cell? ⟨g, 3, none⟩ = some (.slice A3 m.ans.length c3) := (blk_cell HX.out 3).trans rfl; have z4 : w1.cell? ⟨g, 4, none⟩ = some (.slice A4 m.auth.length c4) := (blk_cell HX.out 4).trans rfl; have z5 : w1.cell? ⟨g, 5, none⟩ = some (.slice A5 m.add.length c5) := (blk_cell HX.out 5).trans rfl; have hlt : g < w1.heap.size := blk_lt hbox; have hlne : ¬ g = w1.heap.size := Nat.ne_of_lt hlt; clear hbox)
  exact bodyPost_ret (v := .agg #[.slice A3 m.ans.length c3, .slice A4 m.auth.length c4, .slice A5 m.add.length c5]) (by simp [results, results34, go_sem]) rfl ⟨rfl, below_step HB.out (below_alloc (Below.refl _ _) _)⟩
structure MsgOk (m : Msg) : Prop where
  fine : ∀ r, r ∈ m.ans ++ m.auth ++ m.add → Fine r
  wf : ∀ r, r ∈ m.ans ++ m.auth ++ m.add → Wf r
  qs : ∀ q, q ∈ m.qs → 0 ≤ q.f1 ∧ q.f1 ≤ 65535 ∧ 0 ≤ q.f2 ∧ q.f2 ≤ 65535
  id0 : 0 ≤ m.id
  id1 : m.id ≤ 65535
  fl0 : 0 ≤ m.flags
  fl1 : m.flags ≤ 65535
  n0 : m.qs.length ≤ 1000000
  n1 : m.ans.length ≤ 1000000
  n2 : m.auth.length ≤ 1000000
  n3 : m.add.length ≤ 1000000
def secs (m : Msg) : List (List Rec) := [m.ans, m.auth, m.add]
theorem secs_flat (m : Msg) : (secs m).flatten = m.ans ++ m.auth ++ m.add := by simp [secs]
def badQ (q : Ques) : Bool := !isName q.f0
def firstBad : List Rec → Int
  | [] => 0
  | r :: l => if checkF r = 0 then firstBad l else checkF r
def checkM (m : Msg) : Int := if 256 < m.qs.length + m.ans.length + m.auth.length + m.add.length then 6 else if m.qs.any badQ then 40 else firstBad (m.ans ++ m.auth ++ m.add)
theorem sec_at {w : World} (m : Msg) {A3 A4 A5 : Option Addr} {c3 c4 c5 : Nat} (l3 : m.ans.length ≤ c3) (g3 : kRec.C w A3 m.ans.length m.ans) (l4 : m.auth.length ≤ c4) (g4 : kRec.C w A4 m.auth.length m.auth) (l5 : m.add.length ≤ c5) (g5 : kRec.C w A5 m.add.length m.add) (i : Nat) (hi : i < 3) :
    ∃ A l c, (∀ W : World, (Instr.index 62 (.agg #[.slice A3 m.ans.length c3, .slice A4 m.auth.length c4, .slice A5 m.add.length c5]) (.int .i64 (i : Int))).run Try.prog W = .ok (.slice A (l : List Rec).length c) W) ∧ l.length ≤ c ∧ kRec.C w A l.length l ∧ (secs m).drop i = l :: (secs m).drop (i + 1) ∧ (∀ r, r ∈ l → r ∈ m.ans ++ m.auth ++ m.add) ∧ l ∈ secs m := by
  match i, hi with
  | 0, _ => exact ⟨A3, m.ans, c3, fun W => by kernel_rfl, l3, g3, rfl, fun r hr => by simp [hr], by simp [secs]⟩
  | 1, _ => exact ⟨A4, m.auth, c4, fun W => by kernel_rfl, l4, g4, rfl, fun r hr => by simp [hr], by simp [secs]⟩
  | 2, _ => exact ⟨A5, m.add, c5, fun W => by kernel_rfl, l5, g5, rfl, fun r hr => by simp [hr], by simp [secs]⟩
def sumL (ls : List (List Rec)) : Nat := (ls.map List.length).sum
theorem any_upto {l : List Ques} (h : ∀ j, j < l.length → badQ (l.getD j zQues) = false) : l.any badQ = false := by
  rw [List.any_eq_false]
  intro q hq
  obtain ⟨j, hj, rfl⟩ := List.getElem_of_mem hq
  have := h j hj
  rw [List.getD_eq_getElem?_getD, List.getElem?_eq_getElem hj] at this
  simpa using this
theorem any_at {l : List Ques} {k : Nat} (hk : k < l.length) (h : badQ (l.getD k zQues) = true) : l.any badQ = true := by
  rw [List.any_eq_true]
  refine ⟨l.getD k zQues, ?_, h⟩
  rw [List.getD_eq_getElem?_getD, List.getElem?_eq_getElem hk]
  exact List.getElem_mem hk
theorem getD_mem {α : Type} (z : α) {l : List α} {k : Nat} (hk : k < l.length) : l.getD k z ∈ l := by
  rw [List.getD_eq_getElem?_getD, List.getElem?_eq_getElem hk]
  exact List.getElem_mem hk
set_option maxHeartbeats 4000000 in
set_option maxRecDepth 100000 in
theorem checkM_calls (m : Msg) (v : Value) (w : World) (hv : MsgAt w v m) (hm : MsgOk m) :
    Calls Try.prog 18 #[v] w fun e w' => e = .returned (.int .i64 (checkM m)) ∧ Below w.heap.size w w' := by
  obtain ⟨A2, c2, A3, c3, A4, c4, A5, c5, rfl, l2, g2, l3, g3, l4, g4, l5, g5⟩ := hv
  have G2 := Aside0.mk g2
  have G3 := Aside0.mk g3
  have G4 := Aside0.mk g4
  have G5 := Aside0.mk g5
  have HM := Aside0.mk hm
  have n0 : (m.qs.length : Int) ≤ 1000000 := by have := hm.n0; omega
  have n1 : (m.ans.length : Int) ≤ 1000000 := by have := hm.n1; omega
  have n2 : (m.auth.length : Int) ≤ 1000000 := by have := hm.n2; omega
  have n3 : (m.add.length : Int) ≤ 1000000 := by have := hm.n3; omega
  obtain ⟨R, hR⟩ : ∃ R, checkM m = R := ⟨_, rfl⟩
  rw [hR]
  unfold checkM at hR
  clear g2 g3 g4 g5 hm
  have HR0 := Lib.hid hR
  clear hR
  go_enter Try.func18, Try.ntmps18
  go_wp2_with (((with_reducible refine gate_dst (N := 1) rfl ?_); refine box_event rfl (N := 1) rfl (cs := #[.int .u16 m.id, .int .u16 m.flags, .slice A2 m.qs.length c2, .slice A3 m.ans.length c3, .slice A4 m.auth.length c4, .slice A5 m.add.length c5]) (t := 26) (by first | (go_simp; done) | (go_simp; rfl)) ?_; intro g hg w1 hbox hb); have HX := Aside0.mk hbox; have HB := Aside0.mk hb; have HGe := Aside0.mk hg; clear hb hg; have z0 : w1.cell? ⟨g, 0, none⟩ = some (.int .u16 m.id) := (blk_cell HX.out 0).trans rfl; have z1 : w1.cell? ⟨g, 1, none⟩ = some (.int .u16 m.flags) := (blk_cell HX.out 1).trans rfl; have z2 : w1.cell? ⟨g, 2, none⟩ = some (.slice A2 m.qs.length c2) := (blk_cell HX.out 2).trans rfl; have z3 : w1.cell? ⟨g, 3, none⟩ = some (.slice A3 m.ans.length c3) := (blk_cell HX.out 3).trans rfl; have z4 : w1.cell? ⟨g, 4, none⟩ = some (.slice A4 m.auth.length c4) := (blk_cell HX.out 4).trans rfl; have z5 : w1.cell? ⟨g, 5, none⟩ = some (.slice A5 m.add.length c5) := (blk_cell HX.out 5).trans rfl; have hlt : g < w1.heap.size := blk_lt hbox; have hlne : ¬ g = w1.heap.size := Nat.ne_of_lt hlt; clear hbox)
  refine (sections_calls m A2 A3 A4 A5 c2 c3 c4 c5 _).mono ?_
  rintro e w2 ⟨rfl, hb⟩
  have HX2 := Aside0.mk (blk_below HX.out hb)
  have HB2 := Aside0.mk (below_step HB.out hb)
  clear hb z0 z1 z2 z3 z4 z5
  have z0 : w2.cell? ⟨g, 0, none⟩ = some (.int .u16 m.id) := (blk_cell HX2.out 0).trans rfl
  have z1 : w2.cell? ⟨g, 1, none⟩ = some (.int .u16 m.flags) := (blk_cell HX2.out 1).trans rfl
  have z2 : w2.cell? ⟨g, 2, none⟩ = some (.slice A2 m.qs.length c2) := (blk_cell HX2.out 2).trans rfl
  have z3 : w2.cell? ⟨g, 3, none⟩ = some (.slice A3 m.ans.length c3) := (blk_cell HX2.out 3).trans rfl
  have z4 : w2.cell? ⟨g, 4, none⟩ = some (.slice A4 m.auth.length c4) := (blk_cell HX2.out 4).trans rfl
  have z5 : w2.cell? ⟨g, 5, none⟩ = some (.slice A5 m.add.length c5) := (blk_cell HX2.out 5).trans rfl
  go_wp2_with fail
  go_loop [3, 18] (fun v t => ∃ (k n : Nat), t = .int .i64 k ∧ v = .int .i64 n ∧ Aside0 (k ≤ 3) ∧ Aside0 (n + sumL ((secs m).drop k) = m.qs.length + m.ans.length + m.auth.length + m.add.length)) (fun _ t => 3 - (intOf t).toNat)
  case atStart => exact ⟨0, m.qs.length, rfl, rfl, ⟨by decide⟩, ⟨by simp [sumL, secs]; omega⟩⟩
  case round =>
    obtain ⟨k, n, rfl, rfl, HK, HE⟩ := hrel
    by_cases hk : k < 3
    · obtain ⟨A, l, c, hidx, _, _, hd, _, _⟩ := sec_at m l3 G3.out l4 G4.out l5 G5.out k hk
      have he := HE.out
      rw [hd, sumL, List.map_cons, List.sum_cons] at he
      have HE1 := Aside0.mk (show n + l.length + sumL ((secs m).drop (k + 1)) = m.qs.length + m.ans.length + m.auth.length + m.add.length by unfold sumL; omega)
      have q1 : (n : Int) + (l.length : Int) ≤ 4000000 := by omega
      have q2 : (k : Int) < 3 := by omega
      have q3 : (k : Int) ≤ 3 := by omega
      clear he hd HE
      go_wp2
      go_round
      case rel => exact ⟨k + 1, n + l.length, by go_num, by go_num, ⟨hk⟩, HE1⟩
      case measure => simp [intOf]; omega
    · have hk' : k = 3 := by have := HK.out; omega
      have HN := Lib.hid (show n = m.qs.length + m.ans.length + m.auth.length + m.add.length by have := HE.out; rw [hk'] at this; simpa [sumL, secs] using this)
      have HR := Lib.hid (show (if 256 < n then 6 else if m.qs.any badQ then 40 else firstBad (m.ans ++ m.auth ++ m.add)) = R by rw [HN.out]; exact HR0.out)
      have q3 : ¬ (k : Int) < 3 := by omega
      clear hk' HE HK hk
      by_cases hn : 256 < n
      · have HF := Lib.hid (show R = 6 by have := HR.out; rw [if_pos hn] at this; exact this.symm)
        have d1 : decide ((256 : Int) < (n : Int)) = true := decide_eq_true (by omega)
        have d2 : decide (256 < n) = true := decide_eq_true hn
        clear hn
        go_wp2
        go_ret
        exact ⟨by rw [HF.out]; rfl, HB2.out⟩
      · have HR1 := Lib.hid (show (if m.qs.any badQ then 40 else firstBad (m.ans ++ m.auth ++ m.add)) = R by have := HR.out; rw [if_neg hn] at this; exact this)
        have d1 : decide ((256 : Int) < (n : Int)) = false := decide_eq_false (by omega)
        have d2 : decide (256 < n) = false := decide_eq_false hn
        clear hn HR HN HR0
        go_wp2_with fail
        have HG := Aside0.mk (show w2.heap[g]? = w2.heap[g]? from rfl)
        go_loopw [31] (fun t wr => ∃ k : Nat, t = .int .i64 k ∧ Aside0 (k ≤ m.qs.length) ∧ Aside0 (∀ j, j < k → badQ (m.qs.getD j zQues) = false) ∧ Aside0 (Below w.heap.size w wr) ∧ Aside0 (wr.heap[g]? = w2.heap[g]?)) (fun t _ => m.qs.length - (intOf t).toNat)
        case atStart => exact ⟨0, rfl, ⟨Nat.zero_le _⟩, ⟨fun j hj => absurd hj (by omega)⟩, HB2, HG⟩
        case round =>
          clear HG z0 z1 z2 z3 z4 z5
          obtain ⟨k, rfl, HK, HN, HB, HG⟩ := hrel
          by_cases hk : k < m.qs.length
          · obtain ⟨ad, qq, h2, hq, e0, e1, e2⟩ := at_ques (Kd.C_below G2.out HB.out) k hk
            subst h2
            have p1 : (0 : Int) ≤ (k : Int) := by omega
            have p2 : (k : Int) < (m.qs.length : Int) := by omega
            have HQ := Lib.hid hq
            clear hq
            by_cases hb : isName qq.f0 = true
            · have HN1 := Aside0.mk (upto_succ HN.out (show badQ (m.qs.getD k zQues) = false by rw [HQ.out]; unfold badQ; rw [hb]; rfl))
              have HS := Lib.hid hb
              clear hb
              go_wp2_with fail
              refine (isName_yes qq.f0 _ HS.out).mono ?_
              rintro e w4 ⟨rfl, hb4⟩
              have hb5 := below_step (below_alloc (Below.refl wr.heap.size wr) _) hb4
              have HB4 := Aside0.mk (below_step HB.out hb5)
              have HG4 := Aside0.mk ((hb5.block g (blk_lt (HG.out.trans HX2.out))).trans HG.out)
              clear hb4 hb5
              go_wp2_with fail
              go_roundw
              case rel => exact ⟨k + 1, by go_num, ⟨hk⟩, HN1, HB4, HG4⟩
              case measure => simp [intOf]; omega
            · have hb' : isName qq.f0 = false := by simpa using hb
              have HF := Lib.hid (show R = 40 by have := HR1.out; rw [if_pos (any_at hk (by rw [HQ.out]; unfold badQ; rw [hb']; rfl))] at this; exact this.symm)
              have HS := Lib.hid hb'
              clear hb hb'
              go_wp2_with fail
              refine (isName_no qq.f0 _ HS.out).mono ?_
              rintro e w4 ⟨rfl, hb4⟩
              have HB4 := Aside0.mk (below_step HB.out (below_step (below_alloc (Below.refl wr.heap.size wr) _) hb4))
              clear hb4
              go_wp2_with fail
              go_ret
              exact ⟨by rw [HF.out]; rfl, HB4.out⟩
          · have hk' : k = m.qs.length := by have := HK.out; omega
            have HR2 := Lib.hid (show firstBad (m.ans ++ m.auth ++ m.add) = R by have := HR1.out; rw [if_neg (by rw [any_upto (by rw [← hk']; exact HN.out)]; decide)] at this; exact this)
            have HX3 := Aside0.mk (HG.out.trans HX2.out)
            clear hk' HN HK
            have z0 : wr.cell? ⟨g, 0, none⟩ = some (.int .u16 m.id) := (blk_cell HX3.out 0).trans rfl
            have z1 : wr.cell? ⟨g, 1, none⟩ = some (.int .u16 m.flags) := (blk_cell HX3.out 1).trans rfl
            have z2 : wr.cell? ⟨g, 2, none⟩ = some (.slice A2 m.qs.length c2) := (blk_cell HX3.out 2).trans rfl
            have z3 : wr.cell? ⟨g, 3, none⟩ = some (.slice A3 m.ans.length c3) := (blk_cell HX3.out 3).trans rfl
            have z4 : wr.cell? ⟨g, 4, none⟩ = some (.slice A4 m.auth.length c4) := (blk_cell HX3.out 4).trans rfl
            have z5 : wr.cell? ⟨g, 5, none⟩ = some (.slice A5 m.add.length c5) := (blk_cell HX3.out 5).trans rfl
            go_wp2_with fail
            refine (sections_calls m A2 A3 A4 A5 c2 c3 c4 c5 _).mono ?_
            rintro e w5 ⟨rfl, hb⟩
            have HB5 := Aside0.mk (below_step HB.out hb)
            clear hb z0 z1 z2 z3 z4 z5
            go_wp2_with fail
            go_loopw [42] (fun t wr => ∃ k : Nat, t = .int .i64 k ∧ Aside0 (k ≤ 3) ∧ Aside0 (firstBad ((secs m).drop k).flatten = R) ∧ Aside0 (Below w.heap.size w wr)) (fun t _ => 3 - (intOf t).toNat)
            case atStart => exact ⟨0, rfl, ⟨by decide⟩, ⟨by rw [← HR2.out, ← secs_flat]; rfl⟩, HB5⟩
            case round =>
              obtain ⟨wo, hwo⟩ : ∃ wo : World, wo = wr := ⟨_, rfl⟩
              subst hwo
              clear HB HB2 HB5 HX HX2 HX3 HG hlt hlne
              obtain ⟨i, rfl, HI, HE, HB⟩ := hrel
              by_cases hi : i < 3
              · obtain ⟨A, l, c, hidx, hlc, hlr, hd, hmem, hsec⟩ := sec_at m l3 (Kd.C_below G3.out HB.out) l4 (Kd.C_below G4.out HB.out) l5 (Kd.C_below G5.out HB.out) i hi
                have he := HE.out
                rw [hd, List.flatten_cons] at he
                have HE1 := Aside0.mk he
                have HLR := Aside0.mk hlr
                have HMem := Lib.hid hmem
                have q2 : (i : Int) < 3 := by omega
                have q3 : (i : Int) ≤ 3 := by omega
                have q4 : (l.length : Int) ≤ 1000000 := by
                  have h1 : l = m.ans ∨ l = m.auth ∨ l = m.add := by simpa [secs] using hsec
                  rcases h1 with h1 | h1 | h1 <;> rw [h1] <;> omega
                clear he hd HE hlr hmem hsec
                go_wp2_with fail
                go_loopw [47] (fun t wr => ∃ k : Nat, t = .int .i64 k ∧ Aside0 (k ≤ l.length) ∧ Aside0 (firstBad (l.drop k ++ ((secs m).drop (i + 1)).flatten) = R) ∧ Aside0 (Below w.heap.size w wr) ∧ Aside0 (Below wo.heap.size wo wr)) (fun t _ => l.length - (intOf t).toNat)
                case atStart => exact ⟨0, rfl, ⟨Nat.zero_le _⟩, HE1, HB, ⟨Below.refl _ _⟩⟩
                case round =>
                  clear HB HE1
                  obtain ⟨k, rfl, HK, HE, HB, HBo⟩ := hrel
                  by_cases hk : k < l.length
                  · obtain ⟨ad, A4', c4', A5', c5', A6, c6, r, hA, hr, e0, e1, e2, e3, e4, e5, e6, hrec⟩ := at_rec (Kd.C_below HLR.out HBo.out) k hk
                    subst hA
                    have p1 : (0 : Int) ≤ (k : Int) := by omega
                    have p2 : (k : Int) < (l.length : Int) := by omega
                    have he := HE.out
                    rw [drop_get zRec l k hk, List.cons_append, firstBad, hr] at he
                    have HFn := Aside0.mk (show Fine r by rw [← hr]; exact HM.out.fine _ (HMem.out _ (getD_mem zRec hk)))
                    have HRec := Aside0.mk hrec
                    clear hrec hr
                    by_cases hc : checkF r = 0
                    · rw [if_pos hc] at he
                      have HE1 := Aside0.mk he
                      have HC := Lib.hid hc
                      clear he hc HE
                      go_wp2_with fail
                      refine (check_calls r _ _ (HRec.out.below (below_alloc (Below.refl _ _) _)) HFn.out).mono ?_
                      rw [HC.out]
                      rintro e w6 ⟨rfl, hb6⟩
                      have hb7 := below_step (below_alloc (Below.refl wr.heap.size wr) _) hb6
                      have HB6 := Aside0.mk (below_step HB.out hb7)
                      have HBo6 := Aside0.mk (below_step HBo.out hb7)
                      clear hb6 hb7
                      go_wp2_with fail
                      go_roundw
                      case rel => exact ⟨k + 1, by go_num, ⟨hk⟩, HE1, HB6, HBo6⟩
                      case measure => simp [intOf]; omega
                    · rw [if_neg hc] at he
                      have HC := Lib.hid he
                      have hne : (R != 0) = true := by rw [bne_iff_ne, ← he]; exact hc
                      clear he hc HE
                      go_wp2_with fail
                      refine (check_calls r _ _ (HRec.out.below (below_alloc (Below.refl _ _) _)) HFn.out).mono ?_
                      rw [HC.out]
                      rintro e w6 ⟨rfl, hb6⟩
                      have HB6 := Aside0.mk (below_step HB.out (below_step (below_alloc (Below.refl wr.heap.size wr) _) hb6))
                      clear hb6
                      go_wp2_with fail
                      go_ret
                      exact ⟨rfl, HB6.out⟩
                  · have hk' : k = l.length := by have := HK.out; omega
                    have he := HE.out
                    rw [hk', List.drop_length, List.nil_append] at he
                    have HE1 := Aside0.mk he
                    clear hk' he
                    go_wp2_with fail
                    go_roundw
                    case rel => exact ⟨i + 1, by go_num, ⟨hi⟩, HE1, HB⟩
                    case measure => simp [intOf]; omega
              · have hi' : i = 3 := by have := HI.out; omega
                have HF := Lib.hid (show R = 0 by rw [← HE.out, hi']; rfl)
                have q2 : ¬ (i : Int) < 3 := by omega
                clear hi' HE
                go_wp2
                go_ret
                exact ⟨by rw [HF.out]; rfl, HB.out⟩
end Go.Proofs.Ytbbeikdbioelgaa.M
set_option linter.unusedVariables false
set_option linter.unusedSimpArgs false
namespace Go.Proofs.Ytbbeikdbioelgaa.M
open Go.RowKit Go.Maps Go.Proofs.YtbbeikdbioelgaaW.PrintWords Go.Proofs.YtbbeikdbioelgaaW.PrintLast Go.Proofs.YtbbeikdbioelgaaW.PrintMore
attribute [local go_sem] max2_int min2_int max_two min_two max_three min_three max_four min_four
abbrev WS := List Int × (List UInt8 → Option Int)
def numsOf (m : Msg) : List Int := [m.id, m.flags, (m.qs.length : Int), (m.ans.length : Int), (m.auth.length : Int), (m.add.length : Int)]
def quesF (p : WS) (q : Ques) : WS := ((nameN p q.f0).1 ++ putL q.f1 2 ++ putL q.f2 2, (nameN p q.f0).2)
def recsF : List Rec → WS → Option WS
  | [], p => some p
  | r :: l, p => if 65535 < (recordF p r).1.length then none else recsF l (recordF p r)
def quesAll (m : Msg) : WS := m.qs.foldl quesF ((numsOf m).flatMap (fun n => putL n 2), fun _ => none)
def endF : Option WS → ByteArray × Int
  | none => (⟨#[]⟩, 3)
  | some p => if 65535 < p.1.length then (⟨#[]⟩, 3) else (strOfNums p.1, 0)
def writeM (m : Msg) : ByteArray × Int :=
  if checkM m = 0 then
    endF (recsF (m.ans ++ m.auth ++ m.add) (quesAll m))
  else (⟨#[]⟩, checkM m)
theorem num_at (m : Msg) (hm : MsgOk m) (hc : checkM m = 0) (i : Nat) (hi : i < 6) :
    ∃ x : Int, (∀ W : World, (Instr.index 68 (.agg #[.int .i64 m.id, .int .i64 m.flags, .int .i64 m.qs.length, .int .i64 m.ans.length, .int .i64 m.auth.length, .int .i64 m.add.length]) (.int .i64 (i : Int))).run Try.prog W = .ok (.int .i64 x) W) ∧ (numsOf m).getD i 0 = x ∧ 0 ≤ x ∧ x ≤ 65535 := by
  have hl : m.qs.length + m.ans.length + m.auth.length + m.add.length ≤ 256 := by
    unfold checkM at hc
    by_cases h : 256 < m.qs.length + m.ans.length + m.auth.length + m.add.length
    · rw [if_pos h] at hc; exact absurd hc (by decide)
    · omega
  match i, hi with
  | 0, _ => exact ⟨m.id, fun W => by kernel_rfl, rfl, hm.id0, hm.id1⟩
  | 1, _ => exact ⟨m.flags, fun W => by kernel_rfl, rfl, hm.fl0, hm.fl1⟩
  | 2, _ => exact ⟨m.qs.length, fun W => by kernel_rfl, rfl, by omega, by omega⟩
  | 3, _ => exact ⟨m.ans.length, fun W => by kernel_rfl, rfl, by omega, by omega⟩
  | 4, _ => exact ⟨m.auth.length, fun W => by kernel_rfl, rfl, by omega, by omega⟩
  | 5, _ => exact ⟨m.add.length, fun W => by kernel_rfl, rfl, by omega, by omega⟩
theorem check_parts {m : Msg} (hc : checkM m = 0) : m.qs.length + m.ans.length + m.auth.length + m.add.length ≤ 256 ∧ (∀ k, k < m.qs.length → isName (m.qs.getD k zQues).f0 = true) ∧ ∀ r, r ∈ m.ans ++ m.auth ++ m.add → checkF r = 0 := by
  unfold checkM at hc
  by_cases h : 256 < m.qs.length + m.ans.length + m.auth.length + m.add.length
  · rw [if_pos h] at hc; exact absurd hc (by decide)
  rw [if_neg h] at hc
  by_cases h2 : m.qs.any badQ = true
  · rw [if_pos h2] at hc; exact absurd hc (by decide)
  rw [if_neg h2] at hc
  refine ⟨by omega, fun k hk => ?_, ?_⟩
  · have := List.any_eq_false.1 (Bool.eq_false_iff.mpr h2) _ (getD_mem zQues hk)
    unfold badQ at this
    simpa using this
  · generalize m.ans ++ m.auth ++ m.add = l at hc
    induction l with
    | nil => intro r hr; exact absurd hr (by simp)
    | cons a l ih =>
      rw [firstBad] at hc
      by_cases h3 : checkF a = 0
      · rw [if_pos h3] at hc
        intro r hr
        rcases List.mem_cons.1 hr with rfl | hr
        · exact h3
        · exact ih hc r hr
      · rw [if_neg h3] at hc
        exact absurd hc h3
theorem quesF_near (p : WS) (q : Ques) (h : Near p.2) : Near (quesF p q).2 := nameF_near _ _ _ _ h
theorem quesF_len (p : WS) (q : Ques) (h : isName q.f0 = true) : (quesF p q).1.length ≤ p.1.length + 300 := by
  have h2 : (nameN p q.f0).1.length ≤ p.1.length + q.f0.size + 2 := nameF_len (q.f0.size + 1) p.1 p.2 q.f0
  have := isName_size h
  unfold quesF
  simp only [List.length_append, putL_length]
  omega
theorem rep_none : RepS (.map []) (fun _ => none) := fun l => ⟨rfl, fun v hv => absurd hv (by simp)⟩
theorem heap_two (h : Array Obj) (a b : Obj) : ((h.push a).push b)[h.size + 1]? = some b := by
  rw [Array.getElem?_push]
  simp
theorem start_at (w : World) : WAt w ((w.alloc (Obj.map #[] 0)).alloc (Obj.cells #[Value.slice none 0 0, Value.map (some w.heap.size)] 67)) (w.heap.size + 1) w.heap.size [] (fun _ => none) 0 :=
  ⟨⟨.slice none 0 0, by simp only [World.alloc]; exact heap_two _ _ _, Kd.R_nil _ _ _ _ _⟩, ⟨.map [], (World.ownsMap_made w Try.prog 9 (plainElem Try.prog 3)).alloc _, rep_none⟩, by omega, Nat.le_refl _, by omega, ((Below.refl _ _).alloc (Nat.le_refl _) _).alloc (by simp) _⟩
theorem blk_keep {w0 w : World} {g q mb N n : Nat} {out : List Int} {mm : List UInt8 → Option Int} {o : Obj} (h : w0.heap[g]? = some o) (hn : w0.heap.size = n) (hW : WAt w0 w q mb out mm N) : w.heap[g]? = some o := (hW.below.block g (blk_lt h)).trans h
set_option maxHeartbeats 8000000 in
set_option maxRecDepth 100000 in
theorem write_calls (m : Msg) (v : Value) (w : World) (hv : MsgAt w v m) (hm : MsgOk m) :
    Calls Try.prog 16 #[v] w fun e w' => e = .returned (.tuple #[.string (writeM m).1, .int .i64 (writeM m).2]) ∧ Below w.heap.size w w' := by
  have HV := Aside0.mk hv
  obtain ⟨A2, c2, A3, c3, A4, c4, A5, c5, rfl, l2, g2, l3, g3, l4, g4, l5, g5⟩ := hv
  have G2 := Aside0.mk g2
  have G3 := Aside0.mk g3
  have G4 := Aside0.mk g4
  have G5 := Aside0.mk g5
  have HM := Aside0.mk hm
  obtain ⟨R, hR⟩ : ∃ R, writeM m = R := ⟨_, rfl⟩
  rw [hR]
  unfold writeM at hR
  obtain ⟨cc, hcc⟩ : ∃ c, checkM m = c := ⟨_, rfl⟩
  rw [hcc] at hR
  have HC := Lib.hid hcc
  clear g2 g3 g4 g5 hm
  by_cases k0 : cc = 0
  case neg =>
    rw [if_neg k0] at hR
    subst hR
    have hne : (cc != 0) = true := by rw [bne_iff_ne]; exact k0
    clear k0 hcc
    go_enter Try.func16, Try.ntmps16
    go_wp2_with (((with_reducible refine gate_dst (N := 1) rfl ?_); refine box_event rfl (N := 1) rfl (cs := #[.int .u16 m.id, .int .u16 m.flags, .slice A2 m.qs.length c2, .slice A3 m.ans.length c3, .slice A4 m.auth.length c4, .slice A5 m.add.length c5]) (t := 26) (by first | (go_simp; done) | (go_simp; rfl)) ?_; intro g hg w1 hbox hb); have HX := Aside0.mk hbox; have HB := Aside0.mk hb; have HGe := Aside0.mk hg; clear hb hg; have z0 : w1.cell? ⟨g, 0, none⟩ = some (.int .u16 m.id) := (blk_cell HX.out 0).trans rfl; have z1 : w1.cell? ⟨g, 1, none⟩ = some (.int .u16 m.flags) := (blk_cell HX.out 1).trans rfl; have z2 : w1.cell? ⟨g, 2, none⟩ = some (.slice A2 m.qs.length c2) := (blk_cell HX.out 2).trans rfl; have z3 : w1.cell? ⟨g, 3, none⟩ = some (.slice A3 m.ans.length c3) := (blk_cell HX.out 3).trans rfl; have z4 : w1.cell? ⟨g, 4, none⟩ = some (.slice A4 m.auth.length c4) := (blk_cell HX.out 4).trans rfl; have z5 : w1.cell? ⟨g, 5, none⟩ = some (.slice A5 m.add.length c5) := (blk_cell HX.out 5).trans rfl; have hlt : g < w1.heap.size := blk_lt hbox; have hlne : ¬ g = w1.heap.size := Nat.ne_of_lt hlt; clear hbox)
    refine (checkM_calls m _ _ (HV.out.below HB.out) HM.out).mono ?_
    rw [HC.out]
    rintro e w2 ⟨rfl, hb⟩
    have HB2 := Aside0.mk (below_step HB.out hb)
    clear hb
    go_wp2_with fail
    go_ret2
    exact ⟨rfl, HB2.out⟩
  case pos =>
    subst k0
    rw [if_pos rfl] at hR
    have HR := Lib.hid hR
    have HP := Aside0.mk (check_parts hcc)
    have m1 : (m.qs.length : Int) ≤ 256 := by have := HP.out.1; omega
    have m2 : (m.ans.length : Int) ≤ 256 := by have := HP.out.1; omega
    have m3 : (m.auth.length : Int) ≤ 256 := by have := HP.out.1; omega
    have m4 : (m.add.length : Int) ≤ 256 := by have := HP.out.1; omega
    have i0 := HM.out.id0
    have i1 := HM.out.id1
    have i2 := HM.out.fl0
    have i3 := HM.out.fl1
    have hmm := @run_makeMap Try.prog
    clear hR hcc
    go_enter Try.func16, Try.ntmps16
    go_wp2_with (((with_reducible refine gate_dst (N := 1) rfl ?_); refine box_event rfl (N := 1) rfl (cs := #[.int .u16 m.id, .int .u16 m.flags, .slice A2 m.qs.length c2, .slice A3 m.ans.length c3, .slice A4 m.auth.length c4, .slice A5 m.add.length c5]) (t := 26) (by first | (go_simp; done) | (go_simp; rfl)) ?_; intro g hg w1 hbox hb); have HX := Aside0.mk hbox; have HB := Aside0.mk hb; have HGe := Aside0.mk hg; clear hb hg; have z0 : w1.cell? ⟨g, 0, none⟩ = some (.int .u16 m.id) := (blk_cell HX.out 0).trans rfl; have z1 : w1.cell? ⟨g, 1, none⟩ = some (.int .u16 m.flags) := (blk_cell HX.out 1).trans rfl; have z2 : w1.cell? ⟨g, 2, none⟩ = some (.slice A2 m.qs.length c2) := (blk_cell HX.out 2).trans rfl; have z3 : w1.cell? ⟨g, 3, none⟩ = some (.slice A3 m.ans.length c3) := (blk_cell HX.out 3).trans rfl; have z4 : w1.cell? ⟨g, 4, none⟩ = some (.slice A4 m.auth.length c4) := (blk_cell HX.out 4).trans rfl; have z5 : w1.cell? ⟨g, 5, none⟩ = some (.slice A5 m.add.length c5) := (blk_cell HX.out 5).trans rfl; have hlt : g < w1.heap.size := blk_lt hbox; have hlne : ¬ g = w1.heap.size := Nat.ne_of_lt hlt; clear hbox)
    refine (checkM_calls m _ _ (HV.out.below HB.out) HM.out).mono ?_
    rw [HC.out]
    rintro e wc ⟨rfl, hb⟩
    have HX2 := Aside0.mk (blk_below HX.out hb)
    have HB2 := Aside0.mk (below_step HB.out hb)
    have hlt2 : g < wc.heap.size := blk_lt HX2.out
    have hlne2 : ¬ g = wc.heap.size := Nat.ne_of_lt hlt2
    have hlne3 : ¬ g = wc.heap.size + 1 := by omega
    clear hb z0 z1 z2 z3 z4 z5
    have z0 : wc.cell? ⟨g, 0, none⟩ = some (.int .u16 m.id) := (blk_cell HX2.out 0).trans rfl
    have z1 : wc.cell? ⟨g, 1, none⟩ = some (.int .u16 m.flags) := (blk_cell HX2.out 1).trans rfl
    have z2 : wc.cell? ⟨g, 2, none⟩ = some (.slice A2 m.qs.length c2) := (blk_cell HX2.out 2).trans rfl
    have z3 : wc.cell? ⟨g, 3, none⟩ = some (.slice A3 m.ans.length c3) := (blk_cell HX2.out 3).trans rfl
    have z4 : wc.cell? ⟨g, 4, none⟩ = some (.slice A4 m.auth.length c4) := (blk_cell HX2.out 4).trans rfl
    have z5 : wc.cell? ⟨g, 5, none⟩ = some (.slice A5 m.add.length c5) := (blk_cell HX2.out 5).trans rfl
    go_wp2_with fail
    clear hmm z0 z1 z2 z3 z4 z5
    have HW := Aside0.mk (start_at wc)
    generalize hq : wc.heap.size + 1 = q at *
    generalize hmb : wc.heap.size = mb at *
    have HQ := Lib.hid hq
    have HMB := Lib.hid hmb
    clear hq hmb
    generalize (wc.alloc (Obj.map #[] 0)).alloc (Obj.cells #[Value.slice none 0 0, Value.map (some mb)] 67) = ws at *
    go_loopw [41] (fun t wr => ∃ k : Nat, t = .int .i64 k ∧ Aside0 (k ≤ 6) ∧ Aside0 (WAt wc wr q mb (((numsOf m).take k).flatMap (fun n => putL n 2)) (fun _ => none) 0)) (fun t _ => 6 - (intOf t).toNat)
    case atStart => exact ⟨0, rfl, ⟨by decide⟩, HW⟩
    case round =>
      clear HW
      obtain ⟨k, rfl, HK, HW⟩ := hrel
      by_cases hk : k < 6
      · obtain ⟨x, hidx, hx, x0, x1⟩ := num_at m HM.out HC.out k hk
        have HE1 := Aside0.mk (flat_snoc 0 (fun n => putL n 2) (numsOf m) k hk)
        simp only [hx] at HE1
        have q1 : (k : Int) < 6 := by omega
        have q2 : (k : Int) ≤ 6 := by omega
        clear hx
        go_wp2_with fail
        refine (num_calls HW.out x 2 (by decide) (by decide) x0 (by omega) (by have h1 := nums_le (numsOf m) k 2; have : (numsOf m).length = 6 := rfl; omega)).mono ?_
        rintro e w4 ⟨rfl, hw4, _⟩
        have HW4 := Aside0.mk (show WAt wc w4 q mb (((numsOf m).take (k + 1)).flatMap (fun n => putL n 2)) (fun _ => none) 0 by rw [HE1.out]; exact hw4)
        clear hw4
        go_wp2_with fail
        go_roundw
        case rel => exact ⟨k + 1, by go_num, ⟨hk⟩, HW4⟩
        case measure => simp [intOf]; omega
      · have hk' : k = 6 := by have := HK.out; omega
        have HW0 := Aside0.mk (show WAt wc wr q mb ((numsOf m).flatMap (fun n => putL n 2)) (fun _ => none) 0 by have e := HW.out; rw [hk', show (numsOf m).take 6 = numsOf m from rfl] at e; exact e)
        have HXr := Aside0.mk (HX2.out)
        have HX3 := Aside0.mk (blk_keep HX2.out HMB.out HW0.out)
        have q1 : ¬ (k : Int) < 6 := by omega
        clear hk' HW HXr
        have z0 : wr.cell? ⟨g, 0, none⟩ = some (.int .u16 m.id) := (blk_cell HX3.out 0).trans rfl
        have z1 : wr.cell? ⟨g, 1, none⟩ = some (.int .u16 m.flags) := (blk_cell HX3.out 1).trans rfl
        have z2 : wr.cell? ⟨g, 2, none⟩ = some (.slice A2 m.qs.length c2) := (blk_cell HX3.out 2).trans rfl
        have z3 : wr.cell? ⟨g, 3, none⟩ = some (.slice A3 m.ans.length c3) := (blk_cell HX3.out 3).trans rfl
        have z4 : wr.cell? ⟨g, 4, none⟩ = some (.slice A4 m.auth.length c4) := (blk_cell HX3.out 4).trans rfl
        have z5 : wr.cell? ⟨g, 5, none⟩ = some (.slice A5 m.add.length c5) := (blk_cell HX3.out 5).trans rfl
        go_wp2_with fail
        go_loopw [51] (fun t wr => ∃ (k : Nat) (p : WS), t = .int .i64 k ∧ Aside0 (k ≤ m.qs.length) ∧ Aside0 ((m.qs.drop k).foldl quesF p = quesAll m) ∧ Aside0 (Near p.2) ∧ Aside0 (p.1.length ≤ 12 + 300 * k) ∧ Aside0 (WAt wc wr q mb p.1 p.2 (256 * k))) (fun t _ => m.qs.length - (intOf t).toNat)
        case atStart => exact ⟨0, ((numsOf m).flatMap (fun n => putL n 2), fun _ => none), rfl, ⟨Nat.zero_le _⟩, ⟨rfl⟩, ⟨fun l v hl => absurd hl (by simp)⟩, ⟨by have h1 := nums_le (numsOf m) 6 2; rw [show (numsOf m).take 6 = numsOf m from rfl] at h1; have : (numsOf m).length = 6 := rfl; simp only; omega⟩, HW0⟩
        case round =>
          clear HW0 HX3 z0 z1 z2 z3 z4 z5
          obtain ⟨k, p, rfl, HK, HE, HN, HL, HW⟩ := hrel
          by_cases hk : k < m.qs.length
          · obtain ⟨ad, qq, hA, hqq, e0, e1, e2⟩ := at_ques (Kd.C_below G2.out (below_step HB2.out HW.out.below)) k hk
            subst hA
            have p1 : (0 : Int) ≤ (k : Int) := by omega
            have p2 : (k : Int) < (m.qs.length : Int) := by omega
            have he := HE.out
            rw [drop_get zQues m.qs k hk, List.foldl_cons, hqq] at he
            have hnm := HP.out.2.1 k hk
            rw [hqq] at hnm
            obtain ⟨t0, t1, t2, t3⟩ := HM.out.qs qq (by rw [← hqq]; exact getD_mem zQues hk)
            have HE1 := Aside0.mk he
            have HNm := Lib.hid hnm
            have hlq := HW.out.lt
            have HLq := Aside0.mk hlq
            have hls : k ≤ 256 := by omega
            clear he hqq hnm hlq HE
            go_wp2_with fail
            refine (nameN_calls (HW.out.alloc (below_alloc (Below.refl _ _) _)) HN.out qq.f0 HNm.out (by have := HL.out; omega) (by omega)).mono ?_
            rintro e w4 ⟨rfl, hw4, ht4⟩
            have hb4 := ht4.2 wr.heap.size _ _ (blk_new wr _) (by decide) (by have := HLq.out; omega) (by have := HLq.out; omega)
            have x1 : w4.cell? ⟨wr.heap.size, 1, none⟩ = some (.int .u16 qq.f1) := (blk_cell hb4 1).trans rfl
            have HW4 := Aside0.mk hw4
            have HL4 := Aside0.mk (show (nameN p qq.f0).1.length ≤ 12 + 300 * k + 257 by have h2 : (nameN p qq.f0).1.length ≤ p.1.length + qq.f0.size + 2 := nameF_len (qq.f0.size + 1) p.1 p.2 qq.f0; have := isName_size HNm.out; have := HL.out; omega)
            have HB4 := Aside0.mk hb4
            clear hw4 ht4 hb4
            go_wp2_with fail
            refine (num_calls HW4.out qq.f1 2 (by decide) (by decide) t0 (by omega) (by have := HL4.out; omega)).mono ?_
            rintro e w5 ⟨rfl, hw5, ht5⟩
            have hb5 := ht5.2 wr.heap.size _ _ HB4.out (by decide) (by have := HLq.out; omega) (by have := HLq.out; omega)
            have x2 : w5.cell? ⟨wr.heap.size, 2, none⟩ = some (.int .u16 qq.f2) := (blk_cell hb5 2).trans rfl
            have HW5 := Aside0.mk hw5
            clear hw5 ht5 hb5
            go_wp2_with fail
            refine (num_calls HW5.out qq.f2 2 (by decide) (by decide) t2 (by omega) (by have := HL4.out; rw [List.length_append, putL_length]; omega)).mono ?_
            rintro e w6 ⟨rfl, hw6, _⟩
            have HW6 := Aside0.mk (show WAt wc w6 q mb (quesF p qq).1 (quesF p qq).2 (256 * (k + 1)) from hw6.more (by omega))
            clear hw6
            go_wp2_with fail
            go_roundw
            case rel => exact ⟨k + 1, quesF p qq, by go_num, ⟨hk⟩, HE1, ⟨quesF_near p qq HN.out⟩, ⟨by have := quesF_len p qq HNm.out; have := HL.out; omega⟩, HW6⟩
            case measure => simp [intOf]; omega
          · have hk' : k = m.qs.length := by have := HK.out; omega
            have he := HE.out
            rw [hk', List.drop_length, List.foldl_nil] at he
            have HEq := Lib.hid he
            have HX3 := Aside0.mk (blk_keep HX2.out HMB.out HW.out)
            have HL0 := Aside0.mk (show p.1.length ≤ 100000 by have := HL.out; have := HP.out.1; omega)
            have HW0 := Aside0.mk (HW.out.more (N' := 65536) (by have := HP.out.1; omega))
            clear he HE HL HW hk' HK
            have z0 : wr.cell? ⟨g, 0, none⟩ = some (.int .u16 m.id) := (blk_cell HX3.out 0).trans rfl
            have z1 : wr.cell? ⟨g, 1, none⟩ = some (.int .u16 m.flags) := (blk_cell HX3.out 1).trans rfl
            have z2 : wr.cell? ⟨g, 2, none⟩ = some (.slice A2 m.qs.length c2) := (blk_cell HX3.out 2).trans rfl
            have z3 : wr.cell? ⟨g, 3, none⟩ = some (.slice A3 m.ans.length c3) := (blk_cell HX3.out 3).trans rfl
            have z4 : wr.cell? ⟨g, 4, none⟩ = some (.slice A4 m.auth.length c4) := (blk_cell HX3.out 4).trans rfl
            have z5 : wr.cell? ⟨g, 5, none⟩ = some (.slice A5 m.add.length c5) := (blk_cell HX3.out 5).trans rfl
            go_wp2_with fail
            refine (sections_calls m A2 A3 A4 A5 c2 c3 c4 c5 _).mono ?_
            rintro e w5 ⟨rfl, hb⟩
            have HW5 := Aside0.mk (HW0.out.alloc hb)
            clear hb z0 z1 z2 z3 z4 z5 HW0 HX3
            go_wp2_with fail
            go_loopw [72] (fun t wr => ∃ (i c : Nat) (p : WS), t = .int .i64 i ∧ Aside0 (i ≤ 3) ∧ Aside0 (endF (recsF ((secs m).drop i).flatten p) = R) ∧ Aside0 (Near p.2) ∧ Aside0 (p.1.length ≤ 100000) ∧ Aside0 (c + sumL ((secs m).drop i) ≤ 256) ∧ Aside0 (WAt wc wr q mb p.1 p.2 (65536 + 1024 * c))) (fun t _ => 3 - (intOf t).toNat)
            case atStart => exact ⟨0, 0, p, rfl, ⟨by decide⟩, ⟨by rw [← HR.out, ← HEq.out, ← secs_flat]; rfl⟩, HN, HL0, ⟨by have := HP.out.1; simp [sumL, secs]; omega⟩, HW5⟩
            case round =>
              obtain ⟨wo, hwo⟩ : ∃ wo : World, wo = wr := ⟨_, rfl⟩
              subst hwo
              clear HW5 HL0 HN HEq
              obtain ⟨i, c, p, rfl, HI, HE, HN, HL, HS, HW⟩ := hrel
              by_cases hi : i < 3
              · obtain ⟨A, l, cl, hidx, hlc, hlr, hd, hmem, hsec⟩ := sec_at m l3 (Kd.C_below G3.out HB2.out) l4 (Kd.C_below G4.out HB2.out) l5 (Kd.C_below G5.out HB2.out) i hi
                have he := HE.out
                have hs := HS.out
                rw [hd, List.flatten_cons] at he
                rw [hd, sumL, List.map_cons, List.sum_cons] at hs
                have HE1 := Aside0.mk he
                have HS1 := Aside0.mk (show c + l.length + sumL ((secs m).drop (i + 1)) ≤ 256 by unfold sumL; omega)
                have HLR := Aside0.mk hlr
                have HMem := Lib.hid hmem
                have q2 : (i : Int) < 3 := by omega
                have q3 : (i : Int) ≤ 3 := by omega
                have q4 : (l.length : Int) ≤ 256 := by omega
                clear he hd HE hlr hmem hsec hs HS
                go_wp2_with fail
                go_loopw [77] (fun t wr => ∃ (k : Nat) (p : WS), t = .int .i64 k ∧ Aside0 (k ≤ l.length) ∧ Aside0 (endF (recsF (l.drop k ++ ((secs m).drop (i + 1)).flatten) p) = R) ∧ Aside0 (Near p.2) ∧ Aside0 (p.1.length ≤ 100000) ∧ Aside0 (WAt wc wr q mb p.1 p.2 (65536 + 1024 * (c + k)))) (fun t _ => l.length - (intOf t).toNat)
                case atStart => exact ⟨0, p, rfl, ⟨Nat.zero_le _⟩, HE1, HN, HL, HW⟩
                case round =>
                  clear HW HN HL HE1
                  obtain ⟨k, p, rfl, HK, HE, HN, HL, HW⟩ := hrel
                  by_cases hk : k < l.length
                  · obtain ⟨ad, A4', c4', A5', c5', A6, c6, r, hA, hr, e0, e1, e2, e3, e4, e5, e6, hrec⟩ := at_rec HLR.out k hk
                    subst hA
                    have f0 := pw_cell_below HW.out.below e0
                    have f1 := pw_cell_below HW.out.below e1
                    have f2 := pw_cell_below HW.out.below e2
                    have f3 := pw_cell_below HW.out.below e3
                    have f4 := pw_cell_below HW.out.below e4
                    have f5 := pw_cell_below HW.out.below e5
                    have f6 := pw_cell_below HW.out.below e6
                    have p1 : (0 : Int) ≤ (k : Int) := by omega
                    have p2 : (k : Int) < (l.length : Int) := by omega
                    have he := HE.out
                    rw [drop_get zRec l k hk, List.cons_append, recsF, hr] at he
                    have hin := HMem.out _ (getD_mem zRec hk)
                    rw [hr] at hin
                    have HFn := Aside0.mk (HM.out.fine _ hin)
                    have HWf := Aside0.mk (HM.out.wf _ hin)
                    have HCk := Lib.hid (HP.out.2.2 _ hin)
                    have HRec := Aside0.mk hrec
                    have HLn := Aside0.mk (recordF_len p HFn.out HCk.out)
                    have HNr := Aside0.mk (recordF_near p r HN.out)
                    have HcS := HS1.out
                    have hck : c + k ≤ 256 := by omega
                    clear hrec hr e0 e1 e2 e3 e4 e5 e6 hin HE HcS
                    obtain ⟨⟨o, mm⟩, ho⟩ : ∃ x, recordF p r = x := ⟨_, rfl⟩
                    rw [ho] at he HLn HNr
                    have HO := Lib.hid ho
                    clear ho
                    by_cases hbig : 65535 < o.length
                    · rw [if_pos hbig] at he
                      have HF := Lib.hid he
                      have d1 : decide ((65535 : Int) < (o.length : Int)) = true := decide_eq_true (by omega)
                      have d2 : decide (65535 < o.length) = true := decide_eq_true hbig
                      clear he hbig
                      go_wp2_with fail
                      refine (record_calls (HW.out.alloc (below_alloc (Below.refl _ _) _)) HN.out r _ HRec.out HFn.out HWf.out HCk.out (by have := HL.out; omega) (by omega)).mono ?_
                      rw [HO.out]
                      rintro e w6 ⟨rfl, hw6⟩
                      have HW6 := Aside0.mk (show WAt wc w6 q mb o mm (65536 + 1024 * (c + (k + 1))) from hw6.more (by omega))
                      obtain ⟨⟨v, hcell, ho⟩, _⟩ := hw6
                      obtain ⟨A9, c9, rfl, _, _⟩ := Kd.R_reads ho
                      have y0 : w6.cell? ⟨q, 0, none⟩ = some (.slice A9 o.length c9) := (blk_cell hcell 0).trans rfl
                      have HBf := Aside0.mk (HB2.out.trans (HW6.out.below.mono HB2.out.size))
                      clear hcell ho
                      go_wp2_with fail
                      go_ret2
                      exact ⟨by rw [← HF.out]; rfl, HBf.out⟩
                    · rw [if_neg hbig] at he
                      have HE1 := Aside0.mk he
                      have HL1 := Aside0.mk (show o.length ≤ 100000 by omega)
                      have d1 : decide ((65535 : Int) < (o.length : Int)) = false := decide_eq_false (by omega)
                      have d2 : decide (65535 < o.length) = false := decide_eq_false hbig
                      clear he hbig
                      go_wp2_with fail
                      refine (record_calls (HW.out.alloc (below_alloc (Below.refl _ _) _)) HN.out r _ HRec.out HFn.out HWf.out HCk.out (by have := HL.out; omega) (by omega)).mono ?_
                      rw [HO.out]
                      rintro e w6 ⟨rfl, hw6⟩
                      have HW6 := Aside0.mk (show WAt wc w6 q mb o mm (65536 + 1024 * (c + (k + 1))) from hw6.more (by omega))
                      obtain ⟨⟨v, hcell, ho⟩, _⟩ := hw6
                      obtain ⟨A9, c9, rfl, _, _⟩ := Kd.R_reads ho
                      have y0 : w6.cell? ⟨q, 0, none⟩ = some (.slice A9 o.length c9) := (blk_cell hcell 0).trans rfl
                      have HBf := Aside0.mk (HB2.out.trans (HW6.out.below.mono HB2.out.size))
                      clear hcell ho
                      go_wp2_with fail
                      go_roundw
                      case rel => exact ⟨k + 1, (o, mm), by go_num, ⟨hk⟩, HE1, HNr, HL1, HW6⟩
                      case measure => simp [intOf]; omega
                  · have hk' : k = l.length := by have := HK.out; omega
                    have he := HE.out
                    rw [hk', List.drop_length, List.nil_append] at he
                    have HE1 := Aside0.mk he
                    have HW1 := Aside0.mk (show WAt wc wr q mb p.1 p.2 (65536 + 1024 * (c + l.length)) by rw [← hk']; exact HW.out)
                    clear hk' he
                    go_wp2_with fail
                    go_roundw
                    case rel => exact ⟨i + 1, c + l.length, p, by go_num, ⟨hi⟩, HE1, HN, HL, HS1, HW1⟩
                    case measure => simp [intOf]; omega
              · have hi' : i = 3 := by have := HI.out; omega
                have he := HE.out
                rw [hi', show ((secs m).drop 3).flatten = [] from rfl, recsF, endF] at he
                have q2 : ¬ (i : Int) < 3 := by omega
                obtain ⟨⟨v, hcell, ho⟩, _⟩ := HW.out
                obtain ⟨A, c, rfl, _, _⟩ := Kd.R_reads ho
                have y0 : wo.cell? ⟨q, 0, none⟩ = some (.slice A p.1.length c) := (blk_cell hcell 0).trans rfl
                have hcv := strOf ho
                have HBf := Aside0.mk (HB2.out.trans (HW.out.below.mono HB2.out.size))
                clear hi' HE hcell ho
                by_cases hbig : 65535 < p.1.length
                · rw [if_pos hbig] at he
                  have HF := Lib.hid he
                  have d1 : decide ((65535 : Int) < (p.1.length : Int)) = true := decide_eq_true (by omega)
                  have d2 : decide (65535 < p.1.length) = true := decide_eq_true hbig
                  clear he hbig
                  go_wp2_with fail
                  go_ret2
                  exact ⟨by rw [← HF.out]; rfl, HBf.out⟩
                · rw [if_neg hbig] at he
                  have HF := Lib.hid he
                  have d1 : decide ((65535 : Int) < (p.1.length : Int)) = false := decide_eq_false (by omega)
                  have d2 : decide (65535 < p.1.length) = false := decide_eq_false hbig
                  clear he hbig
                  go_wp2_with fail
                  go_ret2
                  exact ⟨by rw [← HF.out]; rfl, HBf.out⟩
end Go.Proofs.Ytbbeikdbioelgaa.M
set_option linter.unusedVariables false
set_option linter.unusedSimpArgs false
namespace Go.Proofs.Ytbbeikdbioelgaa.M
open Go.RowKit Go.Maps Go.Proofs.YtbbeikdbioelgaaW.PrintWords Go.Proofs.YtbbeikdbioelgaaW.PrintLast Go.Proofs.YtbbeikdbioelgaaW.PrintMore
attribute [local go_sem] max2_int min2_int max_two min_two max_three min_three max_four min_four
attribute [local go_sem ↓] Go.wp_at_zero Go.wp_at_succ
def awQ : ByteArray := ⟨#[3, 119, 119, 119, 2, 101, 120, 0]⟩
def awN : ByteArray := ⟨#[1, 97, 2, 101, 120, 0]⟩
def awR : Rec := ⟨awQ, 5, 0, 0, [awN], [], []⟩
def awM : Msg := ⟨0, 0, [⟨awQ, 0, 0⟩], [awR], [], []⟩
def awZ : Msg := ⟨0, 0, [⟨⟨#[]⟩, 0, 0⟩], [], [], []⟩
def awS : ByteArray := (writeM awM).1
theorem aw_check : checkM awM = 0 := by decide +kernel
theorem aw_code : (writeM awM).2 = 0 := by decide +kernel
theorem aw_size : awS.size = 40 := by decide +kernel
theorem aw_mid : awS.extract 24 26 = ⟨#[192, 12]⟩ := by decide +kernel
theorem aw_end : awS.extract 36 40 = ⟨#[1, 97, 192, 16]⟩ := by decide +kernel
theorem awZ_check : checkM awZ = 40 := by decide +kernel
theorem C_one {α : Type} {K : Kd α} {w : World} {x : α} {b : Nat} {cs : Array Value} {t : TypeId} (hb : w.heap[b]? = some (.cells cs t (0, 0))) (hl : cs.toList.length = K.sz) (hK : K.K w x cs.toList) : K.C w (some ⟨b, 0, none⟩) 1 [x] := by
  refine ⟨rfl, by simp, fun _ => ⟨_, rfl, fun j p hp => ?_⟩⟩
  have hj : j = 0 := by
    have := (List.getElem?_eq_some_iff.1 hp).1
    simpa using this
  subst hj
  obtain rfl : x = p := by simpa using hp
  refine ⟨_, hl, hK, fun i u hu => ?_⟩
  have e : (⟨b, 0, none⟩ : Addr).add (0 * K.sz + i) = ⟨b, i, none⟩ := by simp [Addr.add]; exact Eq.symm
  rw [e, blk_cell hb i]
  simpa using hu
theorem aw_at {W : World} {b b1 b2 : Nat} (h0 : W.heap[b]? = some (.cells #[.string awQ, .int .u16 0, .int .u16 0] 39 (0, 0))) (h1 : W.heap[b1]? = some (.cells #[.string awN] 9 (0, 0)))
    (h2 : W.heap[b2]? = some (.cells #[.string awQ, .int .u16 5, .int .u16 0, .int .u32 0, .slice (some ⟨b1, 0, none⟩) 1 1, .slice none 0 0, .slice none 0 0] 44 (0, 0))) :
    MsgAt W (.agg #[.int .u16 0, .int .u16 0, .slice (some ⟨b, 0, none⟩) 1 1, .slice (some ⟨b2, 0, none⟩) 1 1, .slice none 0 0, .slice none 0 0]) awM :=
  ⟨_, _, _, _, _, _, _, _, rfl, Nat.le_refl _, C_one h0 rfl (kQues_mk W _), Nat.le_refl _,
    C_one h2 rfl (kRec_mk W awR (Nat.le_refl 1) (C_one h1 rfl rfl) (Nat.le_refl _) (Kd.C_nil _ W) (Nat.le_refl _) (Kd.C_nil _ W)), Nat.le_refl _, Kd.C_nil _ W, Nat.le_refl _, Kd.C_nil _ W⟩
theorem awZ_at {W : World} {b : Nat} (h0 : W.heap[b]? = some (.cells #[.string ⟨#[]⟩, .int .u16 0, .int .u16 0] 39 (0, 0))) :
    MsgAt W (.agg #[.int .u16 0, .int .u16 0, .slice (some ⟨b, 0, none⟩) 1 1, .slice none 0 0, .slice none 0 0, .slice none 0 0]) awZ :=
  ⟨_, _, _, _, _, _, _, _, rfl, Nat.le_refl _, C_one h0 rfl (kQues_mk W _), Nat.le_refl _, Kd.C_nil _ W, Nat.le_refl _, Kd.C_nil _ W, Nat.le_refl _, Kd.C_nil _ W⟩
theorem awR_in {r : Rec} (h : r ∈ awM.ans ++ awM.auth ++ awM.add) : r = awR := by simpa [awM] using h
theorem aw_ok : MsgOk awM where
  fine := fun r h => by
    obtain rfl := awR_in h
    exact ⟨by decide, by decide +kernel, by decide, by decide, by decide⟩
  wf := fun r h => by
    obtain rfl := awR_in h
    exact ⟨by decide, by decide, by decide, by decide, by decide, by decide⟩
  qs := fun q h => by
    obtain rfl : q = ⟨awQ, 0, 0⟩ := by simpa [awM] using h
    decide
  id0 := by decide
  id1 := by decide
  fl0 := by decide
  fl1 := by decide
  n0 := by decide
  n1 := by decide
  n2 := by decide
  n3 := by decide
theorem awZ_ok : MsgOk awZ where
  fine := fun r h => absurd h (by simp [awZ])
  wf := fun r h => absurd h (by simp [awZ])
  qs := fun q h => by
    obtain rfl : q = ⟨⟨#[]⟩, 0, 0⟩ := by simpa [awZ] using h
    decide
  id0 := by decide
  id1 := by decide
  fl0 := by decide
  fl1 := by decide
  n0 := by decide
  n1 := by decide
  n2 := by decide
  n3 := by decide
theorem aw_write : ∃ S, writeM awM = (S, 0) ∧ S.size = 40 ∧ S.extract 24 26 = ⟨#[192, 12]⟩ ∧ S.extract 36 40 = ⟨#[1, 97, 192, 16]⟩ := ⟨awS, by rw [← aw_code]; rfl, aw_size, aw_mid, aw_end⟩
theorem aw_world (w : World) : ∃ W : World, W = ((((w.alloc (.cells #[.string ⟨#[3, 119, 119, 119, 2, 101, 120, 0]⟩, .int .u16 0, .int .u16 0] 39)).alloc (.cells #[.string ⟨#[1, 97, 2, 101, 120, 0]⟩] 9)).alloc (.cells #[.string ⟨#[3, 119, 119, 119, 2, 101, 120, 0]⟩, .int .u16 5, .int .u16 0, .int .u32 0, .slice (some ⟨w.heap.size + 1, 0, none⟩) 1 1, .slice none 0 0, .slice none 0 0] 44)).alloc (.cells #[.int .u16 0, .int .u16 0, .slice (some ⟨w.heap.size, 0, none⟩) 1 1, .slice (some ⟨w.heap.size + 1 + 1, 0, none⟩) 1 1, .slice none 0 0, .slice none 0 0] 26)) ∧ MsgAt W (.agg #[.int .u16 0, .int .u16 0, .slice (some ⟨w.heap.size, 0, none⟩) 1 1, .slice (some ⟨w.heap.size + 1 + 1, 0, none⟩) 1 1, .slice none 0 0, .slice none 0 0]) awM ∧ Below w.heap.size w W ∧ W.heap[w.heap.size + 1 + 1 + 1]? = some (.cells #[.int .u16 0, .int .u16 0, .slice (some ⟨w.heap.size, 0, none⟩) 1 1, .slice (some ⟨w.heap.size + 1 + 1, 0, none⟩) 1 1, .slice none 0 0, .slice none 0 0] 26 (0, 0)) := by
  refine ⟨_, rfl, aw_at (b1 := w.heap.size + 1) ?_ ?_ ?_, below_alloc (below_alloc (below_alloc (below_alloc (Below.refl _ _) _) _) _) _, ?_⟩
  · exact blk_alloc (blk_alloc (blk_alloc (blk_new _ _) _) _) _
  · have := blk_alloc (blk_alloc (blk_new (w.alloc (.cells #[.string ⟨#[3, 119, 119, 119, 2, 101, 120, 0]⟩, .int .u16 0, .int .u16 0] 39)) (.cells #[.string ⟨#[1, 97, 2, 101, 120, 0]⟩] 9)) (.cells #[.string ⟨#[3, 119, 119, 119, 2, 101, 120, 0]⟩, .int .u16 5, .int .u16 0, .int .u32 0, .slice (some ⟨w.heap.size + 1, 0, none⟩) 1 1, .slice none 0 0, .slice none 0 0] 44)) (.cells #[.int .u16 0, .int .u16 0, .slice (some ⟨w.heap.size, 0, none⟩) 1 1, .slice (some ⟨w.heap.size + 1 + 1, 0, none⟩) 1 1, .slice none 0 0, .slice none 0 0] 26)
    rw [World.size_alloc] at this
    exact this
  · have := blk_alloc (blk_new ((w.alloc (.cells #[.string ⟨#[3, 119, 119, 119, 2, 101, 120, 0]⟩, .int .u16 0, .int .u16 0] 39)).alloc (.cells #[.string ⟨#[1, 97, 2, 101, 120, 0]⟩] 9)) (.cells #[.string ⟨#[3, 119, 119, 119, 2, 101, 120, 0]⟩, .int .u16 5, .int .u16 0, .int .u32 0, .slice (some ⟨w.heap.size + 1, 0, none⟩) 1 1, .slice none 0 0, .slice none 0 0] 44)) (.cells #[.int .u16 0, .int .u16 0, .slice (some ⟨w.heap.size, 0, none⟩) 1 1, .slice (some ⟨w.heap.size + 1 + 1, 0, none⟩) 1 1, .slice none 0 0, .slice none 0 0] 26)
    rw [World.size_alloc, World.size_alloc] at this
    exact this
  · have := blk_new (((w.alloc (.cells #[.string ⟨#[3, 119, 119, 119, 2, 101, 120, 0]⟩, .int .u16 0, .int .u16 0] 39)).alloc (.cells #[.string ⟨#[1, 97, 2, 101, 120, 0]⟩] 9)).alloc (.cells #[.string ⟨#[3, 119, 119, 119, 2, 101, 120, 0]⟩, .int .u16 5, .int .u16 0, .int .u32 0, .slice (some ⟨w.heap.size + 1, 0, none⟩) 1 1, .slice none 0 0, .slice none 0 0] 44)) (.cells #[.int .u16 0, .int .u16 0, .slice (some ⟨w.heap.size, 0, none⟩) 1 1, .slice (some ⟨w.heap.size + 1 + 1, 0, none⟩) 1 1, .slice none 0 0, .slice none 0 0] 26)
    rw [World.size_alloc, World.size_alloc, World.size_alloc] at this
    exact this
set_option maxHeartbeats 2000000 in
set_option maxRecDepth 100000 in
theorem awake_calls (w : World) :
    Calls Try.prog 13 #[] w fun e w' => e = .returned (.bool true) ∧ Below w.heap.size w w' := by
  obtain ⟨S, hS, hs, hs1, hs2⟩ := aw_write
  have HS := Lib.hid hS
  clear hS
  go_enter Try.func13, Try.ntmps13
  go_wp2_with fail
  obtain ⟨W, hW, hM, hB, hX⟩ := aw_world w
  rw [← hW]
  have HM := Aside0.mk hM
  have HB := Aside0.mk hB
  have HX := Aside0.mk hX
  clear hW hM hB hX
  refine (write_calls awM _ _ HM.out aw_ok).mono ?_
  rintro e w1 ⟨rfl, hb⟩
  rw [HS.out]
  have HM1 := Aside0.mk (HM.out.below hb)
  have HX1 := Aside0.mk (blk_below HX.out hb)
  have HB1 := Aside0.mk (below_step HB.out hb)
  clear hb
  have z0 : w1.cell? ⟨w.heap.size + 1 + 1 + 1, 0, none⟩ = some (.int .u16 0) := (blk_cell HX1.out 0).trans rfl
  have z1 : w1.cell? ⟨w.heap.size + 1 + 1 + 1, 1, none⟩ = some (.int .u16 0) := (blk_cell HX1.out 1).trans rfl
  have z2 : w1.cell? ⟨w.heap.size + 1 + 1 + 1, 2, none⟩ = some (.slice (some ⟨w.heap.size, 0, none⟩) 1 1) := (blk_cell HX1.out 2).trans rfl
  have z3 : w1.cell? ⟨w.heap.size + 1 + 1 + 1, 3, none⟩ = some (.slice (some ⟨w.heap.size + 1 + 1, 0, none⟩) 1 1) := (blk_cell HX1.out 3).trans rfl
  have z4 : w1.cell? ⟨w.heap.size + 1 + 1 + 1, 4, none⟩ = some (.slice none 0 0) := (blk_cell HX1.out 4).trans rfl
  have z5 : w1.cell? ⟨w.heap.size + 1 + 1 + 1, 5, none⟩ = some (.slice none 0 0) := (blk_cell HX1.out 5).trans rfl
  go_wp2_with fail
  refine (checkM_calls awM _ _ HM1.out aw_ok).mono ?_
  rw [aw_check]
  rintro e w2 ⟨rfl, hb⟩
  have HB2 := Aside0.mk (below_step HB1.out hb)
  clear hb z0 z1 z2 z3 z4 z5
  go_wp2_with fail
  refine (checkM_calls awZ _ _ (awZ_at (blk_new _ _)) awZ_ok).mono ?_
  rw [awZ_check]
  rintro e w3 ⟨rfl, hb⟩
  have HB3 := Aside0.mk (below_step HB2.out (below_step (below_alloc (Below.refl w2.heap.size w2) _) hb))
  clear hb
  go_wp2_with fail
  go_ret
  exact ⟨rfl, HB3.out⟩
end Go.Proofs.Ytbbeikdbioelgaa.M
set_option linter.unusedVariables false
set_option linter.unusedSimpArgs false
namespace Go.Proofs.Ytbbeikdbioelgaa.M
open Go.RowKit Go.Maps Go.Proofs.YtbbeikdbioelgaaW.PrintWords Go.Proofs.YtbbeikdbioelgaaW.PrintLast Go.Proofs.YtbbeikdbioelgaaW.PrintMore
attribute [local go_sem] max2_int min2_int max_two min_two max_three min_three max_four min_four
attribute [local go_sem ↓] Go.wp_at_zero Go.wp_at_succ
def Iff1 (P : Prop) (F : World → Prop) (e : Ending) (w' : World) : Prop := ∃ b : Bool, e = .returned (.bool b) ∧ (b = true ↔ P) ∧ F w'
theorem ques_if_ne {x y : Ques} (h : ¬ x = y) {β : Type} (a b : β) : (if x.f0.toList = y.f0.toList then if x.f1 = y.f1 then if x.f2 = y.f2 then a else b else b else b) = b := by
  by_cases h0 : x.f0.toList = y.f0.toList
  · by_cases h1 : x.f1 = y.f1
    · by_cases h2 : x.f2 = y.f2
      · refine absurd ?_ h
        have hf : x.f0 = y.f0 := by
          refine Classical.byContradiction fun hn => ?_
          have := text_ne hn
          rw [h0] at this
          simp at this
        obtain ⟨x0, x1, x2⟩ := x
        obtain ⟨y0, y1, y2⟩ := y
        simp only at hf h1 h2
        rw [hf, h1, h2]
      · rw [if_pos h0, if_pos h1, if_neg h2]
    · rw [if_pos h0, if_neg h1]
  · rw [if_neg h0]
theorem take_step {α : Type} (z : α) {l l' : List α} {k : Nat} (h : l.take k = l'.take k) (h1 : k < l.length) (h2 : k < l'.length) (he : l.getD k z = l'.getD k z) : l.take (k + 1) = l'.take (k + 1) := by
  rw [List.getD_eq_getElem?_getD, List.getElem?_eq_getElem h1, List.getD_eq_getElem?_getD, List.getElem?_eq_getElem h2] at he
  rw [List.take_succ_eq_append_getElem h1, List.take_succ_eq_append_getElem h2, h, show l[k] = l'[k] from he]
theorem take_all {α : Type} {l l' : List α} {k : Nat} (h : l.take k = l'.take k) (h1 : k = l.length) (h2 : l'.length = l.length) : l = l' := by
  rwa [h1, List.take_length, ← h2, List.take_length] at h
set_option maxHeartbeats 2000000 in
set_option maxRecDepth 100000 in
theorem texts5_calls {A B : Option Addr} {c d : Nat} {l l2 : List ByteArray} {w : World} (hr : Kd.string.C w A l.length l) (hr2 : Kd.string.C w B l2.length l2) :
    Calls Try.prog 77 #[.slice A l.length c, .slice B l2.length d] w fun e w' => Iff1 (l = l2) (fun w' => Below w.heap.size w w') e w' := by
  have HC := Aside0.mk hr
  have HD := Aside0.mk hr2
  have hM := hr.2.1
  have hM2 := hr2.2.1
  clear hr hr2
  by_cases hl : l2.length = l.length
  case neg =>
    have d1 : ((l.length : Int) != (l2.length : Int)) = true := by rw [bne_iff_ne]; omega
    have HL := Aside0.mk (show ¬ l = l2 from fun h => hl (by rw [h]))
    clear hl
    go_enter Try.func77, Try.ntmps77
    go_wp2_with fail
    go_ret
    exact ⟨false, rfl, ⟨fun h => absurd h (by decide), fun h => absurd h HL.out⟩, Below.refl _ _⟩
  have d1 : ((l.length : Int) != (l.length : Int)) = false := by simp
  have HL := Aside0.mk hl
  rw [hl]
  clear hl
  go_enter Try.func77, Try.ntmps77
  go_wp2_with fail
  go_loopw [5] (fun t wr => ∃ k : Nat, t = .int .i64 k ∧ Aside0 (k ≤ l.length) ∧ Aside0 (l.take k = l2.take k) ∧ Aside0 (Below w.heap.size w wr)) (fun t _ => l.length - (intOf t).toNat)
  case atStart => exact ⟨0, rfl, ⟨Nat.zero_le _⟩, ⟨rfl⟩, ⟨Below.refl _ _⟩⟩
  case round =>
    obtain ⟨k, rfl, HK, HE, HB⟩ := hrel
    by_cases hk : k < l.length
    · obtain ⟨ad, hA, e1⟩ := at_str (Kd.C_below HC.out HB.out) k hk
      obtain ⟨ad2, hA2, e2⟩ := at_str (Kd.C_below HD.out HB.out) k (by rw [HL.out]; exact hk)
      subst hA hA2
      have p1 : (0 : Int) ≤ (k : Int) := by omega
      have p2 : (k : Int) < (l.length : Int) := by omega
      obtain ⟨s, hs⟩ : ∃ s, l.getD k ⟨#[]⟩ = s := ⟨_, rfl⟩
      obtain ⟨s2, hs2⟩ : ∃ s, l2.getD k ⟨#[]⟩ = s := ⟨_, rfl⟩
      rw [hs] at e1
      rw [hs2] at e2
      have HS := Aside0.mk (And.intro hs hs2)
      clear hs hs2
      go_wp2_with fail
      refine start_ (n := 9) (S := fun w' => w'.cell? (ad.add k) = some (.string s) ∧ w'.cell? (ad2.add k) = some (.string s2)) (ds := []) (Array.replicate 9 false) (by kernel_rfl) (by kernel_rfl) rfl ⟨e1, e2⟩ (fun hS => ?_)
      refine dpure 0 (some 17) rfl rfl (by kernel_rfl) (fun _ _ _ h => h) (by rfl) (v := ?_) (a' := ?_) ?_ ?_ ?_
      rotate_left 2
      · intro w'; go_simp; with_reducible rfl
      · simp only [Act.put, List.setIfInBounds_toArray, List.set_cons_zero, List.set_cons_succ]; rfl
      refine dpure 1 (some 18) rfl rfl (by kernel_rfl) (fun _ _ _ h => h) (by rfl) (v := ?_) (a' := ?_) ?_ ?_ ?_
      rotate_left 2
      · intro w'; go_simp; with_reducible rfl
      · simp only [Act.put, List.setIfInBounds_toArray, List.set_cons_zero, List.set_cons_succ]; rfl
      refine dpure 2 (some 19) rfl rfl (by kernel_rfl) (fun _ _ _ h => h) (by rfl) (v := ?_) (a' := ?_) ?_ ?_ ?_
      rotate_left 2
      · intro w'; go_simp; with_reducible rfl
      · simp only [Act.put, List.setIfInBounds_toArray, List.set_cons_zero, List.set_cons_succ]; rfl
      refine dtake 3 (some 20) rfl rfl (by kernel_rfl) (fun _ _ _ h => h) (by rfl) hS (v := ?_) (a' := ?_) ?_ ?_ ?_
      rotate_left 2
      · rintro w' ⟨s0,s1⟩; go_simp; with_reducible rfl
      · simp only [Act.put, List.setIfInBounds_toArray, List.set_cons_zero, List.set_cons_succ]; rfl
      refine dpure 4 (some 21) rfl rfl (by kernel_rfl) (fun _ _ _ h => h) (by rfl) (v := ?_) (a' := ?_) ?_ ?_ ?_
      rotate_left 2
      · intro w'; go_simp; with_reducible rfl
      · simp only [Act.put, List.setIfInBounds_toArray, List.set_cons_zero, List.set_cons_succ]; rfl
      refine dpure 5 (some 22) rfl rfl (by kernel_rfl) (fun _ _ _ h => h) (by rfl) (v := ?_) (a' := ?_) ?_ ?_ ?_
      rotate_left 2
      · intro w'; go_simp; with_reducible rfl
      · simp only [Act.put, List.setIfInBounds_toArray, List.set_cons_zero, List.set_cons_succ]; rfl
      refine dpure 6 (some 23) rfl rfl (by kernel_rfl) (fun _ _ _ h => h) (by rfl) (v := ?_) (a' := ?_) ?_ ?_ ?_
      rotate_left 2
      · intro w'; go_simp; with_reducible rfl
      · simp only [Act.put, List.setIfInBounds_toArray, List.set_cons_zero, List.set_cons_succ]; rfl
      refine dtake 7 (some 24) rfl rfl (by kernel_rfl) (fun _ _ _ h => h) (by rfl) hS (v := ?_) (a' := ?_) ?_ ?_ ?_
      rotate_left 2
      · rintro w' ⟨s0,s1⟩; go_simp; with_reducible rfl
      · simp only [Act.put, List.setIfInBounds_toArray, List.set_cons_zero, List.set_cons_succ]; rfl
      refine dpure 8 (some 25) rfl rfl (by kernel_rfl) (fun _ _ _ h => h) (by rfl) (v := ?_) (a' := ?_) ?_ ?_ ?_
      rotate_left 2
      · intro w'; go_simp; with_reducible rfl
      · simp only [Act.put, List.setIfInBounds_toArray, List.set_cons_zero, List.set_cons_succ]; rfl
      refine done_ (by kernel_rfl) ?_
      have HBd := Aside0.mk (below_drew HB.out)
      by_cases he : s = s2
      · have d2 : (s.toList == s2.toList) = true := by rw [he]; exact text_eq s2
        rw [d2]
        have HE2 := Aside0.mk (take_step ⟨#[]⟩ HE.out hk (by rw [HL.out]; exact hk) (HS.out.1.trans (he.trans HS.out.2.symm)))
        clear he
        go_wp2_with fail
        go_roundw
        case rel => exact ⟨k + 1, by go_num, ⟨hk⟩, HE2, HBd⟩
        case measure => simp [intOf]; omega
      · have d2 : (s.toList == s2.toList) = false := text_ne he
        rw [d2]
        have HN := Aside0.mk (show ¬ l = l2 from fun h => he (by rw [← HS.out.1, ← HS.out.2, h]))
        clear he
        go_wp2_with fail
        go_ret
        exact ⟨false, rfl, ⟨fun h => absurd h (by decide), fun h => absurd h HN.out⟩, HBd.out⟩
    · have hk' : k = l.length := by have := HK.out; omega
      have HN := Aside0.mk (show l = l2 from take_all HE.out hk' HL.out)
      clear hk'
      go_wp2_with fail
      go_ret
      exact ⟨true, rfl, ⟨fun _ => HN.out, fun _ => rfl⟩, HB.out⟩
set_option maxHeartbeats 8000000 in
set_option maxRecDepth 100000 in
theorem same5_calls {r s : Rec} {u v : Value} {w : World} (hu : RecAt w u r) (hv : RecAt w v s) :
    Calls Try.prog 65 #[u, v] w fun e w' => Iff1 (r = s) (fun w' => Below w.heap.size w w') e w' := by
  obtain ⟨A4, c4, A5, c5, A6, c6, rfl, l4, g4, l5, g5, l6, g6⟩ := hu
  obtain ⟨B4, d4, B5, d5, B6, d6, rfl, m4, h4, m5, h5, m6, h6⟩ := hv
  have G4 := Aside0.mk g4
  have G5 := Aside0.mk g5
  have G6 := Aside0.mk g6
  have H4 := Aside0.mk h4
  have H5 := Aside0.mk h5
  have H6 := Aside0.mk h6
  have hM := g5.2.1
  have hM2 := h5.2.1
  clear g4 g5 g6 h4 h5 h6
  by_cases k0 : r.f0 = s.f0
  case neg =>
    have e0 : (!r.f0.toList == s.f0.toList) = true := by rw [text_ne k0]; rfl
    have HN := Aside0.mk (show ¬ r = s from fun h => k0 (by rw [h]))
    go_enter Try.func65, Try.ntmps65
    go_wp2_with (first | ((with_reducible refine gate_dst (N := 2) rfl ?_); refine box_event rfl (N := 2) rfl (cs := #[.string r.f0, .int .u16 r.f1, .int .u16 r.f2, .int .u32 r.f3, .slice A4 r.f4.length c4, .slice A5 r.f5.length c5, .slice A6 r.f6.length c6]) (t := 44) (by first | (go_simp; done) | (go_simp; rfl)) ?_; intro g hg w1 hbox hb; have HX := Aside0.mk hbox; have HB := Aside0.mk hb; clear hb hg hbox) | ((with_reducible refine gate_dst (N := 3) rfl ?_); refine box_event rfl (N := 3) rfl (cs := #[.string s.f0, .int .u16 s.f1, .int .u16 s.f2, .int .u32 s.f3, .slice B4 s.f4.length d4, .slice B5 s.f5.length d5, .slice B6 s.f6.length d6]) (t := 44) (by first | (go_simp; done) | (go_simp; rfl)) ?_; intro g2 hg2 w2 hbox2 hb2; have HX2 := Aside0.mk (blk_below HX.out hb2); have HY2 := Aside0.mk hbox2; have HB2 := Aside0.mk (below_step HB.out hb2); clear hb2 hg2 hbox2; have z0 : w2.cell? ⟨g, 0, none⟩ = some (.string r.f0) := (blk_cell HX2.out 0).trans rfl; have z1 : w2.cell? ⟨g, 1, none⟩ = some (.int .u16 r.f1) := (blk_cell HX2.out 1).trans rfl; have z2 : w2.cell? ⟨g, 2, none⟩ = some (.int .u16 r.f2) := (blk_cell HX2.out 2).trans rfl; have z3 : w2.cell? ⟨g, 3, none⟩ = some (.int .u32 r.f3) := (blk_cell HX2.out 3).trans rfl; have z4 : w2.cell? ⟨g, 4, none⟩ = some (.slice A4 r.f4.length c4) := (blk_cell HX2.out 4).trans rfl; have z5 : w2.cell? ⟨g, 5, none⟩ = some (.slice A5 r.f5.length c5) := (blk_cell HX2.out 5).trans rfl; have z6 : w2.cell? ⟨g, 6, none⟩ = some (.slice A6 r.f6.length c6) := (blk_cell HX2.out 6).trans rfl; have y0 : w2.cell? ⟨g2, 0, none⟩ = some (.string s.f0) := (blk_cell HY2.out 0).trans rfl; have y1 : w2.cell? ⟨g2, 1, none⟩ = some (.int .u16 s.f1) := (blk_cell HY2.out 1).trans rfl; have y2 : w2.cell? ⟨g2, 2, none⟩ = some (.int .u16 s.f2) := (blk_cell HY2.out 2).trans rfl; have y3 : w2.cell? ⟨g2, 3, none⟩ = some (.int .u32 s.f3) := (blk_cell HY2.out 3).trans rfl; have y4 : w2.cell? ⟨g2, 4, none⟩ = some (.slice B4 s.f4.length d4) := (blk_cell HY2.out 4).trans rfl; have y5 : w2.cell? ⟨g2, 5, none⟩ = some (.slice B5 s.f5.length d5) := (blk_cell HY2.out 5).trans rfl; have y6 : w2.cell? ⟨g2, 6, none⟩ = some (.slice B6 s.f6.length d6) := (blk_cell HY2.out 6).trans rfl))
    go_ret
    exact ⟨false, rfl, ⟨fun h => absurd h (by decide), fun h => absurd h HN.out⟩, HB2.out⟩
  have e0 : (!r.f0.toList == s.f0.toList) = false := by rw [k0, text_eq]; rfl
  have K0 := Aside0.mk k0
  clear k0
  by_cases k1 : r.f1 = s.f1
  case neg =>
    have e1 : (r.f1 != s.f1) = true := by rw [bne_iff_ne]; exact k1
    have HN := Aside0.mk (show ¬ r = s from fun h => k1 (by rw [h]))
    go_enter Try.func65, Try.ntmps65
    go_wp2_with (first | ((with_reducible refine gate_dst (N := 2) rfl ?_); refine box_event rfl (N := 2) rfl (cs := #[.string r.f0, .int .u16 r.f1, .int .u16 r.f2, .int .u32 r.f3, .slice A4 r.f4.length c4, .slice A5 r.f5.length c5, .slice A6 r.f6.length c6]) (t := 44) (by first | (go_simp; done) | (go_simp; rfl)) ?_; intro g hg w1 hbox hb; have HX := Aside0.mk hbox; have HB := Aside0.mk hb; clear hb hg hbox) | ((with_reducible refine gate_dst (N := 3) rfl ?_); refine box_event rfl (N := 3) rfl (cs := #[.string s.f0, .int .u16 s.f1, .int .u16 s.f2, .int .u32 s.f3, .slice B4 s.f4.length d4, .slice B5 s.f5.length d5, .slice B6 s.f6.length d6]) (t := 44) (by first | (go_simp; done) | (go_simp; rfl)) ?_; intro g2 hg2 w2 hbox2 hb2; have HX2 := Aside0.mk (blk_below HX.out hb2); have HY2 := Aside0.mk hbox2; have HB2 := Aside0.mk (below_step HB.out hb2); clear hb2 hg2 hbox2; have z0 : w2.cell? ⟨g, 0, none⟩ = some (.string r.f0) := (blk_cell HX2.out 0).trans rfl; have z1 : w2.cell? ⟨g, 1, none⟩ = some (.int .u16 r.f1) := (blk_cell HX2.out 1).trans rfl; have z2 : w2.cell? ⟨g, 2, none⟩ = some (.int .u16 r.f2) := (blk_cell HX2.out 2).trans rfl; have z3 : w2.cell? ⟨g, 3, none⟩ = some (.int .u32 r.f3) := (blk_cell HX2.out 3).trans rfl; have z4 : w2.cell? ⟨g, 4, none⟩ = some (.slice A4 r.f4.length c4) := (blk_cell HX2.out 4).trans rfl; have z5 : w2.cell? ⟨g, 5, none⟩ = some (.slice A5 r.f5.length c5) := (blk_cell HX2.out 5).trans rfl; have z6 : w2.cell? ⟨g, 6, none⟩ = some (.slice A6 r.f6.length c6) := (blk_cell HX2.out 6).trans rfl; have y0 : w2.cell? ⟨g2, 0, none⟩ = some (.string s.f0) := (blk_cell HY2.out 0).trans rfl; have y1 : w2.cell? ⟨g2, 1, none⟩ = some (.int .u16 s.f1) := (blk_cell HY2.out 1).trans rfl; have y2 : w2.cell? ⟨g2, 2, none⟩ = some (.int .u16 s.f2) := (blk_cell HY2.out 2).trans rfl; have y3 : w2.cell? ⟨g2, 3, none⟩ = some (.int .u32 s.f3) := (blk_cell HY2.out 3).trans rfl; have y4 : w2.cell? ⟨g2, 4, none⟩ = some (.slice B4 s.f4.length d4) := (blk_cell HY2.out 4).trans rfl; have y5 : w2.cell? ⟨g2, 5, none⟩ = some (.slice B5 s.f5.length d5) := (blk_cell HY2.out 5).trans rfl; have y6 : w2.cell? ⟨g2, 6, none⟩ = some (.slice B6 s.f6.length d6) := (blk_cell HY2.out 6).trans rfl))
    go_ret
    exact ⟨false, rfl, ⟨fun h => absurd h (by decide), fun h => absurd h HN.out⟩, HB2.out⟩
  have e1 : (r.f1 != s.f1) = false := by rw [k1]; simp
  have K1 := Aside0.mk k1
  clear k1
  by_cases k2 : r.f2 = s.f2
  case neg =>
    have e2 : (r.f2 != s.f2) = true := by rw [bne_iff_ne]; exact k2
    have HN := Aside0.mk (show ¬ r = s from fun h => k2 (by rw [h]))
    go_enter Try.func65, Try.ntmps65
    go_wp2_with (first | ((with_reducible refine gate_dst (N := 2) rfl ?_); refine box_event rfl (N := 2) rfl (cs := #[.string r.f0, .int .u16 r.f1, .int .u16 r.f2, .int .u32 r.f3, .slice A4 r.f4.length c4, .slice A5 r.f5.length c5, .slice A6 r.f6.length c6]) (t := 44) (by first | (go_simp; done) | (go_simp; rfl)) ?_; intro g hg w1 hbox hb; have HX := Aside0.mk hbox; have HB := Aside0.mk hb; clear hb hg hbox) | ((with_reducible refine gate_dst (N := 3) rfl ?_); refine box_event rfl (N := 3) rfl (cs := #[.string s.f0, .int .u16 s.f1, .int .u16 s.f2, .int .u32 s.f3, .slice B4 s.f4.length d4, .slice B5 s.f5.length d5, .slice B6 s.f6.length d6]) (t := 44) (by first | (go_simp; done) | (go_simp; rfl)) ?_; intro g2 hg2 w2 hbox2 hb2; have HX2 := Aside0.mk (blk_below HX.out hb2); have HY2 := Aside0.mk hbox2; have HB2 := Aside0.mk (below_step HB.out hb2); clear hb2 hg2 hbox2; have z0 : w2.cell? ⟨g, 0, none⟩ = some (.string r.f0) := (blk_cell HX2.out 0).trans rfl; have z1 : w2.cell? ⟨g, 1, none⟩ = some (.int .u16 r.f1) := (blk_cell HX2.out 1).trans rfl; have z2 : w2.cell? ⟨g, 2, none⟩ = some (.int .u16 r.f2) := (blk_cell HX2.out 2).trans rfl; have z3 : w2.cell? ⟨g, 3, none⟩ = some (.int .u32 r.f3) := (blk_cell HX2.out 3).trans rfl; have z4 : w2.cell? ⟨g, 4, none⟩ = some (.slice A4 r.f4.length c4) := (blk_cell HX2.out 4).trans rfl; have z5 : w2.cell? ⟨g, 5, none⟩ = some (.slice A5 r.f5.length c5) := (blk_cell HX2.out 5).trans rfl; have z6 : w2.cell? ⟨g, 6, none⟩ = some (.slice A6 r.f6.length c6) := (blk_cell HX2.out 6).trans rfl; have y0 : w2.cell? ⟨g2, 0, none⟩ = some (.string s.f0) := (blk_cell HY2.out 0).trans rfl; have y1 : w2.cell? ⟨g2, 1, none⟩ = some (.int .u16 s.f1) := (blk_cell HY2.out 1).trans rfl; have y2 : w2.cell? ⟨g2, 2, none⟩ = some (.int .u16 s.f2) := (blk_cell HY2.out 2).trans rfl; have y3 : w2.cell? ⟨g2, 3, none⟩ = some (.int .u32 s.f3) := (blk_cell HY2.out 3).trans rfl; have y4 : w2.cell? ⟨g2, 4, none⟩ = some (.slice B4 s.f4.length d4) := (blk_cell HY2.out 4).trans rfl; have y5 : w2.cell? ⟨g2, 5, none⟩ = some (.slice B5 s.f5.length d5) := (blk_cell HY2.out 5).trans rfl; have y6 : w2.cell? ⟨g2, 6, none⟩ = some (.slice B6 s.f6.length d6) := (blk_cell HY2.out 6).trans rfl))
    go_ret
    exact ⟨false, rfl, ⟨fun h => absurd h (by decide), fun h => absurd h HN.out⟩, HB2.out⟩
  have e2 : (r.f2 != s.f2) = false := by rw [k2]; simp
  have K2 := Aside0.mk k2
  clear k2
  by_cases k3 : r.f3 = s.f3
  case neg =>
    have e3 : (r.f3 != s.f3) = true := by rw [bne_iff_ne]; exact k3
    have HN := Aside0.mk (show ¬ r = s from fun h => k3 (by rw [h]))
    go_enter Try.func65, Try.ntmps65
    go_wp2_with (first | ((with_reducible refine gate_dst (N := 2) rfl ?_); refine box_event rfl (N := 2) rfl (cs := #[.string r.f0, .int .u16 r.f1, .int .u16 r.f2, .int .u32 r.f3, .slice A4 r.f4.length c4, .slice A5 r.f5.length c5, .slice A6 r.f6.length c6]) (t := 44) (by first | (go_simp; done) | (go_simp; rfl)) ?_; intro g hg w1 hbox hb; have HX := Aside0.mk hbox; have HB := Aside0.mk hb; clear hb hg hbox) | ((with_reducible refine gate_dst (N := 3) rfl ?_); refine box_event rfl (N := 3) rfl (cs := #[.string s.f0, .int .u16 s.f1, .int .u16 s.f2, .int .u32 s.f3, .slice B4 s.f4.length d4, .slice B5 s.f5.length d5, .slice B6 s.f6.length d6]) (t := 44) (by first | (go_simp; done) | (go_simp; rfl)) ?_; intro g2 hg2 w2 hbox2 hb2; have HX2 := Aside0.mk (blk_below HX.out hb2); have HY2 := Aside0.mk hbox2; have HB2 := Aside0.mk (below_step HB.out hb2); clear hb2 hg2 hbox2; have z0 : w2.cell? ⟨g, 0, none⟩ = some (.string r.f0) := (blk_cell HX2.out 0).trans rfl; have z1 : w2.cell? ⟨g, 1, none⟩ = some (.int .u16 r.f1) := (blk_cell HX2.out 1).trans rfl; have z2 : w2.cell? ⟨g, 2, none⟩ = some (.int .u16 r.f2) := (blk_cell HX2.out 2).trans rfl; have z3 : w2.cell? ⟨g, 3, none⟩ = some (.int .u32 r.f3) := (blk_cell HX2.out 3).trans rfl; have z4 : w2.cell? ⟨g, 4, none⟩ = some (.slice A4 r.f4.length c4) := (blk_cell HX2.out 4).trans rfl; have z5 : w2.cell? ⟨g, 5, none⟩ = some (.slice A5 r.f5.length c5) := (blk_cell HX2.out 5).trans rfl; have z6 : w2.cell? ⟨g, 6, none⟩ = some (.slice A6 r.f6.length c6) := (blk_cell HX2.out 6).trans rfl; have y0 : w2.cell? ⟨g2, 0, none⟩ = some (.string s.f0) := (blk_cell HY2.out 0).trans rfl; have y1 : w2.cell? ⟨g2, 1, none⟩ = some (.int .u16 s.f1) := (blk_cell HY2.out 1).trans rfl; have y2 : w2.cell? ⟨g2, 2, none⟩ = some (.int .u16 s.f2) := (blk_cell HY2.out 2).trans rfl; have y3 : w2.cell? ⟨g2, 3, none⟩ = some (.int .u32 s.f3) := (blk_cell HY2.out 3).trans rfl; have y4 : w2.cell? ⟨g2, 4, none⟩ = some (.slice B4 s.f4.length d4) := (blk_cell HY2.out 4).trans rfl; have y5 : w2.cell? ⟨g2, 5, none⟩ = some (.slice B5 s.f5.length d5) := (blk_cell HY2.out 5).trans rfl; have y6 : w2.cell? ⟨g2, 6, none⟩ = some (.slice B6 s.f6.length d6) := (blk_cell HY2.out 6).trans rfl))
    go_ret
    exact ⟨false, rfl, ⟨fun h => absurd h (by decide), fun h => absurd h HN.out⟩, HB2.out⟩
  have e3 : (r.f3 != s.f3) = false := by rw [k3]; simp
  have K3 := Aside0.mk k3
  clear k3
  go_enter Try.func65, Try.ntmps65
  go_wp2_with (first | ((with_reducible refine gate_dst (N := 2) rfl ?_); refine box_event rfl (N := 2) rfl (cs := #[.string r.f0, .int .u16 r.f1, .int .u16 r.f2, .int .u32 r.f3, .slice A4 r.f4.length c4, .slice A5 r.f5.length c5, .slice A6 r.f6.length c6]) (t := 44) (by first | (go_simp; done) | (go_simp; rfl)) ?_; intro g hg w1 hbox hb; have HX := Aside0.mk hbox; have HB := Aside0.mk hb; clear hb hg hbox) | ((with_reducible refine gate_dst (N := 3) rfl ?_); refine box_event rfl (N := 3) rfl (cs := #[.string s.f0, .int .u16 s.f1, .int .u16 s.f2, .int .u32 s.f3, .slice B4 s.f4.length d4, .slice B5 s.f5.length d5, .slice B6 s.f6.length d6]) (t := 44) (by first | (go_simp; done) | (go_simp; rfl)) ?_; intro g2 hg2 w2 hbox2 hb2; have HX2 := Aside0.mk (blk_below HX.out hb2); have HY2 := Aside0.mk hbox2; have HB2 := Aside0.mk (below_step HB.out hb2); clear hb2 hg2 hbox2; have z0 : w2.cell? ⟨g, 0, none⟩ = some (.string r.f0) := (blk_cell HX2.out 0).trans rfl; have z1 : w2.cell? ⟨g, 1, none⟩ = some (.int .u16 r.f1) := (blk_cell HX2.out 1).trans rfl; have z2 : w2.cell? ⟨g, 2, none⟩ = some (.int .u16 r.f2) := (blk_cell HX2.out 2).trans rfl; have z3 : w2.cell? ⟨g, 3, none⟩ = some (.int .u32 r.f3) := (blk_cell HX2.out 3).trans rfl; have z4 : w2.cell? ⟨g, 4, none⟩ = some (.slice A4 r.f4.length c4) := (blk_cell HX2.out 4).trans rfl; have z5 : w2.cell? ⟨g, 5, none⟩ = some (.slice A5 r.f5.length c5) := (blk_cell HX2.out 5).trans rfl; have z6 : w2.cell? ⟨g, 6, none⟩ = some (.slice A6 r.f6.length c6) := (blk_cell HX2.out 6).trans rfl; have y0 : w2.cell? ⟨g2, 0, none⟩ = some (.string s.f0) := (blk_cell HY2.out 0).trans rfl; have y1 : w2.cell? ⟨g2, 1, none⟩ = some (.int .u16 s.f1) := (blk_cell HY2.out 1).trans rfl; have y2 : w2.cell? ⟨g2, 2, none⟩ = some (.int .u16 s.f2) := (blk_cell HY2.out 2).trans rfl; have y3 : w2.cell? ⟨g2, 3, none⟩ = some (.int .u32 s.f3) := (blk_cell HY2.out 3).trans rfl; have y4 : w2.cell? ⟨g2, 4, none⟩ = some (.slice B4 s.f4.length d4) := (blk_cell HY2.out 4).trans rfl; have y5 : w2.cell? ⟨g2, 5, none⟩ = some (.slice B5 s.f5.length d5) := (blk_cell HY2.out 5).trans rfl; have y6 : w2.cell? ⟨g2, 6, none⟩ = some (.slice B6 s.f6.length d6) := (blk_cell HY2.out 6).trans rfl))
  refine (texts5_calls (Kd.C_below G4.out HB2.out) (Kd.C_below H4.out HB2.out)).mono ?_
  rintro e w3 ⟨b3, rfl, hi, hb⟩
  have HI3 := Aside0.mk hi
  have HX3 := Aside0.mk (blk_below HX2.out hb)
  have HY3 := Aside0.mk (blk_below HY2.out hb)
  have HB3 := Aside0.mk (below_step HB2.out hb)
  clear hi hb z0 z1 z2 z3 z4 z5 z6 y0 y1 y2 y3 y4 y5 y6
  have z0 : w3.cell? ⟨g, 0, none⟩ = some (.string r.f0) := (blk_cell HX3.out 0).trans rfl; have z1 : w3.cell? ⟨g, 1, none⟩ = some (.int .u16 r.f1) := (blk_cell HX3.out 1).trans rfl; have z2 : w3.cell? ⟨g, 2, none⟩ = some (.int .u16 r.f2) := (blk_cell HX3.out 2).trans rfl; have z3 : w3.cell? ⟨g, 3, none⟩ = some (.int .u32 r.f3) := (blk_cell HX3.out 3).trans rfl; have z4 : w3.cell? ⟨g, 4, none⟩ = some (.slice A4 r.f4.length c4) := (blk_cell HX3.out 4).trans rfl; have z5 : w3.cell? ⟨g, 5, none⟩ = some (.slice A5 r.f5.length c5) := (blk_cell HX3.out 5).trans rfl; have z6 : w3.cell? ⟨g, 6, none⟩ = some (.slice A6 r.f6.length c6) := (blk_cell HX3.out 6).trans rfl
  have y0 : w3.cell? ⟨g2, 0, none⟩ = some (.string s.f0) := (blk_cell HY3.out 0).trans rfl; have y1 : w3.cell? ⟨g2, 1, none⟩ = some (.int .u16 s.f1) := (blk_cell HY3.out 1).trans rfl; have y2 : w3.cell? ⟨g2, 2, none⟩ = some (.int .u16 s.f2) := (blk_cell HY3.out 2).trans rfl; have y3 : w3.cell? ⟨g2, 3, none⟩ = some (.int .u32 s.f3) := (blk_cell HY3.out 3).trans rfl; have y4 : w3.cell? ⟨g2, 4, none⟩ = some (.slice B4 s.f4.length d4) := (blk_cell HY3.out 4).trans rfl; have y5 : w3.cell? ⟨g2, 5, none⟩ = some (.slice B5 s.f5.length d5) := (blk_cell HY3.out 5).trans rfl; have y6 : w3.cell? ⟨g2, 6, none⟩ = some (.slice B6 s.f6.length d6) := (blk_cell HY3.out 6).trans rfl
  cases b3
  case false =>
    have HN := Aside0.mk (show ¬ r = s from fun h => absurd (HI3.out.2 (by rw [h])) (by decide))
    go_wp2_with fail
    go_ret
    exact ⟨false, rfl, ⟨fun h => absurd h (by decide), fun h => absurd h HN.out⟩, HB3.out⟩
  go_wp2_with fail
  refine (texts5_calls (Kd.C_below G6.out HB3.out) (Kd.C_below H6.out HB3.out)).mono ?_
  rintro e w4 ⟨b4, rfl, hi, hb⟩
  have HI4 := Aside0.mk hi
  have HX4 := Aside0.mk (blk_below HX3.out hb)
  have HY4 := Aside0.mk (blk_below HY3.out hb)
  have HB4 := Aside0.mk (below_step HB3.out hb)
  clear hi hb z0 z1 z2 z3 z4 z5 z6 y0 y1 y2 y3 y4 y5 y6
  have z0 : w4.cell? ⟨g, 0, none⟩ = some (.string r.f0) := (blk_cell HX4.out 0).trans rfl; have z1 : w4.cell? ⟨g, 1, none⟩ = some (.int .u16 r.f1) := (blk_cell HX4.out 1).trans rfl; have z2 : w4.cell? ⟨g, 2, none⟩ = some (.int .u16 r.f2) := (blk_cell HX4.out 2).trans rfl; have z3 : w4.cell? ⟨g, 3, none⟩ = some (.int .u32 r.f3) := (blk_cell HX4.out 3).trans rfl; have z4 : w4.cell? ⟨g, 4, none⟩ = some (.slice A4 r.f4.length c4) := (blk_cell HX4.out 4).trans rfl; have z5 : w4.cell? ⟨g, 5, none⟩ = some (.slice A5 r.f5.length c5) := (blk_cell HX4.out 5).trans rfl; have z6 : w4.cell? ⟨g, 6, none⟩ = some (.slice A6 r.f6.length c6) := (blk_cell HX4.out 6).trans rfl
  have y0 : w4.cell? ⟨g2, 0, none⟩ = some (.string s.f0) := (blk_cell HY4.out 0).trans rfl; have y1 : w4.cell? ⟨g2, 1, none⟩ = some (.int .u16 s.f1) := (blk_cell HY4.out 1).trans rfl; have y2 : w4.cell? ⟨g2, 2, none⟩ = some (.int .u16 s.f2) := (blk_cell HY4.out 2).trans rfl; have y3 : w4.cell? ⟨g2, 3, none⟩ = some (.int .u32 s.f3) := (blk_cell HY4.out 3).trans rfl; have y4 : w4.cell? ⟨g2, 4, none⟩ = some (.slice B4 s.f4.length d4) := (blk_cell HY4.out 4).trans rfl; have y5 : w4.cell? ⟨g2, 5, none⟩ = some (.slice B5 s.f5.length d5) := (blk_cell HY4.out 5).trans rfl; have y6 : w4.cell? ⟨g2, 6, none⟩ = some (.slice B6 s.f6.length d6) := (blk_cell HY4.out 6).trans rfl
  cases b4
  case false =>
    have HN := Aside0.mk (show ¬ r = s from fun h => absurd (HI4.out.2 (by rw [h])) (by decide))
    go_wp2_with fail
    go_ret
    exact ⟨false, rfl, ⟨fun h => absurd h (by decide), fun h => absurd h HN.out⟩, HB4.out⟩
  by_cases k5 : s.f5.length = r.f5.length
  case neg =>
    have e4 : ((r.f5.length : Int) != (s.f5.length : Int)) = true := by rw [bne_iff_ne]; omega
    have HN := Aside0.mk (show ¬ r = s from fun h => k5 (by rw [h]))
    clear k5
    go_wp2_with fail
    go_ret
    exact ⟨false, rfl, ⟨fun h => absurd h (by decide), fun h => absurd h HN.out⟩, HB4.out⟩
  have e4 : ((r.f5.length : Int) != (s.f5.length : Int)) = false := by rw [k5]; simp
  have K5 := Aside0.mk k5
  clear k5
  go_wp2_with fail
  clear z0 z1 z2 z3 z4 z5 z6 y0 y1 y2 y3 y4 y5 y6 e0 e1 e2 e3 e4
  go_loopw [5] (fun t wr => ∃ k : Nat, t = .int .i64 k ∧ Aside0 (k ≤ r.f5.length) ∧ Aside0 (r.f5.take k = s.f5.take k) ∧ Aside0 (Below w.heap.size w wr) ∧ Aside0 (Below w4.heap.size w4 wr)) (fun t _ => r.f5.length - (intOf t).toNat)
  case atStart => exact ⟨0, rfl, ⟨Nat.zero_le _⟩, ⟨rfl⟩, HB4, ⟨Below.refl _ _⟩⟩
  case round =>
    obtain ⟨k, rfl, HK, HE, HB5, HB6⟩ := hrel
    have z5 : wr.cell? ⟨g, 5, none⟩ = some (.slice A5 r.f5.length c5) := (blk_cell (blk_below HX4.out HB6.out) 5).trans rfl
    have y5 : wr.cell? ⟨g2, 5, none⟩ = some (.slice B5 s.f5.length d5) := (blk_cell (blk_below HY4.out HB6.out) 5).trans rfl
    by_cases hk : k < r.f5.length
    · obtain ⟨ad, hA, e1⟩ := at_int (Kd.C_below G5.out HB5.out) k hk
      obtain ⟨ad2, hA2, e2⟩ := at_int (Kd.C_below H5.out HB5.out) k (by rw [K5.out]; exact hk)
      subst hA hA2
      have hks := K5.out
      have p1 : (0 : Int) ≤ (k : Int) := by omega
      have p2 : (k : Int) < (r.f5.length : Int) := by omega
      have p3 : (k : Int) < (s.f5.length : Int) := by omega
      obtain ⟨x, hx⟩ : ∃ x, r.f5.getD k 0 = x := ⟨_, rfl⟩
      obtain ⟨x2, hx2⟩ : ∃ x, s.f5.getD k 0 = x := ⟨_, rfl⟩
      rw [hx] at e1
      rw [hx2] at e2
      have HS := Aside0.mk (And.intro hx hx2)
      clear hx hx2 hks
      go_wp2_with fail
      refine start_ (n := 11) (S := fun w' => w'.cell? ⟨g, 5, none⟩ = some (.slice (some ad) r.f5.length c5) ∧ w'.cell? ⟨g2, 5, none⟩ = some (.slice (some ad2) s.f5.length d5) ∧ w'.cell? (ad.add k) = some (.int .u32 x) ∧ w'.cell? (ad2.add k) = some (.int .u32 x2)) (ds := []) (Array.replicate 11 false) (by kernel_rfl) (by kernel_rfl) rfl ⟨z5, y5, e1, e2⟩ (fun hS => ?_)
      refine dpure 0 (some 64) rfl rfl (by kernel_rfl) (fun _ _ _ h => h) (by rfl) (v := ?_) (a' := ?_) ?_ ?_ ?_
      rotate_left 2
      · intro w'; go_simp; with_reducible rfl
      · simp only [Act.put, List.setIfInBounds_toArray, List.set_cons_zero, List.set_cons_succ]; rfl
      refine dtake 1 (some 65) rfl rfl (by kernel_rfl) (fun _ _ _ h => h) (by rfl) hS (v := ?_) (a' := ?_) ?_ ?_ ?_
      rotate_left 2
      · rintro w' ⟨s0,s1,s2,s3⟩; go_simp; with_reducible rfl
      · simp only [Act.put, List.setIfInBounds_toArray, List.set_cons_zero, List.set_cons_succ]; rfl
      refine dpure 2 (some 66) rfl rfl (by kernel_rfl) (fun _ _ _ h => h) (by rfl) (v := ?_) (a' := ?_) ?_ ?_ ?_
      rotate_left 2
      · intro w'; go_simp; with_reducible rfl
      · simp only [Act.put, List.setIfInBounds_toArray, List.set_cons_zero, List.set_cons_succ]; rfl
      refine dpure 3 (some 67) rfl rfl (by kernel_rfl) (fun _ _ _ h => h) (by rfl) (v := ?_) (a' := ?_) ?_ ?_ ?_
      rotate_left 2
      · intro w'; go_simp; with_reducible rfl
      · simp only [Act.put, List.setIfInBounds_toArray, List.set_cons_zero, List.set_cons_succ]; rfl
      refine dtake 4 (some 68) rfl rfl (by kernel_rfl) (fun _ _ _ h => h) (by rfl) hS (v := ?_) (a' := ?_) ?_ ?_ ?_
      rotate_left 2
      · rintro w' ⟨s0,s1,s2,s3⟩; go_simp; with_reducible rfl
      · simp only [Act.put, List.setIfInBounds_toArray, List.set_cons_zero, List.set_cons_succ]; rfl
      refine dpure 5 (some 69) rfl rfl (by kernel_rfl) (fun _ _ _ h => h) (by rfl) (v := ?_) (a' := ?_) ?_ ?_ ?_
      rotate_left 2
      · intro w'; go_simp; with_reducible rfl
      · simp only [Act.put, List.setIfInBounds_toArray, List.set_cons_zero, List.set_cons_succ]; rfl
      refine dtake 6 (some 70) rfl rfl (by kernel_rfl) (fun _ _ _ h => h) (by rfl) hS (v := ?_) (a' := ?_) ?_ ?_ ?_
      rotate_left 2
      · rintro w' ⟨s0,s1,s2,s3⟩; go_simp; with_reducible rfl
      · simp only [Act.put, List.setIfInBounds_toArray, List.set_cons_zero, List.set_cons_succ]; rfl
      refine dpure 7 (some 71) rfl rfl (by kernel_rfl) (fun _ _ _ h => h) (by rfl) (v := ?_) (a' := ?_) ?_ ?_ ?_
      rotate_left 2
      · intro w'; go_simp; with_reducible rfl
      · simp only [Act.put, List.setIfInBounds_toArray, List.set_cons_zero, List.set_cons_succ]; rfl
      refine dpure 8 (some 72) rfl rfl (by kernel_rfl) (fun _ _ _ h => h) (by rfl) (v := ?_) (a' := ?_) ?_ ?_ ?_
      rotate_left 2
      · intro w'; go_simp; with_reducible rfl
      · simp only [Act.put, List.setIfInBounds_toArray, List.set_cons_zero, List.set_cons_succ]; rfl
      refine dtake 9 (some 73) rfl rfl (by kernel_rfl) (fun _ _ _ h => h) (by rfl) hS (v := ?_) (a' := ?_) ?_ ?_ ?_
      rotate_left 2
      · rintro w' ⟨s0,s1,s2,s3⟩; go_simp; with_reducible rfl
      · simp only [Act.put, List.setIfInBounds_toArray, List.set_cons_zero, List.set_cons_succ]; rfl
      refine dpure 10 (some 74) rfl rfl (by kernel_rfl) (fun _ _ _ h => h) (by rfl) (v := ?_) (a' := ?_) ?_ ?_ ?_
      rotate_left 2
      · intro w'; go_simp; with_reducible rfl
      · simp only [Act.put, List.setIfInBounds_toArray, List.set_cons_zero, List.set_cons_succ]; rfl
      refine done_ (by kernel_rfl) ?_
      have HBd := Aside0.mk (below_drew HB5.out)
      have HBe := Aside0.mk (below_drew HB6.out)
      by_cases he : x = x2
      · have d2 : (x != x2) = false := by rw [he]; simp
        rw [d2]
        have HE2 := Aside0.mk (take_step 0 HE.out hk (by rw [K5.out]; exact hk) (HS.out.1.trans (he.trans HS.out.2.symm)))
        clear he
        go_wp2_with fail
        go_roundw
        case rel => exact ⟨k + 1, by go_num, ⟨hk⟩, HE2, HBd, HBe⟩
        case measure => simp [intOf]; omega
      · have d2 : (x != x2) = true := by rw [bne_iff_ne]; exact he
        rw [d2]
        have HN := Aside0.mk (show ¬ r = s from fun h => he (by rw [← HS.out.1, ← HS.out.2, h]))
        clear he
        go_wp2_with fail
        go_ret
        exact ⟨false, rfl, ⟨fun h => absurd h (by decide), fun h => absurd h HN.out⟩, HBd.out⟩
    · have hk' : k = r.f5.length := by have := HK.out; omega
      have HN := Aside0.mk (show r = s from by
        have h5 := take_all HE.out hk' K5.out
        have h4 := HI3.out.1 (by simp)
        have h6 := HI4.out.1 (by simp)
        have h0 := K0.out
        have h1 := K1.out
        have h2 := K2.out
        have h3 := K3.out
        obtain ⟨a0, a1, a2, a3, a4, a5, a6⟩ := r
        obtain ⟨b0, b1, b2, b3, b4, b5, b6⟩ := s
        simp only at h0 h1 h2 h3 h4 h5 h6
        rw [h0, h1, h2, h3, h4, h5, h6])
      clear hk'
      go_wp2_with fail
      go_ret
      exact ⟨true, rfl, ⟨fun _ => HN.out, fun _ => rfl⟩, HB5.out⟩
set_option maxHeartbeats 4000000 in
set_option maxRecDepth 100000 in
theorem records6_calls {A B : Option Addr} {c d : Nat} {l l2 : List Rec} {w : World} (hr : kRec.C w A l.length l) (hr2 : kRec.C w B l2.length l2) :
    Calls Try.prog 42 #[.slice A l.length c, .slice B l2.length d] w fun e w' => Iff1 (l = l2) (fun w' => Below w.heap.size w w') e w' := by
  have HC := Aside0.mk hr
  have HD := Aside0.mk hr2
  have hM := hr.2.1
  have hM2 := hr2.2.1
  clear hr hr2
  by_cases hl : l2.length = l.length
  case neg =>
    have d1 : ((l.length : Int) != (l2.length : Int)) = true := by rw [bne_iff_ne]; omega
    have HL := Aside0.mk (show ¬ l = l2 from fun h => hl (by rw [h]))
    clear hl
    go_enter Try.func42, Try.ntmps42
    go_wp2_with fail
    go_ret
    exact ⟨false, rfl, ⟨fun h => absurd h (by decide), fun h => absurd h HL.out⟩, Below.refl _ _⟩
  have d1 : ((l.length : Int) != (l.length : Int)) = false := by simp
  have HL := Aside0.mk hl
  rw [hl]
  clear hl
  go_enter Try.func42, Try.ntmps42
  go_wp2_with fail
  go_loopw [5] (fun t wr => ∃ k : Nat, t = .int .i64 k ∧ Aside0 (k ≤ l.length) ∧ Aside0 (l.take k = l2.take k) ∧ Aside0 (Below w.heap.size w wr)) (fun t _ => l.length - (intOf t).toNat)
  case atStart => exact ⟨0, rfl, ⟨Nat.zero_le _⟩, ⟨rfl⟩, ⟨Below.refl _ _⟩⟩
  case round =>
    obtain ⟨k, rfl, HK, HE, HB⟩ := hrel
    by_cases hk : k < l.length
    · obtain ⟨ad, A4, c4, A5, c5, A6, c6, r, hA, hrr, e0, e1, e2, e3, e4, e5, e6, hrec⟩ := at_rec (Kd.C_below HC.out HB.out) k hk
      obtain ⟨ad2, B4, d4, B5, d5, B6, d6, s, hA2, hss, f0, f1, f2, f3, f4, f5, f6, hrec2⟩ := at_rec (Kd.C_below HD.out HB.out) k (by rw [HL.out]; exact hk)
      subst hA hA2
      have p1 : (0 : Int) ≤ (k : Int) := by omega
      have p2 : (k : Int) < (l.length : Int) := by omega
      have HS := Aside0.mk (And.intro hrr hss)
      have HR1 := Aside0.mk (hrec.below (below_drew (Below.refl _ _)))
      have HR2 := Aside0.mk (hrec2.below (below_drew (Below.refl _ _)))
      clear hrr hss hrec hrec2
      go_wp2_with fail
      refine start_ (n := 10) (S := fun w' => w'.cell? (ad.add (k * 7)) = some (.string r.f0) ∧ w'.cell? ⟨(ad.add (k * 7)).block, (ad.add (k * 7)).off + 1, none⟩ = some (.int .u16 r.f1) ∧ w'.cell? ⟨(ad.add (k * 7)).block, (ad.add (k * 7)).off + 2, none⟩ = some (.int .u16 r.f2) ∧ w'.cell? ⟨(ad.add (k * 7)).block, (ad.add (k * 7)).off + 3, none⟩ = some (.int .u32 r.f3) ∧ w'.cell? ⟨(ad.add (k * 7)).block, (ad.add (k * 7)).off + 4, none⟩ = some (.slice A4 r.f4.length c4) ∧ w'.cell? ⟨(ad.add (k * 7)).block, (ad.add (k * 7)).off + 5, none⟩ = some (.slice A5 r.f5.length c5) ∧ w'.cell? ⟨(ad.add (k * 7)).block, (ad.add (k * 7)).off + 6, none⟩ = some (.slice A6 r.f6.length c6) ∧
        w'.cell? (ad2.add (k * 7)) = some (.string s.f0) ∧ w'.cell? ⟨(ad2.add (k * 7)).block, (ad2.add (k * 7)).off + 1, none⟩ = some (.int .u16 s.f1) ∧ w'.cell? ⟨(ad2.add (k * 7)).block, (ad2.add (k * 7)).off + 2, none⟩ = some (.int .u16 s.f2) ∧ w'.cell? ⟨(ad2.add (k * 7)).block, (ad2.add (k * 7)).off + 3, none⟩ = some (.int .u32 s.f3) ∧ w'.cell? ⟨(ad2.add (k * 7)).block, (ad2.add (k * 7)).off + 4, none⟩ = some (.slice B4 s.f4.length d4) ∧ w'.cell? ⟨(ad2.add (k * 7)).block, (ad2.add (k * 7)).off + 5, none⟩ = some (.slice B5 s.f5.length d5) ∧ w'.cell? ⟨(ad2.add (k * 7)).block, (ad2.add (k * 7)).off + 6, none⟩ = some (.slice B6 s.f6.length d6)) (ds := []) (Array.replicate 10 false) (by kernel_rfl) (by kernel_rfl) rfl ⟨e0, e1, e2, e3, e4, e5, e6, f0, f1, f2, f3, f4, f5, f6⟩ (fun hS => ?_)
      refine dpure 0 (some 17) rfl rfl (by kernel_rfl) (fun _ _ _ h => h) (by rfl) (v := ?_) (a' := ?_) ?_ ?_ ?_
      rotate_left 2
      · intro w'; go_simp; with_reducible rfl
      · simp only [Act.put, List.setIfInBounds_toArray, List.set_cons_zero, List.set_cons_succ]; rfl
      refine dpure 1 (some 18) rfl rfl (by kernel_rfl) (fun _ _ _ h => h) (by rfl) (v := ?_) (a' := ?_) ?_ ?_ ?_
      rotate_left 2
      · intro w'; go_simp; with_reducible rfl
      · simp only [Act.put, List.setIfInBounds_toArray, List.set_cons_zero, List.set_cons_succ]; rfl
      refine dpure 2 (some 19) rfl rfl (by kernel_rfl) (fun _ _ _ h => h) (by rfl) (v := ?_) (a' := ?_) ?_ ?_ ?_
      rotate_left 2
      · intro w'; go_simp; with_reducible rfl
      · simp only [Act.put, List.setIfInBounds_toArray, List.set_cons_zero, List.set_cons_succ]; rfl
      refine dtake 3 (some 20) rfl rfl (by kernel_rfl) (fun _ _ _ h => h) (by rfl) hS (v := ?_) (a' := ?_) ?_ ?_ ?_
      rotate_left 2
      · rintro w' ⟨s0,s1,s2,s3,s4,s5,s6,u0,u1,u2,u3,u4,u5,u6⟩; go_simp; with_reducible rfl
      · simp only [Act.put, List.setIfInBounds_toArray, List.set_cons_zero, List.set_cons_succ]; rfl
      refine dpure 4 (some 21) rfl rfl (by kernel_rfl) (fun _ _ _ h => h) (by rfl) (v := ?_) (a' := ?_) ?_ ?_ ?_
      rotate_left 2
      · intro w'; go_simp; with_reducible rfl
      · simp only [Act.put, List.setIfInBounds_toArray, List.set_cons_zero, List.set_cons_succ]; rfl
      refine dpure 5 (some 22) rfl rfl (by kernel_rfl) (fun _ _ _ h => h) (by rfl) (v := ?_) (a' := ?_) ?_ ?_ ?_
      rotate_left 2
      · intro w'; go_simp; with_reducible rfl
      · simp only [Act.put, List.setIfInBounds_toArray, List.set_cons_zero, List.set_cons_succ]; rfl
      refine dpure 6 (some 23) rfl rfl (by kernel_rfl) (fun _ _ _ h => h) (by rfl) (v := ?_) (a' := ?_) ?_ ?_ ?_
      rotate_left 2
      · intro w'; go_simp; with_reducible rfl
      · simp only [Act.put, List.setIfInBounds_toArray, List.set_cons_zero, List.set_cons_succ]; rfl
      refine dtake 7 (some 24) rfl rfl (by kernel_rfl) (fun _ _ _ h => h) (by rfl) hS (v := ?_) (a' := ?_) ?_ ?_ ?_
      rotate_left 2
      · rintro w' ⟨s0,s1,s2,s3,s4,s5,s6,u0,u1,u2,u3,u4,u5,u6⟩; go_simp; with_reducible rfl
      · simp only [Act.put, List.setIfInBounds_toArray, List.set_cons_zero, List.set_cons_succ]; rfl
      obtain ⟨s0, s1, s2, s3, s4, s5, s6, u0, u1, u2, u3, u4, u5, u6⟩ := hS
      refine done1 8 (some 25) rfl rfl (by kernel_rfl) (by decide) (fun K hK => ?_)
      refine goes_ Try.func65 (by kernel_rfl) rfl #[.agg #[.string r.f0, .int .u16 r.f1, .int .u16 r.f2, .int .u32 r.f3, .slice A4 r.f4.length c4, .slice A5 r.f5.length c5, .slice A6 r.f6.length c6], .agg #[.string s.f0, .int .u16 s.f1, .int .u16 s.f2, .int .u32 s.f3, .slice B4 s.f4.length d4, .slice B5 s.f5.length d5, .slice B6 s.f6.length d6]] (by rfl) rfl rfl (by kernel_rfl) ?_
      refine (same5_calls HR1.out HR2.out).mono ?_
      rintro e w6 ⟨b, rfl, hi, hb⟩
      refine ⟨_, rfl, ?_⟩
      have keep : ∀ p v, wr.drew.cell? p = some v → w6.cell? p = some v := fun p v h => (hb.cell (World.block_lt_of_cell? _ _ h)).trans h
      refine hK.out _ _ ⟨keep _ _ s0, keep _ _ s1, keep _ _ s2, keep _ _ s3, keep _ _ s4, keep _ _ s5, keep _ _ s6, keep _ _ u0, keep _ _ u1, keep _ _ u2, keep _ _ u3, keep _ _ u4, keep _ _ u5, keep _ _ u6⟩ (fun hS => ?_)
      clear hK K
      refine norm_ (a' := ?_) ?_ ?_
      rotate_left
      · simp only [Act.put, List.setIfInBounds_toArray, List.set_cons_zero, List.set_cons_succ]; rfl
      refine dpure 9 (some 26) rfl rfl (by kernel_rfl) (fun _ _ _ h => h) (by rfl) (v := ?_) (a' := ?_) ?_ ?_ ?_
      rotate_left 2
      · intro w'; go_simp; with_reducible rfl
      · simp only [Act.put, List.setIfInBounds_toArray, List.set_cons_zero, List.set_cons_succ]; rfl
      refine done_ (by kernel_rfl) ?_
      have HB6 := Aside0.mk (below_step (below_drew HB.out) hb)
      have HI := Aside0.mk hi
      clear hi hb keep hS s0 s1 s2 s3 s4 s5 s6 u0 u1 u2 u3 u4 u5 u6 e0 e1 e2 e3 e4 e5 e6 f0 f1 f2 f3 f4 f5 f6 HR1 HR2
      cases b
      case false =>
        have HN := Aside0.mk (show ¬ l = l2 from fun h => absurd (HI.out.2 (by rw [← HS.out.1, ← HS.out.2, h])) (by decide))
        go_wp2_with fail
        go_ret
        exact ⟨false, rfl, ⟨fun h => absurd h (by decide), fun h => absurd h HN.out⟩, HB6.out⟩
      have HE2 := Aside0.mk (take_step zRec HE.out hk (by rw [HL.out]; exact hk) (HS.out.1.trans ((HI.out.1 rfl).trans HS.out.2.symm)))
      go_wp2_with fail
      go_roundw
      case rel => exact ⟨k + 1, by go_num, ⟨hk⟩, HE2, HB6⟩
      case measure => simp [intOf]; omega
    · have hk' : k = l.length := by have := HK.out; omega
      have HN := Aside0.mk (show l = l2 from take_all HE.out hk' HL.out)
      clear hk'
      go_wp2_with fail
      go_ret
      exact ⟨true, rfl, ⟨fun _ => HN.out, fun _ => rfl⟩, HB.out⟩
set_option maxHeartbeats 8000000 in
set_option maxRecDepth 100000 in
theorem same6_calls {r s : Msg} {u v : Value} {w : World} (hu : MsgAt w u r) (hv : MsgAt w v s) :
    Calls Try.prog 20 #[u, v] w fun e w' => Iff1 (r = s) (fun w' => Below w.heap.size w w') e w' := by
  obtain ⟨A2, c2, A3, c3, A4, c4, A5, c5, rfl, l2, g2, l3, g3, l4, g4, l5, g5⟩ := hu
  obtain ⟨B2, d2, B3, d3, B4, d4, B5, d5, rfl, m2, h2, m3, h3, m4, h4, m5, h5⟩ := hv
  have G2 := Aside0.mk g2
  have G3 := Aside0.mk g3
  have G4 := Aside0.mk g4
  have G5 := Aside0.mk g5
  have H2 := Aside0.mk h2
  have H3 := Aside0.mk h3
  have H4 := Aside0.mk h4
  have H5 := Aside0.mk h5
  have hM := g2.2.1
  have hM2 := h2.2.1
  clear g2 g3 g4 g5 h2 h3 h4 h5
  by_cases k1 : r.id = s.id
  case neg =>
    have e1 : (r.id != s.id) = true := by rw [bne_iff_ne]; exact k1
    have HN := Aside0.mk (show ¬ r = s from fun h => k1 (by rw [h]))
    go_enter Try.func20, Try.ntmps20
    go_wp2_with (first | ((with_reducible refine gate_dst (N := 2) rfl ?_); refine box_event rfl (N := 2) rfl (cs := #[.int .u16 r.id, .int .u16 r.flags, .slice A2 r.qs.length c2, .slice A3 r.ans.length c3, .slice A4 r.auth.length c4, .slice A5 r.add.length c5]) (t := 26) (by first | (go_simp; done) | (go_simp; rfl)) ?_; intro g hg w1 hbox hb; have HX := Aside0.mk hbox; have HB := Aside0.mk hb; clear hb hg hbox) | ((with_reducible refine gate_dst (N := 3) rfl ?_); refine box_event rfl (N := 3) rfl (cs := #[.int .u16 s.id, .int .u16 s.flags, .slice B2 s.qs.length d2, .slice B3 s.ans.length d3, .slice B4 s.auth.length d4, .slice B5 s.add.length d5]) (t := 26) (by first | (go_simp; done) | (go_simp; rfl)) ?_; intro g2 hg2 w2 hbox2 hb2; have HX2 := Aside0.mk (blk_below HX.out hb2); have HY2 := Aside0.mk hbox2; have HB2 := Aside0.mk (below_step HB.out hb2); clear hb2 hg2 hbox2; have z0 : w2.cell? ⟨g, 0, none⟩ = some (.int .u16 r.id) := (blk_cell HX2.out 0).trans rfl; have z1 : w2.cell? ⟨g, 1, none⟩ = some (.int .u16 r.flags) := (blk_cell HX2.out 1).trans rfl; have z2 : w2.cell? ⟨g, 2, none⟩ = some (.slice A2 r.qs.length c2) := (blk_cell HX2.out 2).trans rfl; have z3 : w2.cell? ⟨g, 3, none⟩ = some (.slice A3 r.ans.length c3) := (blk_cell HX2.out 3).trans rfl; have z4 : w2.cell? ⟨g, 4, none⟩ = some (.slice A4 r.auth.length c4) := (blk_cell HX2.out 4).trans rfl; have z5 : w2.cell? ⟨g, 5, none⟩ = some (.slice A5 r.add.length c5) := (blk_cell HX2.out 5).trans rfl; have y0 : w2.cell? ⟨g2, 0, none⟩ = some (.int .u16 s.id) := (blk_cell HY2.out 0).trans rfl; have y1 : w2.cell? ⟨g2, 1, none⟩ = some (.int .u16 s.flags) := (blk_cell HY2.out 1).trans rfl; have y2 : w2.cell? ⟨g2, 2, none⟩ = some (.slice B2 s.qs.length d2) := (blk_cell HY2.out 2).trans rfl; have y3 : w2.cell? ⟨g2, 3, none⟩ = some (.slice B3 s.ans.length d3) := (blk_cell HY2.out 3).trans rfl; have y4 : w2.cell? ⟨g2, 4, none⟩ = some (.slice B4 s.auth.length d4) := (blk_cell HY2.out 4).trans rfl; have y5 : w2.cell? ⟨g2, 5, none⟩ = some (.slice B5 s.add.length d5) := (blk_cell HY2.out 5).trans rfl))
    go_ret
    exact ⟨false, rfl, ⟨fun h => absurd h (by decide), fun h => absurd h HN.out⟩, HB2.out⟩
  have e1 : (r.id != s.id) = false := by rw [k1]; simp
  have K1 := Aside0.mk k1
  clear k1
  by_cases k2 : r.flags = s.flags
  case neg =>
    have e2 : (r.flags != s.flags) = true := by rw [bne_iff_ne]; exact k2
    have HN := Aside0.mk (show ¬ r = s from fun h => k2 (by rw [h]))
    go_enter Try.func20, Try.ntmps20
    go_wp2_with (first | ((with_reducible refine gate_dst (N := 2) rfl ?_); refine box_event rfl (N := 2) rfl (cs := #[.int .u16 r.id, .int .u16 r.flags, .slice A2 r.qs.length c2, .slice A3 r.ans.length c3, .slice A4 r.auth.length c4, .slice A5 r.add.length c5]) (t := 26) (by first | (go_simp; done) | (go_simp; rfl)) ?_; intro g hg w1 hbox hb; have HX := Aside0.mk hbox; have HB := Aside0.mk hb; clear hb hg hbox) | ((with_reducible refine gate_dst (N := 3) rfl ?_); refine box_event rfl (N := 3) rfl (cs := #[.int .u16 s.id, .int .u16 s.flags, .slice B2 s.qs.length d2, .slice B3 s.ans.length d3, .slice B4 s.auth.length d4, .slice B5 s.add.length d5]) (t := 26) (by first | (go_simp; done) | (go_simp; rfl)) ?_; intro g2 hg2 w2 hbox2 hb2; have HX2 := Aside0.mk (blk_below HX.out hb2); have HY2 := Aside0.mk hbox2; have HB2 := Aside0.mk (below_step HB.out hb2); clear hb2 hg2 hbox2; have z0 : w2.cell? ⟨g, 0, none⟩ = some (.int .u16 r.id) := (blk_cell HX2.out 0).trans rfl; have z1 : w2.cell? ⟨g, 1, none⟩ = some (.int .u16 r.flags) := (blk_cell HX2.out 1).trans rfl; have z2 : w2.cell? ⟨g, 2, none⟩ = some (.slice A2 r.qs.length c2) := (blk_cell HX2.out 2).trans rfl; have z3 : w2.cell? ⟨g, 3, none⟩ = some (.slice A3 r.ans.length c3) := (blk_cell HX2.out 3).trans rfl; have z4 : w2.cell? ⟨g, 4, none⟩ = some (.slice A4 r.auth.length c4) := (blk_cell HX2.out 4).trans rfl; have z5 : w2.cell? ⟨g, 5, none⟩ = some (.slice A5 r.add.length c5) := (blk_cell HX2.out 5).trans rfl; have y0 : w2.cell? ⟨g2, 0, none⟩ = some (.int .u16 s.id) := (blk_cell HY2.out 0).trans rfl; have y1 : w2.cell? ⟨g2, 1, none⟩ = some (.int .u16 s.flags) := (blk_cell HY2.out 1).trans rfl; have y2 : w2.cell? ⟨g2, 2, none⟩ = some (.slice B2 s.qs.length d2) := (blk_cell HY2.out 2).trans rfl; have y3 : w2.cell? ⟨g2, 3, none⟩ = some (.slice B3 s.ans.length d3) := (blk_cell HY2.out 3).trans rfl; have y4 : w2.cell? ⟨g2, 4, none⟩ = some (.slice B4 s.auth.length d4) := (blk_cell HY2.out 4).trans rfl; have y5 : w2.cell? ⟨g2, 5, none⟩ = some (.slice B5 s.add.length d5) := (blk_cell HY2.out 5).trans rfl))
    go_ret
    exact ⟨false, rfl, ⟨fun h => absurd h (by decide), fun h => absurd h HN.out⟩, HB2.out⟩
  have e2 : (r.flags != s.flags) = false := by rw [k2]; simp
  have K2 := Aside0.mk k2
  clear k2
  by_cases k3 : s.qs.length = r.qs.length
  case neg =>
    have e3 : ((r.qs.length : Int) != (s.qs.length : Int)) = true := by rw [bne_iff_ne]; omega
    have HN := Aside0.mk (show ¬ r = s from fun h => k3 (by rw [h]))
    go_enter Try.func20, Try.ntmps20
    go_wp2_with (first | ((with_reducible refine gate_dst (N := 2) rfl ?_); refine box_event rfl (N := 2) rfl (cs := #[.int .u16 r.id, .int .u16 r.flags, .slice A2 r.qs.length c2, .slice A3 r.ans.length c3, .slice A4 r.auth.length c4, .slice A5 r.add.length c5]) (t := 26) (by first | (go_simp; done) | (go_simp; rfl)) ?_; intro g hg w1 hbox hb; have HX := Aside0.mk hbox; have HB := Aside0.mk hb; clear hb hg hbox) | ((with_reducible refine gate_dst (N := 3) rfl ?_); refine box_event rfl (N := 3) rfl (cs := #[.int .u16 s.id, .int .u16 s.flags, .slice B2 s.qs.length d2, .slice B3 s.ans.length d3, .slice B4 s.auth.length d4, .slice B5 s.add.length d5]) (t := 26) (by first | (go_simp; done) | (go_simp; rfl)) ?_; intro g2 hg2 w2 hbox2 hb2; have HX2 := Aside0.mk (blk_below HX.out hb2); have HY2 := Aside0.mk hbox2; have HB2 := Aside0.mk (below_step HB.out hb2); clear hb2 hg2 hbox2; have z0 : w2.cell? ⟨g, 0, none⟩ = some (.int .u16 r.id) := (blk_cell HX2.out 0).trans rfl; have z1 : w2.cell? ⟨g, 1, none⟩ = some (.int .u16 r.flags) := (blk_cell HX2.out 1).trans rfl; have z2 : w2.cell? ⟨g, 2, none⟩ = some (.slice A2 r.qs.length c2) := (blk_cell HX2.out 2).trans rfl; have z3 : w2.cell? ⟨g, 3, none⟩ = some (.slice A3 r.ans.length c3) := (blk_cell HX2.out 3).trans rfl; have z4 : w2.cell? ⟨g, 4, none⟩ = some (.slice A4 r.auth.length c4) := (blk_cell HX2.out 4).trans rfl; have z5 : w2.cell? ⟨g, 5, none⟩ = some (.slice A5 r.add.length c5) := (blk_cell HX2.out 5).trans rfl; have y0 : w2.cell? ⟨g2, 0, none⟩ = some (.int .u16 s.id) := (blk_cell HY2.out 0).trans rfl; have y1 : w2.cell? ⟨g2, 1, none⟩ = some (.int .u16 s.flags) := (blk_cell HY2.out 1).trans rfl; have y2 : w2.cell? ⟨g2, 2, none⟩ = some (.slice B2 s.qs.length d2) := (blk_cell HY2.out 2).trans rfl; have y3 : w2.cell? ⟨g2, 3, none⟩ = some (.slice B3 s.ans.length d3) := (blk_cell HY2.out 3).trans rfl; have y4 : w2.cell? ⟨g2, 4, none⟩ = some (.slice B4 s.auth.length d4) := (blk_cell HY2.out 4).trans rfl; have y5 : w2.cell? ⟨g2, 5, none⟩ = some (.slice B5 s.add.length d5) := (blk_cell HY2.out 5).trans rfl))
    go_ret
    exact ⟨false, rfl, ⟨fun h => absurd h (by decide), fun h => absurd h HN.out⟩, HB2.out⟩
  have e3 : ((r.qs.length : Int) != (s.qs.length : Int)) = false := by rw [k3]; simp
  have K3 := Aside0.mk k3
  clear k3
  go_enter Try.func20, Try.ntmps20
  go_wp2_with (first | ((with_reducible refine gate_dst (N := 2) rfl ?_); refine box_event rfl (N := 2) rfl (cs := #[.int .u16 r.id, .int .u16 r.flags, .slice A2 r.qs.length c2, .slice A3 r.ans.length c3, .slice A4 r.auth.length c4, .slice A5 r.add.length c5]) (t := 26) (by first | (go_simp; done) | (go_simp; rfl)) ?_; intro g hg w1 hbox hb; have HX := Aside0.mk hbox; have HB := Aside0.mk hb; clear hb hg hbox) | ((with_reducible refine gate_dst (N := 3) rfl ?_); refine box_event rfl (N := 3) rfl (cs := #[.int .u16 s.id, .int .u16 s.flags, .slice B2 s.qs.length d2, .slice B3 s.ans.length d3, .slice B4 s.auth.length d4, .slice B5 s.add.length d5]) (t := 26) (by first | (go_simp; done) | (go_simp; rfl)) ?_; intro g2 hg2 w2 hbox2 hb2; have HX2 := Aside0.mk (blk_below HX.out hb2); have HY2 := Aside0.mk hbox2; have HB2 := Aside0.mk (below_step HB.out hb2); clear hb2 hg2 hbox2; have z0 : w2.cell? ⟨g, 0, none⟩ = some (.int .u16 r.id) := (blk_cell HX2.out 0).trans rfl; have z1 : w2.cell? ⟨g, 1, none⟩ = some (.int .u16 r.flags) := (blk_cell HX2.out 1).trans rfl; have z2 : w2.cell? ⟨g, 2, none⟩ = some (.slice A2 r.qs.length c2) := (blk_cell HX2.out 2).trans rfl; have z3 : w2.cell? ⟨g, 3, none⟩ = some (.slice A3 r.ans.length c3) := (blk_cell HX2.out 3).trans rfl; have z4 : w2.cell? ⟨g, 4, none⟩ = some (.slice A4 r.auth.length c4) := (blk_cell HX2.out 4).trans rfl; have z5 : w2.cell? ⟨g, 5, none⟩ = some (.slice A5 r.add.length c5) := (blk_cell HX2.out 5).trans rfl; have y0 : w2.cell? ⟨g2, 0, none⟩ = some (.int .u16 s.id) := (blk_cell HY2.out 0).trans rfl; have y1 : w2.cell? ⟨g2, 1, none⟩ = some (.int .u16 s.flags) := (blk_cell HY2.out 1).trans rfl; have y2 : w2.cell? ⟨g2, 2, none⟩ = some (.slice B2 s.qs.length d2) := (blk_cell HY2.out 2).trans rfl; have y3 : w2.cell? ⟨g2, 3, none⟩ = some (.slice B3 s.ans.length d3) := (blk_cell HY2.out 3).trans rfl; have y4 : w2.cell? ⟨g2, 4, none⟩ = some (.slice B4 s.auth.length d4) := (blk_cell HY2.out 4).trans rfl; have y5 : w2.cell? ⟨g2, 5, none⟩ = some (.slice B5 s.add.length d5) := (blk_cell HY2.out 5).trans rfl))
  refine (records6_calls (Kd.C_below G3.out HB2.out) (Kd.C_below H3.out HB2.out)).mono ?_
  rintro e w3 ⟨b3, rfl, hi, hb⟩
  have HI3 := Aside0.mk hi
  have HX3 := Aside0.mk (blk_below HX2.out hb)
  have HY3 := Aside0.mk (blk_below HY2.out hb)
  have HB3 := Aside0.mk (below_step HB2.out hb)
  clear hi hb z0 z1 z2 z3 z4 z5 y0 y1 y2 y3 y4 y5
  have z0 : w3.cell? ⟨g, 0, none⟩ = some (.int .u16 r.id) := (blk_cell HX3.out 0).trans rfl; have z1 : w3.cell? ⟨g, 1, none⟩ = some (.int .u16 r.flags) := (blk_cell HX3.out 1).trans rfl; have z2 : w3.cell? ⟨g, 2, none⟩ = some (.slice A2 r.qs.length c2) := (blk_cell HX3.out 2).trans rfl; have z3 : w3.cell? ⟨g, 3, none⟩ = some (.slice A3 r.ans.length c3) := (blk_cell HX3.out 3).trans rfl; have z4 : w3.cell? ⟨g, 4, none⟩ = some (.slice A4 r.auth.length c4) := (blk_cell HX3.out 4).trans rfl; have z5 : w3.cell? ⟨g, 5, none⟩ = some (.slice A5 r.add.length c5) := (blk_cell HX3.out 5).trans rfl
  have y0 : w3.cell? ⟨g2, 0, none⟩ = some (.int .u16 s.id) := (blk_cell HY3.out 0).trans rfl; have y1 : w3.cell? ⟨g2, 1, none⟩ = some (.int .u16 s.flags) := (blk_cell HY3.out 1).trans rfl; have y2 : w3.cell? ⟨g2, 2, none⟩ = some (.slice B2 s.qs.length d2) := (blk_cell HY3.out 2).trans rfl; have y3 : w3.cell? ⟨g2, 3, none⟩ = some (.slice B3 s.ans.length d3) := (blk_cell HY3.out 3).trans rfl; have y4 : w3.cell? ⟨g2, 4, none⟩ = some (.slice B4 s.auth.length d4) := (blk_cell HY3.out 4).trans rfl; have y5 : w3.cell? ⟨g2, 5, none⟩ = some (.slice B5 s.add.length d5) := (blk_cell HY3.out 5).trans rfl
  cases b3
  case false =>
    have HN := Aside0.mk (show ¬ r = s from fun h => absurd (HI3.out.2 (by rw [h])) (by decide))
    go_wp2_with fail
    go_ret
    exact ⟨false, rfl, ⟨fun h => absurd h (by decide), fun h => absurd h HN.out⟩, HB3.out⟩
  go_wp2_with fail
  refine (records6_calls (Kd.C_below G4.out HB3.out) (Kd.C_below H4.out HB3.out)).mono ?_
  rintro e w4 ⟨b4, rfl, hi, hb⟩
  have HI4 := Aside0.mk hi
  have HX4 := Aside0.mk (blk_below HX3.out hb)
  have HY4 := Aside0.mk (blk_below HY3.out hb)
  have HB4 := Aside0.mk (below_step HB3.out hb)
  clear hi hb z0 z1 z2 z3 z4 z5 y0 y1 y2 y3 y4 y5
  have z0 : w4.cell? ⟨g, 0, none⟩ = some (.int .u16 r.id) := (blk_cell HX4.out 0).trans rfl; have z1 : w4.cell? ⟨g, 1, none⟩ = some (.int .u16 r.flags) := (blk_cell HX4.out 1).trans rfl; have z2 : w4.cell? ⟨g, 2, none⟩ = some (.slice A2 r.qs.length c2) := (blk_cell HX4.out 2).trans rfl; have z3 : w4.cell? ⟨g, 3, none⟩ = some (.slice A3 r.ans.length c3) := (blk_cell HX4.out 3).trans rfl; have z4 : w4.cell? ⟨g, 4, none⟩ = some (.slice A4 r.auth.length c4) := (blk_cell HX4.out 4).trans rfl; have z5 : w4.cell? ⟨g, 5, none⟩ = some (.slice A5 r.add.length c5) := (blk_cell HX4.out 5).trans rfl
  have y0 : w4.cell? ⟨g2, 0, none⟩ = some (.int .u16 s.id) := (blk_cell HY4.out 0).trans rfl; have y1 : w4.cell? ⟨g2, 1, none⟩ = some (.int .u16 s.flags) := (blk_cell HY4.out 1).trans rfl; have y2 : w4.cell? ⟨g2, 2, none⟩ = some (.slice B2 s.qs.length d2) := (blk_cell HY4.out 2).trans rfl; have y3 : w4.cell? ⟨g2, 3, none⟩ = some (.slice B3 s.ans.length d3) := (blk_cell HY4.out 3).trans rfl; have y4 : w4.cell? ⟨g2, 4, none⟩ = some (.slice B4 s.auth.length d4) := (blk_cell HY4.out 4).trans rfl; have y5 : w4.cell? ⟨g2, 5, none⟩ = some (.slice B5 s.add.length d5) := (blk_cell HY4.out 5).trans rfl
  cases b4
  case false =>
    have HN := Aside0.mk (show ¬ r = s from fun h => absurd (HI4.out.2 (by rw [h])) (by decide))
    go_wp2_with fail
    go_ret
    exact ⟨false, rfl, ⟨fun h => absurd h (by decide), fun h => absurd h HN.out⟩, HB4.out⟩
  go_wp2_with fail
  refine (records6_calls (Kd.C_below G5.out HB4.out) (Kd.C_below H5.out HB4.out)).mono ?_
  rintro e w5 ⟨b5, rfl, hi, hb⟩
  have HI5 := Aside0.mk hi
  have HX5 := Aside0.mk (blk_below HX4.out hb)
  have HY5 := Aside0.mk (blk_below HY4.out hb)
  have HB5 := Aside0.mk (below_step HB4.out hb)
  clear hi hb z0 z1 z2 z3 z4 z5 y0 y1 y2 y3 y4 y5
  have z0 : w5.cell? ⟨g, 0, none⟩ = some (.int .u16 r.id) := (blk_cell HX5.out 0).trans rfl; have z1 : w5.cell? ⟨g, 1, none⟩ = some (.int .u16 r.flags) := (blk_cell HX5.out 1).trans rfl; have z2 : w5.cell? ⟨g, 2, none⟩ = some (.slice A2 r.qs.length c2) := (blk_cell HX5.out 2).trans rfl; have z3 : w5.cell? ⟨g, 3, none⟩ = some (.slice A3 r.ans.length c3) := (blk_cell HX5.out 3).trans rfl; have z4 : w5.cell? ⟨g, 4, none⟩ = some (.slice A4 r.auth.length c4) := (blk_cell HX5.out 4).trans rfl; have z5 : w5.cell? ⟨g, 5, none⟩ = some (.slice A5 r.add.length c5) := (blk_cell HX5.out 5).trans rfl
  have y0 : w5.cell? ⟨g2, 0, none⟩ = some (.int .u16 s.id) := (blk_cell HY5.out 0).trans rfl; have y1 : w5.cell? ⟨g2, 1, none⟩ = some (.int .u16 s.flags) := (blk_cell HY5.out 1).trans rfl; have y2 : w5.cell? ⟨g2, 2, none⟩ = some (.slice B2 s.qs.length d2) := (blk_cell HY5.out 2).trans rfl; have y3 : w5.cell? ⟨g2, 3, none⟩ = some (.slice B3 s.ans.length d3) := (blk_cell HY5.out 3).trans rfl; have y4 : w5.cell? ⟨g2, 4, none⟩ = some (.slice B4 s.auth.length d4) := (blk_cell HY5.out 4).trans rfl; have y5 : w5.cell? ⟨g2, 5, none⟩ = some (.slice B5 s.add.length d5) := (blk_cell HY5.out 5).trans rfl
  cases b5
  case false =>
    have HN := Aside0.mk (show ¬ r = s from fun h => absurd (HI5.out.2 (by rw [h])) (by decide))
    go_wp2_with fail
    go_ret
    exact ⟨false, rfl, ⟨fun h => absurd h (by decide), fun h => absurd h HN.out⟩, HB5.out⟩
  go_wp2_with fail
  clear z0 z1 z2 z3 z4 z5 y0 y1 y2 y3 y4 y5 e1 e2 e3
  go_loopw [5] (fun t wr => ∃ k : Nat, t = .int .i64 k ∧ Aside0 (k ≤ r.qs.length) ∧ Aside0 (r.qs.take k = s.qs.take k) ∧ Aside0 (Below w.heap.size w wr) ∧ Aside0 (Below w5.heap.size w5 wr)) (fun t _ => r.qs.length - (intOf t).toNat)
  case atStart => exact ⟨0, rfl, ⟨Nat.zero_le _⟩, ⟨rfl⟩, HB5, ⟨Below.refl _ _⟩⟩
  case round =>
    obtain ⟨k, rfl, HK, HE, HB7, HB6⟩ := hrel
    have z5 : wr.cell? ⟨g, 2, none⟩ = some (.slice A2 r.qs.length c2) := (blk_cell (blk_below HX5.out HB6.out) 2).trans rfl
    have y5 : wr.cell? ⟨g2, 2, none⟩ = some (.slice B2 s.qs.length d2) := (blk_cell (blk_below HY5.out HB6.out) 2).trans rfl
    by_cases hk : k < r.qs.length
    · obtain ⟨ad, x, hA, hx, e0, e1, e2⟩ := at_ques (Kd.C_below G2.out HB7.out) k hk
      obtain ⟨ad2, x2, hA2, hx2, f0, f1, f2⟩ := at_ques (Kd.C_below H2.out HB7.out) k (by rw [K3.out]; exact hk)
      subst hA hA2
      have hks := K3.out
      have p1 : (0 : Int) ≤ (k : Int) := by omega
      have p2 : (k : Int) < (r.qs.length : Int) := by omega
      have p3 : (k : Int) < (s.qs.length : Int) := by omega
      have HS := Aside0.mk (And.intro hx hx2)
      clear hx hx2 hks
      go_wp2_with fail
      refine start_ (n := 11) (S := fun w' => w'.cell? ⟨g, 2, none⟩ = some (.slice (some ad) r.qs.length c2) ∧ w'.cell? ⟨g2, 2, none⟩ = some (.slice (some ad2) s.qs.length d2) ∧ w'.cell? (ad.add (k * 3)) = some (.string x.f0) ∧ w'.cell? ⟨(ad.add (k * 3)).block, (ad.add (k * 3)).off + 1, none⟩ = some (.int .u16 x.f1) ∧ w'.cell? ⟨(ad.add (k * 3)).block, (ad.add (k * 3)).off + 2, none⟩ = some (.int .u16 x.f2) ∧ w'.cell? (ad2.add (k * 3)) = some (.string x2.f0) ∧ w'.cell? ⟨(ad2.add (k * 3)).block, (ad2.add (k * 3)).off + 1, none⟩ = some (.int .u16 x2.f1) ∧ w'.cell? ⟨(ad2.add (k * 3)).block, (ad2.add (k * 3)).off + 2, none⟩ = some (.int .u16 x2.f2)) (ds := []) (Array.replicate 11 false) (by kernel_rfl) (by kernel_rfl) rfl ⟨z5, y5, e0, e1, e2, f0, f1, f2⟩ (fun hS => ?_)
      refine dpure 0 (some 58) rfl rfl (by kernel_rfl) (fun _ _ _ h => h) (by rfl) (v := ?_) (a' := ?_) ?_ ?_ ?_
      rotate_left 2
      · intro w'; go_simp; with_reducible rfl
      · simp only [Act.put, List.setIfInBounds_toArray, List.set_cons_zero, List.set_cons_succ]; rfl
      refine dtake 1 (some 59) rfl rfl (by kernel_rfl) (fun _ _ _ h => h) (by rfl) hS (v := ?_) (a' := ?_) ?_ ?_ ?_
      rotate_left 2
      · rintro w' ⟨s0,s1,s2,s3,s4,s5,s6,s7⟩; go_simp; with_reducible rfl
      · simp only [Act.put, List.setIfInBounds_toArray, List.set_cons_zero, List.set_cons_succ]; rfl
      refine dpure 2 (some 60) rfl rfl (by kernel_rfl) (fun _ _ _ h => h) (by rfl) (v := ?_) (a' := ?_) ?_ ?_ ?_
      rotate_left 2
      · intro w'; go_simp; with_reducible rfl
      · simp only [Act.put, List.setIfInBounds_toArray, List.set_cons_zero, List.set_cons_succ]; rfl
      refine dpure 3 (some 61) rfl rfl (by kernel_rfl) (fun _ _ _ h => h) (by rfl) (v := ?_) (a' := ?_) ?_ ?_ ?_
      rotate_left 2
      · intro w'; go_simp; with_reducible rfl
      · simp only [Act.put, List.setIfInBounds_toArray, List.set_cons_zero, List.set_cons_succ]; rfl
      refine dtake 4 (some 62) rfl rfl (by kernel_rfl) (fun _ _ _ h => h) (by rfl) hS (v := ?_) (a' := ?_) ?_ ?_ ?_
      rotate_left 2
      · rintro w' ⟨s0,s1,s2,s3,s4,s5,s6,s7⟩; go_simp; with_reducible rfl
      · simp only [Act.put, List.setIfInBounds_toArray, List.set_cons_zero, List.set_cons_succ]; rfl
      refine dpure 5 (some 63) rfl rfl (by kernel_rfl) (fun _ _ _ h => h) (by rfl) (v := ?_) (a' := ?_) ?_ ?_ ?_
      rotate_left 2
      · intro w'; go_simp; with_reducible rfl
      · simp only [Act.put, List.setIfInBounds_toArray, List.set_cons_zero, List.set_cons_succ]; rfl
      refine dtake 6 (some 64) rfl rfl (by kernel_rfl) (fun _ _ _ h => h) (by rfl) hS (v := ?_) (a' := ?_) ?_ ?_ ?_
      rotate_left 2
      · rintro w' ⟨s0,s1,s2,s3,s4,s5,s6,s7⟩; go_simp; with_reducible rfl
      · simp only [Act.put, List.setIfInBounds_toArray, List.set_cons_zero, List.set_cons_succ]; rfl
      refine dpure 7 (some 65) rfl rfl (by kernel_rfl) (fun _ _ _ h => h) (by rfl) (v := ?_) (a' := ?_) ?_ ?_ ?_
      rotate_left 2
      · intro w'; go_simp; with_reducible rfl
      · simp only [Act.put, List.setIfInBounds_toArray, List.set_cons_zero, List.set_cons_succ]; rfl
      refine dpure 8 (some 66) rfl rfl (by kernel_rfl) (fun _ _ _ h => h) (by rfl) (v := ?_) (a' := ?_) ?_ ?_ ?_
      rotate_left 2
      · intro w'; go_simp; with_reducible rfl
      · simp only [Act.put, List.setIfInBounds_toArray, List.set_cons_zero, List.set_cons_succ]; rfl
      refine dtake 9 (some 67) rfl rfl (by kernel_rfl) (fun _ _ _ h => h) (by rfl) hS (v := ?_) (a' := ?_) ?_ ?_ ?_
      rotate_left 2
      · rintro w' ⟨s0,s1,s2,s3,s4,s5,s6,s7⟩; go_simp; with_reducible rfl
      · simp only [Act.put, List.setIfInBounds_toArray, List.set_cons_zero, List.set_cons_succ]; rfl
      obtain ⟨b0, hb0⟩ : ∃ b0 : Bool, (b0 = false ↔ x = x2) := by
        by_cases h : x = x2
        · exact ⟨false, fun _ => h, fun _ => rfl⟩
        · exact ⟨true, fun e => absurd e (by decide), fun e => absurd e h⟩
      refine dpure 10 (some 68) rfl rfl (by kernel_rfl) (fun _ _ _ h => h) (by rfl) (v := .bool b0) (a' := ?_) ?_ ?_ ?_
      rotate_left 1
      · intro w'
        go_simp
        by_cases h : x = x2
        · obtain rfl := hb0.2 h
          subst h
          simp
        · have hb : b0 = true := by
            cases b0
            · exact absurd (hb0.1 rfl) h
            · rfl
          subst hb
          rw [ques_if_ne h]
      · simp only [Act.put, List.setIfInBounds_toArray, List.set_cons_zero, List.set_cons_succ]; rfl
      refine done_ (by kernel_rfl) ?_
      have HBd := Aside0.mk (below_drew HB7.out)
      have HBe := Aside0.mk (below_drew HB6.out)
      have HB0 := Aside0.mk hb0
      clear hb0 hS e0 e1 e2 f0 f1 f2 z5 y5
      cases b0
      case true =>
        have HN := Aside0.mk (show ¬ r = s from fun h => absurd (HB0.out.2 (by rw [← HS.out.1, ← HS.out.2, h])) (by decide))
        go_wp2_with fail
        go_ret
        exact ⟨false, rfl, ⟨fun h => absurd h (by decide), fun h => absurd h HN.out⟩, HBd.out⟩
      have HE2 := Aside0.mk (take_step zQues HE.out hk (by rw [K3.out]; exact hk) (HS.out.1.trans ((HB0.out.1 rfl).trans HS.out.2.symm)))
      go_wp2_with fail
      go_roundw
      case rel => exact ⟨k + 1, by go_num, ⟨hk⟩, HE2, HBd, HBe⟩
      case measure => simp [intOf]; omega
    · have hk' : k = r.qs.length := by have := HK.out; omega
      have HN := Aside0.mk (show r = s from by
        have h2 := take_all HE.out hk' K3.out
        have h3 := HI3.out.1 (by simp)
        have h4 := HI4.out.1 (by simp)
        have h5 := HI5.out.1 (by simp)
        have h0 := K1.out
        have h1 := K2.out
        obtain ⟨a0, a1, a2, a3, a4, a5⟩ := r
        obtain ⟨b0, b1, b2, b3, b4, b5⟩ := s
        simp only at h0 h1 h2 h3 h4 h5
        rw [h0, h1, h2, h3, h4, h5])
      clear hk'
      go_wp2_with fail
      go_ret
      exact ⟨true, rfl, ⟨fun _ => HN.out, fun _ => rfl⟩, HB7.out⟩
end Go.Proofs.Ytbbeikdbioelgaa.M
set_option linter.unusedVariables false
set_option linter.unusedSimpArgs false
namespace Go.Proofs.Ytbbeikdbioelgaa.M
open Go.RowKit Go.Proofs.YtbbeikdbioelgaaW.PrintWords Go.Proofs.YtbbeikdbioelgaaW.PrintLast Go.Proofs.YtbbeikdbioelgaaW.PrintMore
attribute [local go_sem] max2_int min2_int max_two min_two max_three min_three max_four min_four
def partF (s : ByteArray) (at' sz : Int) : Option ByteArray := if at' < 0 ∨ sz < 0 ∨ s.size < at' ∨ s.size - at' < sz then none else some (s.extract at'.toNat (at' + sz).toNat)
def partE : Option ByteArray → Ending
  | none => .returned (.tuple #[.string ⟨#[]⟩, .bool false])
  | some t => .returned (.tuple #[.string t, .bool true])
set_option maxHeartbeats 2000000 in
set_option maxRecDepth 100000 in
theorem part_calls (s : ByteArray) (a n : Int) (w : World) (hs : s.size ≤ 1000000000000) :
    Calls Try.prog 79 #[.string s, .int .i64 a, .int .i64 n] w fun e w' => e = partE (partF s a n) ∧ Below w.heap.size w w' := by
  have hb := Below.refl w.heap.size w
  obtain ⟨R, hR⟩ : ∃ R, partF s a n = R := ⟨_, rfl⟩
  rw [hR]
  unfold partF at hR
  by_cases h1 : a < 0
  · rw [if_pos (.inl h1)] at hR
    subst hR
    have d1 : decide (a < 0) = true := decide_eq_true h1
    go_enter Try.func79, Try.ntmps79
    go_wp2
    go_ret2
    exact ⟨rfl, hb⟩
  have d1 : decide (a < 0) = false := decide_eq_false h1
  by_cases h2 : n < 0
  · rw [if_pos (.inr (.inl h2))] at hR
    subst hR
    have d2 : decide (n < 0) = true := decide_eq_true h2
    clear h1
    go_enter Try.func79, Try.ntmps79
    go_wp2
    go_ret2
    exact ⟨rfl, hb⟩
  have d2 : decide (n < 0) = false := decide_eq_false h2
  by_cases h3 : (s.size : Int) < a
  · rw [if_pos (.inr (.inr (.inl h3)))] at hR
    subst hR
    have d3 : decide ((s.size : Int) < a) = true := decide_eq_true h3
    clear h1 h2
    go_enter Try.func79, Try.ntmps79
    go_wp2
    go_ret2
    exact ⟨rfl, hb⟩
  have d3 : decide ((s.size : Int) < a) = false := decide_eq_false h3
  have q1 : 0 ≤ a := by omega
  have q2 : a ≤ (s.size : Int) := by omega
  have q3 : (s.size : Int) ≤ 1000000000000 := by omega
  by_cases h4 : (s.size : Int) - a < n
  · rw [if_pos (.inr (.inr (.inr h4)))] at hR
    subst hR
    have d4 : decide ((s.size : Int) - a < n) = true := decide_eq_true h4
    clear h1 h2 h3
    go_enter Try.func79, Try.ntmps79
    go_wp2
    go_ret2
    exact ⟨rfl, hb⟩
  have d4 : decide ((s.size : Int) - a < n) = false := decide_eq_false h4
  rw [if_neg (by omega)] at hR
  subst hR
  have q4 : a + n ≤ (s.size : Int) := by omega
  have q5 : a ≤ a + n := by omega
  have q6 : 0 ≤ a + n := by omega
  clear h1 h2 h3 h4
  go_enter Try.func79, Try.ntmps79
  go_wp2
  go_ret2
  exact ⟨rfl, hb⟩
def valF : Int → List Int → Int
  | n, [] => n
  | n, c :: l => valF (n * 256 + c) l
def getF (s : ByteArray) (a n : Int) : Option Int := if n < 1 ∨ 8 < n then none else (partF s a n).map fun t => valF 0 (bytesOf t)
def getE : Option Int → Ending
  | none => .returned (.tuple #[.int .u64 0, .bool false])
  | some n => .returned (.tuple #[.int .u64 n, .bool true])
theorem part_size {s t : ByteArray} {a n : Int} (h : partF s a n = some t) : (t.size : Int) = n ∧ 0 ≤ n ∧ 0 ≤ a ∧ a + n ≤ s.size ∧ t = s.extract a.toNat (a + n).toNat := by
  unfold partF at h
  by_cases hc : a < 0 ∨ n < 0 ∨ s.size < a ∨ s.size - a < n
  · rw [if_pos hc] at h
    exact absurd h (by simp)
  · rw [if_neg hc] at h
    obtain rfl := Option.some.inj h
    refine ⟨?_, by omega, by omega, by omega, rfl⟩
    rw [ByteArray.size_extract]
    omega
theorem or_eight (n c : Int) (h0 : 0 ≤ n) (h1 : n < 72057594037927936) (c0 : 0 ≤ c) (c1 : c < 256) : bits .or .u64 (n * 256) c = n * 256 + c := by
  obtain ⟨m, rfl⟩ := Int.eq_ofNat_of_zero_le h0
  obtain ⟨d, rfl⟩ := Int.eq_ofNat_of_zero_le c0
  have hk : ∀ n : Int, 0 ≤ n → n < 2 ^ 64 → IntKind.u64.wrap n = n := by
    intro n h0 h1
    simp [IntKind.wrap, IntKind.bits, IntKind.signed]
    omega
  have h := (bits_nat .u64 64 (by decide) hk (m * 256) d (by omega) (by omega)).2
  rw [show ((m * 256 : Nat) : Int) = (m : Int) * 256 by omega] at h
  rw [h, show m * 256 = 2 ^ 8 * m by omega, ← Nat.two_pow_add_eq_or_of_lt (by omega) m]
  omega
set_option maxHeartbeats 2000000 in
set_option maxRecDepth 100000 in
theorem get_calls (s : ByteArray) (a n : Int) (w : World) (hs : s.size ≤ 1000000000000) :
    Calls Try.prog 78 #[.string s, .int .i64 a, .int .i64 n] w fun e w' => e = getE (getF s a n) ∧ Below w.heap.size w w' := by
  obtain ⟨R, hR⟩ : ∃ R, getF s a n = R := ⟨_, rfl⟩
  rw [hR]
  unfold getF at hR
  cases hp : partF s a n with
  | none =>
    have hn : R = none := by
      rw [← hR, hp]
      split <;> rfl
    subst hn
    have HP := Lib.hid hp
    clear hR hp
    go_enter Try.func78, Try.ntmps78
    go_wp2_with fail
    refine (part_calls s a n _ hs).mono ?_
    rw [HP.out]
    rintro e w1 ⟨rfl, hb⟩
    have HB := Aside0.mk hb
    clear hb
    simp only [partE]
    go_wp2_with fail
    go_ret2
    exact ⟨rfl, HB.out⟩
  | some t =>
    have HP := Lib.hid hp
    obtain ⟨hz, n0, a0, an, -⟩ := part_size hp
    by_cases h1 : n < 1
    · rw [if_pos (.inl h1)] at hR
      subst hR
      have d1 : decide (n < 1) = true := decide_eq_true h1
      clear hp h1
      go_enter Try.func78, Try.ntmps78
      go_wp2_with fail
      refine (part_calls s a n _ hs).mono ?_
      rw [HP.out]
      rintro e w1 ⟨rfl, hb⟩
      have HB := Aside0.mk hb
      clear hb
      simp only [partE]
      go_wp2_with fail
      go_ret2
      exact ⟨rfl, HB.out⟩
    have d1 : decide (n < 1) = false := decide_eq_false h1
    by_cases h2 : 8 < n
    · rw [if_pos (.inr h2)] at hR
      subst hR
      have d2 : decide (8 < n) = true := decide_eq_true h2
      clear hp h1 h2
      go_enter Try.func78, Try.ntmps78
      go_wp2_with fail
      refine (part_calls s a n _ hs).mono ?_
      rw [HP.out]
      rintro e w1 ⟨rfl, hb⟩
      have HB := Aside0.mk hb
      clear hb
      simp only [partE]
      go_wp2_with fail
      go_ret2
      exact ⟨rfl, HB.out⟩
    have d2 : decide (8 < n) = false := decide_eq_false h2
    rw [if_neg (by omega), hp] at hR
    have HR := Lib.hid hR
    have ht : t.size ≤ 8 := by omega
    clear hz
    have kb := fun W => print_bytes (P := Try.prog) 9 57 5 Try.underlying9 Try.underlying57 Try.underlying5 t W
    clear hp h1 h2 hR
    go_enter Try.func78, Try.ntmps78
    go_wp2_with fail
    refine (part_calls s a n _ hs).mono ?_
    rw [HP.out]
    rintro e w1 ⟨rfl, hb⟩
    have HB := Aside0.mk hb
    clear hb
    simp only [partE]
    go_wp2_with fail
    have hbb := bytes_below HB.out HB.out.size 5 t
    have hcells := mine_bytes_cells w1 5 t
    have hsz : w1.heap.size < (Lib.bytesWorld w1 5 t).heap.size := by rw [Lib.bytesWorld_size]; omega
    clear HB kb
    generalize hC : grownCap w1 t.size 0 5 = C
    generalize hW : Lib.bytesWorld w1 5 t = wB at *
    generalize hG : w1.heap.size = G at *
    have HB := Aside0.mk hbb
    have HE := Aside0.mk hcells
    have HT := Aside0.mk ht
    clear hC hW hG hbb hcells hsz
    go_loopg [10, 33] t.size (fun kq v10 v33 w' => ∃ (j : Nat) (m : Int), v10 = .int .u64 m ∧ v33 = .int .i64 j ∧ Aside0 (kq + j = t.size) ∧ Aside0 (valF 0 (bytesOf t) = valF m ((bytesOf t).drop j)) ∧ Aside0 (0 ≤ m ∧ m < 256 ^ j) ∧ Aside0 (w'.heap[G]? = wB.heap[G]?) ∧ Aside0 (Below w.heap.size w w'))
    case atStart => exact ⟨0, 0, rfl, rfl, ⟨by omega⟩, ⟨rfl⟩, ⟨by omega, by decide⟩, ⟨rfl⟩, HB⟩
    case round =>
      clear HB
      obtain ⟨j, m, rfl, rfl, HK, HV, HM, HBk, HB⟩ := hrel
      by_cases hj : j < t.size
      · have hx := (World.cell?_of_block (w := wB) (a := ⟨G, j, none⟩) HBk.out).trans (HE.out j hj)
        obtain ⟨c0, c1⟩ := bt_range t j
        have HD := Lib.hid (drop_bytes t j hj)
        obtain ⟨c, hc⟩ : ∃ c, bt t (j : Int) = c := ⟨_, rfl⟩
        rw [hc] at hx c0 c1 HD
        have hm0 := HM.out.1
        have hpow : (256 : Int) ^ j ≤ 256 ^ 7 := by
          have : (256 : Nat) ^ j ≤ 256 ^ 7 := Nat.pow_le_pow_right (by decide) (by have := HT.out; omega)
          exact_mod_cast this
        have hm1 : m < 72057594037927936 := by have := HM.out.2; omega
        have hor := or_eight m c hm0 hm1 c0 c1
        have hsh : IntKind.u64.wrap (m * 256) = m * 256 := by
          simp [IntKind.wrap, IntKind.bits, IntKind.signed]
          omega
        have q1 : (0 : Int) ≤ (j : Int) := by omega
        have q2 : (j : Int) < (t.size : Int) := by omega
        have q3 : (t.size : Int) ≤ 8 := by omega
        clear hc hpow
        go_wp2_with fail
        go_roundg (t.size - (j + 1))
        case measure => have := HK.out; omega
        case rel =>
          refine ⟨j + 1, m * 256 + c, ?_, by go_num, ⟨by omega⟩, ⟨by rw [HV.out, HD.out]; rfl⟩, ⟨by omega, ?_⟩, HBk, HB⟩
          · first | rfl | (rw [hor]; done) | skip
          · have := HM.out.2
            rw [Int.pow_succ]
            omega
      · obtain rfl : j = t.size := by have := HK.out; omega
        have HF := Lib.hid (show valF 0 (bytesOf t) = m by rw [HV.out, List.drop_of_length_le (by rw [bytesOf_length]; omega)]; rfl)
        go_wp2_with fail
        go_ret2
        exact ⟨by rw [← HR.out, Option.map_some, HF.out]; rfl, HB.out⟩
theorem get_no {s : ByteArray} {a n : Int} (h : getF s a n = none) (w : World) (hs : s.size ≤ 1000000000000) :
    Calls Try.prog 78 #[.string s, .int .i64 a, .int .i64 n] w fun e w' => e = .returned (.tuple #[.int .u64 0, .bool false]) ∧ Below w.heap.size w w' :=
  (get_calls s a n w hs).mono fun e w' ⟨h1, h2⟩ => ⟨by rw [h1, h]; rfl, h2⟩
theorem get_yes {s : ByteArray} {a n m : Int} (h : getF s a n = some m) (w : World) (hs : s.size ≤ 1000000000000) :
    Calls Try.prog 78 #[.string s, .int .i64 a, .int .i64 n] w fun e w' => e = .returned (.tuple #[.int .u64 m, .bool true]) ∧ Below w.heap.size w w' :=
  (get_calls s a n w hs).mono fun e w' ⟨h1, h2⟩ => ⟨by rw [h1, h]; rfl, h2⟩
theorem part_no {s : ByteArray} {a n : Int} (h : partF s a n = none) (w : World) (hs : s.size ≤ 1000000000000) :
    Calls Try.prog 79 #[.string s, .int .i64 a, .int .i64 n] w fun e w' => e = .returned (.tuple #[.string ⟨#[]⟩, .bool false]) ∧ Below w.heap.size w w' :=
  (part_calls s a n w hs).mono fun e w' ⟨h1, h2⟩ => ⟨by rw [h1, h]; rfl, h2⟩
theorem part_yes {s t : ByteArray} {a n : Int} (h : partF s a n = some t) (w : World) (hs : s.size ≤ 1000000000000) :
    Calls Try.prog 79 #[.string s, .int .i64 a, .int .i64 n] w fun e w' => e = .returned (.tuple #[.string t, .bool true]) ∧ Below w.heap.size w w' :=
  (part_calls s a n w hs).mono fun e w' ⟨h1, h2⟩ => ⟨by rw [h1, h]; rfl, h2⟩
end Go.Proofs.Ytbbeikdbioelgaa.M
