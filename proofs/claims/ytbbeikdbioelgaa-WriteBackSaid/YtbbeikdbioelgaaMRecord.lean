/- Walks of rdata.Plain and of package dnswrite: data, record. -/
import Derived.Test.YtbbeikdbioelgaaMWriter
set_option linter.unusedVariables false
set_option linter.unusedSimpArgs false
namespace Go.Proofs.Ytbbeikdbioelgaa.M
open Go.RowKit Go.Maps Go.Proofs.YtbbeikdbioelgaaW.PrintWords Go.Proofs.YtbbeikdbioelgaaW.PrintLast Go.Proofs.YtbbeikdbioelgaaW.PrintMore
attribute [local go_sem] max2_int min2_int max_two min_two max_three min_three max_four min_four
attribute [local go_sem ↓] Go.wp_at_zero Go.wp_at_succ

/-- The plain bytes of a record's data. -/
def plainS (r : Rec) : ByteArray := if checkF r = 0 then strOfNums (plainL r) else ⟨#[]⟩
theorem check_small {r : Rec} (hF : Fine r) (h : checkF r = 0) : Small r ∧ (plainL r).length ≤ 65535 ∧ isName r.f0 = true ∧ (r.f4.any notName) = false ∧ shapedB r = true := by
  unfold checkF at h
  by_cases k1 : isName r.f0 = false
  · rw [if_pos k1] at h; exact absurd h (by decide)
  rw [if_neg k1] at h
  by_cases k2 : r.f4.any notName = true
  · rw [if_pos k2] at h; exact absurd h (by decide)
  rw [if_neg k2] at h
  by_cases k3 : shapedB r = false
  · rw [if_pos k3] at h; exact absurd h (by decide)
  rw [if_neg k3] at h
  by_cases k4 : 131070 < sizeF r
  · rw [if_pos k4] at h; exact absurd h (by decide)
  rw [if_neg k4] at h
  by_cases k5 : 65535 < (plainL r).length
  · rw [if_pos k5] at h; exact absurd h (by decide)
  exact ⟨small_of hF (by omega) (Bool.eq_false_iff.mpr k2) (by simpa using k3), by omega, by simpa using k1, Bool.eq_false_iff.mpr k2, by simpa using k3⟩
set_option maxHeartbeats 1000000 in
theorem Plain_calls (r : Rec) (v : Value) (w : World) (hv : RecAt w v r) (hF : Fine r) :
    Calls Try.prog 73 #[v] w fun e w' => e = .returned (.string (plainS r)) ∧ Below w.heap.size w w' := by
  have HV := Aside0.mk hv
  obtain ⟨A4, c4, A5, c5, A6, c6, rfl, l4, g4, l5, g5, l6, g6⟩ := hv
  have HF := Aside0.mk hF
  obtain ⟨R, hR⟩ : ∃ R, plainS r = R := ⟨_, rfl⟩
  rw [hR]
  unfold plainS at hR
  obtain ⟨n, hn⟩ : ∃ n, checkF r = n := ⟨_, rfl⟩
  rw [hn] at hR
  have HN := Lib.hid hn
  by_cases k : n = 0
  · subst k
    rw [if_pos rfl] at hR
    have HS := Aside0.mk (check_small hF hn).1
    have HR := Lib.hid hR
    clear g4 g5 g6 hF hR hn
    go_enter Try.func73, Try.ntmps73
    go_wp2_with (((with_reducible refine gate_dst (N := 1) rfl ?_); refine box_event rfl (N := 1) rfl (cs := #[.string r.f0, .int .u16 r.f1, .int .u16 r.f2, .int .u32 r.f3, .slice A4 r.f4.length c4, .slice A5 r.f5.length c5, .slice A6 r.f6.length c6]) (t := 44) (by first | (go_simp; done) | (go_simp; rfl)) ?_; intro g hg w1 hbox hb); have HX := Aside0.mk hbox; have HB := Aside0.mk hb; clear hb hg; have z0 : w1.cell? ⟨g, 0, none⟩ = some (.string r.f0) := (blk_cell HX.out 0).trans rfl; clear hbox; have z1 : w1.cell? ⟨g, 1, none⟩ = some (.int .u16 r.f1) := (blk_cell HX.out 1).trans rfl; have z2 : w1.cell? ⟨g, 2, none⟩ = some (.int .u16 r.f2) := (blk_cell HX.out 2).trans rfl; have z3 : w1.cell? ⟨g, 3, none⟩ = some (.int .u32 r.f3) := (blk_cell HX.out 3).trans rfl; have z4 : w1.cell? ⟨g, 4, none⟩ = some (.slice A4 r.f4.length c4) := (blk_cell HX.out 4).trans rfl; have z5 : w1.cell? ⟨g, 5, none⟩ = some (.slice A5 r.f5.length c5) := (blk_cell HX.out 5).trans rfl; have z6 : w1.cell? ⟨g, 6, none⟩ = some (.slice A6 r.f6.length c6) := (blk_cell HX.out 6).trans rfl)
    refine (check_calls r _ _ (HV.out.below HB.out) HF.out).mono ?_
    rw [HN.out]
    rintro e w2 ⟨rfl, hb⟩
    have HX2 := Aside0.mk (blk_below HX.out hb)
    have HB2 := Aside0.mk (HB.out.trans (hb.mono (below_size HB.out)))
    clear hb z0 z1 z2 z3 z4 z5 z6
    have z0 : w2.cell? ⟨g, 0, none⟩ = some (.string r.f0) := (blk_cell HX2.out 0).trans rfl
    have z1 : w2.cell? ⟨g, 1, none⟩ = some (.int .u16 r.f1) := (blk_cell HX2.out 1).trans rfl
    have z2 : w2.cell? ⟨g, 2, none⟩ = some (.int .u16 r.f2) := (blk_cell HX2.out 2).trans rfl
    have z3 : w2.cell? ⟨g, 3, none⟩ = some (.int .u32 r.f3) := (blk_cell HX2.out 3).trans rfl
    have z4 : w2.cell? ⟨g, 4, none⟩ = some (.slice A4 r.f4.length c4) := (blk_cell HX2.out 4).trans rfl
    have z5 : w2.cell? ⟨g, 5, none⟩ = some (.slice A5 r.f5.length c5) := (blk_cell HX2.out 5).trans rfl
    have z6 : w2.cell? ⟨g, 6, none⟩ = some (.slice A6 r.f6.length c6) := (blk_cell HX2.out 6).trans rfl
    go_wp2_with fail
    refine (plain_calls r _ _ (HV.out.below HB2.out) HS.out).mono ?_
    rintro e w3 ⟨v0, rfl, ho, hb⟩
    have hc := strOf ho
    have HB3 := Aside0.mk (HB2.out.trans (hb.mono (below_size HB2.out)))
    clear ho hb
    go_wp2_with fail
    go_ret
    exact ⟨by rw [← HR.out]; rfl, HB3.out⟩
  · rw [if_neg k] at hR
    subst hR
    have hne : (n != 0) = true := by rw [bne_iff_ne]; exact k
    clear g4 g5 g6 hF hn k
    go_enter Try.func73, Try.ntmps73
    go_wp2_with (((with_reducible refine gate_dst (N := 1) rfl ?_); refine box_event rfl (N := 1) rfl (cs := #[.string r.f0, .int .u16 r.f1, .int .u16 r.f2, .int .u32 r.f3, .slice A4 r.f4.length c4, .slice A5 r.f5.length c5, .slice A6 r.f6.length c6]) (t := 44) (by first | (go_simp; done) | (go_simp; rfl)) ?_; intro g hg w1 hbox hb); have HX := Aside0.mk hbox; have HB := Aside0.mk hb; clear hb hg; have z0 : w1.cell? ⟨g, 0, none⟩ = some (.string r.f0) := (blk_cell HX.out 0).trans rfl; clear hbox; have z1 : w1.cell? ⟨g, 1, none⟩ = some (.int .u16 r.f1) := (blk_cell HX.out 1).trans rfl; have z2 : w1.cell? ⟨g, 2, none⟩ = some (.int .u16 r.f2) := (blk_cell HX.out 2).trans rfl; have z3 : w1.cell? ⟨g, 3, none⟩ = some (.int .u32 r.f3) := (blk_cell HX.out 3).trans rfl; have z4 : w1.cell? ⟨g, 4, none⟩ = some (.slice A4 r.f4.length c4) := (blk_cell HX.out 4).trans rfl; have z5 : w1.cell? ⟨g, 5, none⟩ = some (.slice A5 r.f5.length c5) := (blk_cell HX.out 5).trans rfl; have z6 : w1.cell? ⟨g, 6, none⟩ = some (.slice A6 r.f6.length c6) := (blk_cell HX.out 6).trans rfl)
    refine (check_calls r _ _ (HV.out.below HB.out) HF.out).mono ?_
    rw [HN.out]
    rintro e w2 ⟨rfl, hb⟩
    have HX2 := Aside0.mk (blk_below HX.out hb)
    have HB2 := Aside0.mk (HB.out.trans (hb.mono (below_size HB.out)))
    clear hb z0 z1 z2 z3 z4 z5 z6
    have z0 : w2.cell? ⟨g, 0, none⟩ = some (.string r.f0) := (blk_cell HX2.out 0).trans rfl
    have z1 : w2.cell? ⟨g, 1, none⟩ = some (.int .u16 r.f1) := (blk_cell HX2.out 1).trans rfl
    have z2 : w2.cell? ⟨g, 2, none⟩ = some (.int .u16 r.f2) := (blk_cell HX2.out 2).trans rfl
    have z3 : w2.cell? ⟨g, 3, none⟩ = some (.int .u32 r.f3) := (blk_cell HX2.out 3).trans rfl
    have z4 : w2.cell? ⟨g, 4, none⟩ = some (.slice A4 r.f4.length c4) := (blk_cell HX2.out 4).trans rfl
    have z5 : w2.cell? ⟨g, 5, none⟩ = some (.slice A5 r.f5.length c5) := (blk_cell HX2.out 5).trans rfl
    have z6 : w2.cell? ⟨g, 6, none⟩ = some (.slice A6 r.f6.length c6) := (blk_cell HX2.out 6).trans rfl
    go_wp2_with fail
    go_ret
    exact ⟨rfl, HB2.out⟩
theorem nameF_len (k : Nat) (out : List Int) (m : List UInt8 → Option Int) (s : ByteArray) : (nameF k out m s).1.length ≤ out.length + s.size + 2 := by
  induction k generalizing out m s with
  | zero => simp only [nameF]; omega
  | succ k ih =>
    unfold nameF
    by_cases h : s.size ≤ 1
    · rw [if_pos h]; simp; omega
    · rw [if_neg h]
      cases m s.data.toList with
      | some a => simp only []; rw [List.length_append, putL_length]; omega
      | none =>
        refine Nat.le_trans (ih _ _ _) ?_
        rw [List.length_append, bytesOf_length, ByteArray.size_extract, ByteArray.size_extract]
        omega
/-- What is known lies near. -/
def Near (m : List UInt8 → Option Int) : Prop := ∀ l v, m l = some v → 0 ≤ v ∧ v < 16384
theorem nameF_near (k : Nat) (out : List Int) (m : List UInt8 → Option Int) (s : ByteArray) (hm : Near m) : Near (nameF k out m s).2 := by
  induction k generalizing out m s with
  | zero => exact hm
  | succ k ih =>
    unfold nameF
    by_cases h : s.size ≤ 1
    · rw [if_pos h]; exact hm
    · rw [if_neg h]
      cases m s.data.toList with
      | some a => exact hm
      | none =>
        refine ih _ _ _ ?_
        by_cases h2 : out.length < 16384
        · rw [if_pos h2]
          intro l v hl
          unfold updS at hl
          by_cases e : l = s.data.toList
          · rw [if_pos e] at hl
            have := Option.some.inj hl
            omega
          · rw [if_neg e] at hl
            exact hm l v hl
        · rw [if_neg h2]; exact hm
theorem isName_size {s : ByteArray} (h : isName s = true) : s.size ≤ 255 := by
  unfold isName split at h
  by_cases hb : 255 < s.size
  · rw [if_pos hb] at h; exact absurd h (by decide)
  · omega
theorem isName_ok {s : ByteArray} (h : isName s = true) : nameOk (s.size + 1) s := by
  have hs := isName_size h
  unfold isName split at h
  rw [if_neg (by omega)] at h
  exact nameOk_split _ _ _ h
/-- A name behind what is written. -/
def nameN (p : List Int × (List UInt8 → Option Int)) (s : ByteArray) : List Int × (List UInt8 → Option Int) := nameF (s.size + 1) p.1 p.2 s
theorem nameN_calls {w0 w : World} {q mb N : Nat} {p : List Int × (List UInt8 → Option Int)} (h : WAt w0 w q mb p.1 p.2 N) (hv : Near p.2) (s : ByteArray) (hs : isName s = true) (hl : p.1.length ≤ 10000000) (hN : N ≤ 1000000) :
    Calls Try.prog 33 #[.pointer (some ⟨q, 0, none⟩), .string s] w fun e w' => e = .returned (.tuple #[]) ∧ WAt w0 w' q mb (nameN p s).1 (nameN p s).2 (N + 256) ∧ KeepT w w' q mb := by
  have hz := isName_size hs
  refine (name_calls h hv s (s.size + 1) (by omega) (isName_ok hs) hz hl hN).mono ?_
  rintro e w' ⟨rfl, h1, h2⟩
  exact ⟨rfl, h1.more (by omega), h2⟩
theorem WAt.alloc {w0 w w1 : World} {q mb N : Nat} {out : List Int} {m : List UInt8 → Option Int} (h : WAt w0 w q mb out m N) (hb : Below w.heap.size w w1) : WAt w0 w1 q mb out m N := by
  obtain ⟨⟨v, hx, ho⟩, ⟨D, hM, hR⟩, h3, h4, h5, h6⟩ := h
  exact ⟨⟨v, blk_below hx hb, Kd.R_below ho hb⟩, ⟨D, mapOf_far hM (hb.block mb hM.lt), hR⟩, h3, h4, h5, h6.trans (hb.mono h6.size)⟩
theorem WAt.lt {w0 w : World} {q mb N : Nat} {out : List Int} {m : List UInt8 → Option Int} (h : WAt w0 w q mb out m N) : q < w.heap.size ∧ mb < w.heap.size := by
  obtain ⟨⟨v, hx, ho⟩, ⟨D, hM, hR⟩, h3, h4, h5, h6⟩ := h
  exact ⟨blk_lt hx, hM.lt⟩
/-- May the names of a type's data point? -/
def pointedB (k : Int) : Bool := if k = 2 then true else if k = 5 then true else if k = 12 then true else if k = 6 then true else if k = 15 then true else false
theorem pointed_calls (k : Int) (w : World) : Calls Try.prog 72 #[.int .u16 k] w fun e w' => e = .returned (.bool (pointedB k)) ∧ w = w' := by
  obtain ⟨x, hx⟩ : ∃ x, pointedB k = x := ⟨_, rfl⟩
  rw [hx]
  unfold pointedB at hx
  by_cases h1 : k = 2
  · subst h1; subst hx
    go_enter Try.func72, Try.ntmps72
    go_wp2
    go_ret
    exact ⟨rfl, rfl⟩
  by_cases h2 : k = 5
  · subst h2; subst hx
    go_enter Try.func72, Try.ntmps72
    go_wp2
    go_ret
    exact ⟨rfl, rfl⟩
  by_cases h3 : k = 12
  · subst h3; subst hx
    go_enter Try.func72, Try.ntmps72
    go_wp2
    go_ret
    exact ⟨rfl, rfl⟩
  by_cases h4 : k = 6
  · subst h4; subst hx
    go_enter Try.func72, Try.ntmps72
    go_wp2
    go_ret
    exact ⟨rfl, rfl⟩
  by_cases h5 : k = 15
  · subst h5; subst hx
    go_enter Try.func72, Try.ntmps72
    go_wp2
    go_ret
    exact ⟨rfl, rfl⟩
  rw [if_neg h1, if_neg h2, if_neg h3, if_neg h4, if_neg h5] at hx
  subst hx
  replace h1 : (k == 2) = false := beq_eq_false_iff_ne.mpr h1
  replace h2 : (k == 5) = false := beq_eq_false_iff_ne.mpr h2
  replace h3 : (k == 12) = false := beq_eq_false_iff_ne.mpr h3
  replace h4 : (k == 6) = false := beq_eq_false_iff_ne.mpr h4
  replace h5 : (k == 15) = false := beq_eq_false_iff_ne.mpr h5
  go_enter Try.func72, Try.ntmps72
  go_wp2
  go_ret
  exact ⟨rfl, rfl⟩
theorem plainS_size {r : Rec} (h : Small r ∧ (plainL r).length ≤ 65535 ∧ isName r.f0 = true ∧ (r.f4.any notName) = false ∧ shapedB r = true) : (plainS r).size ≤ 65535 := by
  unfold plainS
  split
  · have : (strOfNums (plainL r)).size = (plainL r).length := by simp [strOfNums, ByteArray.size]
    omega
  · exact Nat.zero_le _
theorem names_ok {l : List ByteArray} (h : (l.any notName) = false) {k : Nat} (hk : k < l.length) : isName (l.getD k ⟨#[]⟩) = true := by
  have := List.any_eq_false.1 h (l.getD k ⟨#[]⟩) (by rw [List.getD_eq_getElem?_getD, List.getElem?_eq_getElem hk]; exact List.getElem_mem hk)
  unfold notName at this
  simpa using this
/-- A record's data behind what is written. -/
def dataF (p : List Int × (List UInt8 → Option Int)) (r : Rec) : List Int × (List UInt8 → Option Int) :=
  if pointedB r.f1 = false then (p.1 ++ bytesOf (plainS r), p.2) else
  let a := if r.f1 = 15 then (p.1 ++ putL (r.f5.getD 0 0) 2, p.2) else p
  let b := r.f4.foldl nameN a
  if r.f1 = 6 then (b.1 ++ r.f5.flatMap (fun n => putL n 4), b.2) else b

set_option maxHeartbeats 4000000 in
set_option maxRecDepth 100000 in
theorem data_calls {w0 w : World} {q mb N : Nat} {p : List Int × (List UInt8 → Option Int)} (h : WAt w0 w q mb p.1 p.2 N) (hn : Near p.2) (r : Rec) (v : Value) (hv : RecAt w0 v r) (hF : Fine r) (hc : checkF r = 0) (hl : p.1.length ≤ 9000000) (hN : N ≤ 900000) :
    Calls Try.prog 57 #[.pointer (some ⟨q, 0, none⟩), v] w fun e w' => e = .returned (.tuple #[]) ∧ WAt w0 w' q mb (dataF p r).1 (dataF p r).2 (N + 512) ∧ KeepT w w' q mb := by
  obtain ⟨out, m⟩ := p
  have HV := Aside0.mk hv
  obtain ⟨A4, c4, A5, c5, A6, c6, rfl, l4, g4, l5, g5, l6, g6⟩ := hv
  have G4 := Aside0.mk g4
  have G5 := Aside0.mk g5
  have HF := Aside0.mk hF
  have HW := Aside0.mk (show WAt w0 w q mb out m N from h)
  have HN := Aside0.mk (show Near m from hn)
  have HC := Aside0.mk (check_small hF hc)
  have HL := Aside0.mk (show out.length ≤ 9000000 from hl)
  obtain ⟨R, hR⟩ : ∃ R, dataF (out, m) r = R := ⟨_, rfl⟩
  rw [hR]
  unfold dataF at hR
  clear g4 g5 g6 hF h hn hc hl
  obtain ⟨b, hb0⟩ : ∃ b, pointedB r.f1 = b := ⟨_, rfl⟩
  rw [hb0] at hR
  have HPt := Lib.hid hb0
  cases b with
  | false =>
    rw [if_pos rfl] at hR
    have HR := Lib.hid hR
    clear hb0 hR
    go_enter Try.func57, Try.ntmps57
    go_wp2_with (first | (((with_reducible refine gate_dst (N := 3) rfl ?_); refine box_event rfl (N := 3) rfl (cs := #[.string r.f0, .int .u16 r.f1, .int .u16 r.f2, .int .u32 r.f3, .slice A4 r.f4.length c4, .slice A5 r.f5.length c5, .slice A6 r.f6.length c6]) (t := 44) (by first | (go_simp; done) | (go_simp; rfl)) ?_; intro g hg w1 hbox hb); have HX := Aside0.mk hbox; have HB := Aside0.mk hb; have HGe := Aside0.mk hg; clear hb hg; have z0 : w1.cell? ⟨g, 0, none⟩ = some (.string r.f0) := (blk_cell HX.out 0).trans rfl; clear hbox; have z1 : w1.cell? ⟨g, 1, none⟩ = some (.int .u16 r.f1) := (blk_cell HX.out 1).trans rfl; have z2 : w1.cell? ⟨g, 2, none⟩ = some (.int .u16 r.f2) := (blk_cell HX.out 2).trans rfl; have z3 : w1.cell? ⟨g, 3, none⟩ = some (.int .u32 r.f3) := (blk_cell HX.out 3).trans rfl; have z4 : w1.cell? ⟨g, 4, none⟩ = some (.slice A4 r.f4.length c4) := (blk_cell HX.out 4).trans rfl; have z5 : w1.cell? ⟨g, 5, none⟩ = some (.slice A5 r.f5.length c5) := (blk_cell HX.out 5).trans rfl; have z6 : w1.cell? ⟨g, 6, none⟩ = some (.slice A6 r.f6.length c6) := (blk_cell HX.out 6).trans rfl) | (go_at_call 72; refine (pointed_calls r.f1 _).mono ?_; rw [HPt.out]; rintro e w' ⟨rfl, rfl⟩))
    have HW1 := HW.out.alloc HB.out
    have ht1 := KeepT.below HB.out q mb
    obtain ⟨⟨v, hcell, ho⟩, ⟨D, hmap, hrep⟩, hg, hmb, hne, hb⟩ := HW1
    obtain ⟨A, c, rfl, _, _⟩ := Kd.R_reads ho
    have y0 : w1.cell? ⟨q, 0, none⟩ = some (.slice A out.length c) := (blk_cell hcell 0).trans rfl
    refine start_ (n := 11) (S := fun w' => w'.cell? ⟨q, 0, none⟩ = some (.slice A out.length c) ∧ w'.cell? ⟨g, 0, none⟩ = some (.string r.f0) ∧ w'.cell? ⟨g, 1, none⟩ = some (.int .u16 r.f1) ∧ w'.cell? ⟨g, 2, none⟩ = some (.int .u16 r.f2) ∧ w'.cell? ⟨g, 3, none⟩ = some (.int .u32 r.f3) ∧ w'.cell? ⟨g, 4, none⟩ = some (.slice A4 r.f4.length c4) ∧ w'.cell? ⟨g, 5, none⟩ = some (.slice A5 r.f5.length c5) ∧ w'.cell? ⟨g, 6, none⟩ = some (.slice A6 r.f6.length c6)) (ds := [10]) (Array.replicate 11 false) (by kernel_rfl) (by kernel_rfl) rfl ⟨y0, z0, z1, z2, z3, z4, z5, z6⟩ (fun hS => ?_)
    refine dpure 0 (some 12) rfl rfl (by kernel_rfl) (fun _ _ _ h => h) (by rfl) (v := ?_) (a' := ?_) ?_ ?_ ?_
    rotate_left 2
    · intro w'; go_simp; with_reducible rfl
    · simp only [Act.put, List.setIfInBounds_toArray, List.set_cons_zero, List.set_cons_succ]; rfl
    refine dpure 1 (some 13) rfl rfl (by kernel_rfl) (fun _ _ _ h => h) (by rfl) (v := ?_) (a' := ?_) ?_ ?_ ?_
    rotate_left 2
    · intro w'; go_simp; with_reducible rfl
    · simp only [Act.put, List.setIfInBounds_toArray, List.set_cons_zero, List.set_cons_succ]; rfl
    refine dpure 2 (some 14) rfl rfl (by kernel_rfl) (fun _ _ _ h => h) (by rfl) (v := ?_) (a' := ?_) ?_ ?_ ?_
    rotate_left 2
    · intro w'; go_simp; with_reducible rfl
    · simp only [Act.put, List.setIfInBounds_toArray, List.set_cons_zero, List.set_cons_succ]; rfl
    refine dpure 3 (some 15) rfl rfl (by kernel_rfl) (fun _ _ _ h => h) (by rfl) (v := ?_) (a' := ?_) ?_ ?_ ?_
    rotate_left 2
    · intro w'; go_simp; with_reducible rfl
    · simp only [Act.put, List.setIfInBounds_toArray, List.set_cons_zero, List.set_cons_succ]; rfl
    refine dtake 4 (some 16) rfl rfl (by kernel_rfl) (fun _ _ _ h => h) (by rfl) hS (v := ?_) (a' := ?_) ?_ ?_ ?_
    rotate_left 2
    · rintro w' ⟨s0,s1,s2,s3,s4,s5,s6,s7⟩; go_simp; with_reducible rfl
    · simp only [Act.put, List.setIfInBounds_toArray, List.set_cons_zero, List.set_cons_succ]; rfl
    refine dtake 5 (some 17) rfl rfl (by kernel_rfl) (fun _ _ _ h => h) (by rfl) hS (v := ?_) (a' := ?_) ?_ ?_ ?_
    rotate_left 2
    · rintro w' ⟨s0,s1,s2,s3,s4,s5,s6,s7⟩; go_simp; with_reducible rfl
    · simp only [Act.put, List.setIfInBounds_toArray, List.set_cons_zero, List.set_cons_succ]; rfl
    refine done1 6 (some 18) rfl rfl (by kernel_rfl) (by decide) (fun K hK => ?_)
    refine goes_ Try.func73 (by kernel_rfl) rfl #[.agg #[.string r.f0, .int .u16 r.f1, .int .u16 r.f2, .int .u32 r.f3, .slice A4 r.f4.length c4, .slice A5 r.f5.length c5, .slice A6 r.f6.length c6]] (by rfl) rfl rfl (by kernel_rfl) ?_
    refine (Plain_calls r _ w1.drew (HV.out.below hb.drew) HF.out).mono ?_
    rintro e w2 ⟨rfl, hb2⟩
    refine ⟨_, rfl, ?_⟩
    have HX2 := blk_below (blk_drew HX.out) hb2
    have hx2 := blk_below (blk_drew hcell) hb2
    have ho2 := Kd.R_below (Kd.R_drew ho) hb2
    have hm2 := mapOf_far hmap (hb2.block mb hmap.lt)
    have hbb2 := hb.trans ((undrew hb2).mono hb.size)
    have ht2 := (ht1.trans (KeepT.drew w1 q mb)).trans (KeepT.below hb2 q mb)
    refine hK.out _ _ ⟨(blk_cell hx2 0).trans rfl, (blk_cell HX2 0).trans rfl, (blk_cell HX2 1).trans rfl, (blk_cell HX2 2).trans rfl, (blk_cell HX2 3).trans rfl, (blk_cell HX2 4).trans rfl, (blk_cell HX2 5).trans rfl, (blk_cell HX2 6).trans rfl⟩ (fun hS => ?_)
    clear hK K
    refine norm_ (a' := ?_) ?_ ?_
    rotate_left
    · simp only [Act.put, List.setIfInBounds_toArray, List.set_cons_zero, List.set_cons_succ]; rfl
    refine done1 7 (some 19) rfl rfl (by kernel_rfl) (by decide) (fun K hK => ?_)
    refine app8s_step (w0 := w0) (base := w0.heap.size) (some 19) rfl (by rfl) (.tmp 16) (.tmp 18) (by kernel_rfl) (by kernel_rfl) (by kernel_rfl) (y := plainS r) ho2 hbb2 hbb2.size (by have := HL.out; have := plainS_size HC.out; omega) ?_
    intro v3 w3 ho3 hb3 hg3
    obtain ⟨A3, c3, rfl⟩ := Kd.R_slice ho3
    have HX3 := blk_grown HX2 hg3 (Kd.R_ne ho2 HX2 (by decide))
    have hx3 := blk_grown hx2 hg3 (Kd.R_ne ho2 hx2 (by decide))
    have hm3 := mapOf_far hm2 (hg3.block mb hm2.lt (map_ne hm2 ho2))
    have f3 : w3.frozen? ⟨q, 0, none⟩ = false := blk_frozen hx3 0
    have y3 : w3.cell? ⟨q, 0, none⟩ = some (.slice A out.length c) := (blk_cell hx3 0).trans rfl
    have ht3 := (ht2.trans (KeepT.grown ho2 hg3 q mb)).trans (KeepT.set w3 q mb 0 (.slice A3 (out ++ bytesOf (plainS r)).length c3))
    refine hK.out _ _ ⟨(blk_cell hx3 0).trans rfl, (blk_cell HX3 0).trans rfl, (blk_cell HX3 1).trans rfl, (blk_cell HX3 2).trans rfl, (blk_cell HX3 3).trans rfl, (blk_cell HX3 4).trans rfl, (blk_cell HX3 5).trans rfl, (blk_cell HX3 6).trans rfl⟩ (fun hS => ?_)
    clear hK K
    refine norm_ (a' := ?_) ?_ ?_
    rotate_left
    · simp only [Act.put, List.setIfInBounds_toArray, List.set_cons_zero, List.set_cons_succ]; rfl
    refine dpure 8 (some 20) rfl rfl (by kernel_rfl) (fun _ _ _ h => h) (by rfl) (v := ?_) (a' := ?_) ?_ ?_ ?_
    rotate_left 2
    · intro w'; go_simp; with_reducible rfl
    · simp only [Act.put, List.setIfInBounds_toArray, List.set_cons_zero, List.set_cons_succ]; rfl
    refine dpure 9 (some 21) rfl rfl (by kernel_rfl) (fun _ _ _ h => h) (by rfl) (v := ?_) (a' := ?_) ?_ ?_ ?_
    rotate_left 2
    · intro w'; go_simp; with_reducible rfl
    · simp only [Act.put, List.setIfInBounds_toArray, List.set_cons_zero, List.set_cons_succ]; rfl
    refine dlast 10 (Array.getElem?_eq_getElem (by decide)) (by kernel_rfl) (List.mem_singleton.2 rfl) ?_
    intro K hK
    refine dskip (w1 := w3.setCell ⟨q, 0, none⟩ (.slice A3 (out ++ bytesOf (plainS r)).length c3)) (by kernel_rfl) (by kernel_rfl) ?_ ?_
    · go_simp
    refine hK.out _ _ (done_ (by kernel_rfl) ?_)
    clear hK K
    have e4 := (WAt.stored hx3 ho3 hm3 hrep hg hmb hne hb3).more (N' := N + 512) (by omega)
    have HW4 := Aside0.mk e4
    have HT4 := Aside0.mk ht3
    clear e4 ht3
    go_wp2_with fail
    refine bodyPost_ret (results_none rfl _ _ _) rfl ⟨rfl, ?_, HT4.out⟩
    rw [← HR.out]
    exact HW4.out
  | true =>
    rw [if_neg (by decide)] at hR
    have hsh := of_decide_eq_true (Bool.and_eq_true_iff.1 HC.out.2.2.2.2).1
    obtain ⟨s1, s2, s3⟩ := shapeOf_le r.f1
    have k4 : r.f4.length ≤ 2 := by omega
    have k5 : r.f5.length ≤ 5 := by omega
    have H15 := Lib.hid (show r.f1 = 15 → 0 < r.f5.length by intro h; rw [h] at hsh; have := hsh.2.1; simp [shapeOf] at this; omega)
    have hq := HW.out.lt
    have HQ := Aside0.mk hq
    clear hsh s1 s2 s3 hb0 hq
    by_cases t15 : r.f1 = 15
    · have e15 : (r.f1 == 15) = true := beq_iff_eq.mpr t15
      have e6 : (r.f1 == 6) = false := beq_eq_false_iff_ne.mpr (by omega)
      rw [if_pos t15, if_neg (by omega)] at hR
      have HR := Lib.hid hR
      have hl0 := H15.out t15
      obtain ⟨n0, n1⟩ := HF.out.wf 0 hl0
      obtain ⟨n, hn⟩ : ∃ n, r.f5.getD 0 0 = n := ⟨_, rfl⟩
      rw [hn] at n0 n1
      have HNn := Lib.hid hn
      obtain ⟨ad, rfl, hcell⟩ := at_int G5.out 0 hl0
      rw [HNn.out, show ad.add 0 = ad from rfl] at hcell
      have q1 : (0 : Int) < (r.f5.length : Int) := by omega
      clear t15 hR hn
      go_enter Try.func57, Try.ntmps57
      go_wp2_with (first | ((((with_reducible refine gate_dst (N := 3) rfl ?_); refine box_event rfl (N := 3) rfl (cs := #[.string r.f0, .int .u16 r.f1, .int .u16 r.f2, .int .u32 r.f3, .slice A4 r.f4.length c4, .slice (some ad) r.f5.length c5, .slice A6 r.f6.length c6]) (t := 44) (by first | (go_simp; done) | (go_simp; rfl)) ?_; intro g hg w1 hbox hb); have HX := Aside0.mk hbox; have HB := Aside0.mk hb; have HGe := Aside0.mk hg; clear hb hg; have z0 : w1.cell? ⟨g, 0, none⟩ = some (.string r.f0) := (blk_cell HX.out 0).trans rfl; clear hbox; have z1 : w1.cell? ⟨g, 1, none⟩ = some (.int .u16 r.f1) := (blk_cell HX.out 1).trans rfl; have z2 : w1.cell? ⟨g, 2, none⟩ = some (.int .u16 r.f2) := (blk_cell HX.out 2).trans rfl; have z3 : w1.cell? ⟨g, 3, none⟩ = some (.int .u32 r.f3) := (blk_cell HX.out 3).trans rfl; have z4 : w1.cell? ⟨g, 4, none⟩ = some (.slice A4 r.f4.length c4) := (blk_cell HX.out 4).trans rfl; have z5 : w1.cell? ⟨g, 5, none⟩ = some (.slice (some ad) r.f5.length c5) := (blk_cell HX.out 5).trans rfl; have z6 : w1.cell? ⟨g, 6, none⟩ = some (.slice A6 r.f6.length c6) := (blk_cell HX.out 6).trans rfl); have hcell2 := pw_cell_below (HW.out.alloc HB.out).below hcell) | (go_at_call 72; refine (pointed_calls r.f1 _).mono ?_; rw [HPt.out]; rintro e w' ⟨rfl, rfl⟩))
      refine (num_calls (HW.out.alloc HB.out) n 2 (by decide) (by decide) n0 n1 (by have := HL.out; omega)).mono ?_
      rintro e w2 ⟨rfl, hw2, ht2⟩
      have hgq : g ≠ q := by rw [HGe.out]; have := HQ.out.1; omega
      have hgm : g ≠ mb := by rw [HGe.out]; have := HQ.out.2; omega
      have HX2 := Aside0.mk (ht2.2 g _ _ HX.out (by decide) hgq hgm)
      have HT2 := Aside0.mk ((KeepT.below HB.out q mb).trans ht2)
      have HW2 := Aside0.mk hw2
      clear z0 z1 z2 z3 z4 z5 z6 hw2 ht2
      have z0 : w2.cell? ⟨g, 0, none⟩ = some (.string r.f0) := (blk_cell HX2.out 0).trans rfl
      have z1 : w2.cell? ⟨g, 1, none⟩ = some (.int .u16 r.f1) := (blk_cell HX2.out 1).trans rfl
      have z2 : w2.cell? ⟨g, 2, none⟩ = some (.int .u16 r.f2) := (blk_cell HX2.out 2).trans rfl
      have z3 : w2.cell? ⟨g, 3, none⟩ = some (.int .u32 r.f3) := (blk_cell HX2.out 3).trans rfl
      have z4 : w2.cell? ⟨g, 4, none⟩ = some (.slice A4 r.f4.length c4) := (blk_cell HX2.out 4).trans rfl
      have z5 : w2.cell? ⟨g, 5, none⟩ = some (.slice (some ad) r.f5.length c5) := (blk_cell HX2.out 5).trans rfl
      have z6 : w2.cell? ⟨g, 6, none⟩ = some (.slice A6 r.f6.length c6) := (blk_cell HX2.out 6).trans rfl
      go_wp2_with fail
      have HN0 := HN
      have HG0 := Aside0.mk (show w2.heap[g]? = w2.heap[g]? from rfl)
      go_loopw [35] (fun t wr => ∃ (k : Nat) (p : List Int × (List UInt8 → Option Int)), t = .int .i64 k ∧ Aside0 (k ≤ r.f4.length) ∧ Aside0 ((r.f4.drop k).foldl nameN p = r.f4.foldl nameN (out ++ putL n 2, m)) ∧ Aside0 (Near p.2) ∧ Aside0 (p.1.length ≤ 9000010 + 300 * k) ∧ Aside0 (WAt w0 wr q mb p.1 p.2 (N + 256 * k)) ∧ Aside0 (KeepT w wr q mb) ∧ Aside0 (wr.heap[g]? = w2.heap[g]?)) (fun t _ => r.f4.length - (intOf t).toNat)
      case atStart => exact ⟨0, (out ++ putL n 2, m), rfl, ⟨Nat.zero_le _⟩, ⟨rfl⟩, HN0, ⟨by have := HL.out; (simp only [List.length_append, putL_length]; omega)⟩, HW2, HT2, HG0⟩
      case round =>
        clear HG0 z0 z1 z2 z3 z4 z5 z6
        obtain ⟨k, p, rfl, HK, HE, HNr, HLr, HWr, HTr, HGr⟩ := hrel
        have HXr := Aside0.mk (HGr.out.trans HX2.out)
        have z0 : wr.cell? ⟨g, 0, none⟩ = some (.string r.f0) := (blk_cell HXr.out 0).trans rfl
        have z1 : wr.cell? ⟨g, 1, none⟩ = some (.int .u16 r.f1) := (blk_cell HXr.out 1).trans rfl
        have z2 : wr.cell? ⟨g, 2, none⟩ = some (.int .u16 r.f2) := (blk_cell HXr.out 2).trans rfl
        have z3 : wr.cell? ⟨g, 3, none⟩ = some (.int .u32 r.f3) := (blk_cell HXr.out 3).trans rfl
        have z4 : wr.cell? ⟨g, 4, none⟩ = some (.slice A4 r.f4.length c4) := (blk_cell HXr.out 4).trans rfl
        have z5 : wr.cell? ⟨g, 5, none⟩ = some (.slice (some ad) r.f5.length c5) := (blk_cell HXr.out 5).trans rfl
        have z6 : wr.cell? ⟨g, 6, none⟩ = some (.slice A6 r.f6.length c6) := (blk_cell HXr.out 6).trans rfl
        by_cases hk : k < r.f4.length
        · obtain ⟨ad4, h4, hcell⟩ := at_str (Kd.C_below G4.out HWr.out.below) k hk
          subst h4
          have q1 : (0 : Int) ≤ (k : Int) := by omega
          have q2 : (k : Int) < (r.f4.length : Int) := by omega
          have hs := names_ok HC.out.2.2.2.1 hk
          have he := HE.out
          rw [drop_get ⟨#[]⟩ r.f4 k hk, List.foldl_cons] at he
          obtain ⟨s, hs'⟩ : ∃ s, r.f4.getD k ⟨#[]⟩ = s := ⟨_, rfl⟩
          rw [hs'] at hcell hs he
          have HE1 := Aside0.mk he
          have HSn := Lib.hid hs
          clear he hs hs' HE
          go_wp2_with fail
          refine (nameN_calls HWr.out HNr.out s HSn.out (by have := HLr.out; omega) (by omega)).mono ?_
          rintro e w4 ⟨rfl, hw4, ht4⟩
          have HW4 := Aside0.mk (hw4.more (N' := N + 256 * (k + 1)) (by omega))
          have HT4 := Aside0.mk (HTr.out.trans ht4)
          have HG4 := Aside0.mk ((ht4.2 g _ _ HXr.out (by decide) hgq hgm).trans HX2.out.symm)
          have HL4 := Aside0.mk (Nat.le_trans (nameF_len (s.size + 1) p.1 p.2 s) (show p.1.length + s.size + 2 ≤ 9000010 + 300 * (k + 1) by have := HLr.out; have := isName_size HSn.out; omega))
          have HN4 := Aside0.mk (nameF_near (s.size + 1) p.1 p.2 s HNr.out)
          clear hw4 ht4 z0 z1 z2 z3 z4 z5 z6
          go_wp2_with fail
          go_roundw
          case rel => exact ⟨k + 1, nameN p s, by go_num, ⟨hk⟩, HE1, HN4, HL4, HW4, HT4, HG4⟩
          case measure => simp [intOf]; omega
        · have hk' : k = r.f4.length := by have := HK.out; omega
          have HF2 := Lib.hid (show p = R by rw [← HR.out, HNn.out, ← HE.out, hk', List.drop_length]; rfl)
          clear hk'
          go_wp2_with fail
          refine bodyPost_end (results_none rfl _ _ _) rfl ⟨rfl, ?_, HTr.out⟩
          rw [← HF2.out]
          exact HWr.out.more (by have := HK.out; omega)
    · have e15 : (r.f1 == 15) = false := beq_eq_false_iff_ne.mpr t15
      rw [if_neg t15] at hR
      have T15 := Lib.hid t15
      clear t15
      go_enter Try.func57, Try.ntmps57
      by_cases t6 : r.f1 = 6
      · have e6 : (r.f1 == 6) = true := beq_iff_eq.mpr t6
        rw [if_pos t6] at hR
        have HR := Lib.hid hR
        clear t6 hR
        go_wp2_with (first | (((with_reducible refine gate_dst (N := 3) rfl ?_); refine box_event rfl (N := 3) rfl (cs := #[.string r.f0, .int .u16 r.f1, .int .u16 r.f2, .int .u32 r.f3, .slice A4 r.f4.length c4, .slice A5 r.f5.length c5, .slice A6 r.f6.length c6]) (t := 44) (by first | (go_simp; done) | (go_simp; rfl)) ?_; intro g hg w1 hbox hb); have HX := Aside0.mk hbox; have HB := Aside0.mk hb; have HGe := Aside0.mk hg; clear hb hg; have z0 : w1.cell? ⟨g, 0, none⟩ = some (.string r.f0) := (blk_cell HX.out 0).trans rfl; clear hbox; have z1 : w1.cell? ⟨g, 1, none⟩ = some (.int .u16 r.f1) := (blk_cell HX.out 1).trans rfl; have z2 : w1.cell? ⟨g, 2, none⟩ = some (.int .u16 r.f2) := (blk_cell HX.out 2).trans rfl; have z3 : w1.cell? ⟨g, 3, none⟩ = some (.int .u32 r.f3) := (blk_cell HX.out 3).trans rfl; have z4 : w1.cell? ⟨g, 4, none⟩ = some (.slice A4 r.f4.length c4) := (blk_cell HX.out 4).trans rfl; have z5 : w1.cell? ⟨g, 5, none⟩ = some (.slice A5 r.f5.length c5) := (blk_cell HX.out 5).trans rfl; have z6 : w1.cell? ⟨g, 6, none⟩ = some (.slice A6 r.f6.length c6) := (blk_cell HX.out 6).trans rfl) | (go_at_call 72; refine (pointed_calls r.f1 _).mono ?_; rw [HPt.out]; rintro e w' ⟨rfl, rfl⟩))
        have hgq : g ≠ q := by rw [HGe.out]; have := HQ.out.1; omega
        have hgm : g ≠ mb := by rw [HGe.out]; have := HQ.out.2; omega
        have HT2 := Aside0.mk (KeepT.below HB.out q mb)
        have HW2 := Aside0.mk (HW.out.alloc HB.out)
        have HN0 := HN
        have HG0 := Aside0.mk (show w1.heap[g]? = w1.heap[g]? from rfl)
        go_loopw [35] (fun t wr => ∃ (k : Nat) (p : List Int × (List UInt8 → Option Int)), t = .int .i64 k ∧ Aside0 (k ≤ r.f4.length) ∧ Aside0 ((r.f4.drop k).foldl nameN p = r.f4.foldl nameN (out, m)) ∧ Aside0 (Near p.2) ∧ Aside0 (p.1.length ≤ 9000010 + 300 * k) ∧ Aside0 (WAt w0 wr q mb p.1 p.2 (N + 256 * k)) ∧ Aside0 (KeepT w wr q mb) ∧ Aside0 (wr.heap[g]? = w1.heap[g]?)) (fun t _ => r.f4.length - (intOf t).toNat)
        case atStart => exact ⟨0, (out, m), rfl, ⟨Nat.zero_le _⟩, ⟨rfl⟩, HN0, ⟨by have := HL.out; (simp only []; omega)⟩, HW2, HT2, HG0⟩
        case round =>
          clear HG0 z0 z1 z2 z3 z4 z5 z6
          obtain ⟨k, p, rfl, HK, HE, HNr, HLr, HWr, HTr, HGr⟩ := hrel
          have HXr := Aside0.mk (HGr.out.trans HX.out)
          have z0 : wr.cell? ⟨g, 0, none⟩ = some (.string r.f0) := (blk_cell HXr.out 0).trans rfl
          have z1 : wr.cell? ⟨g, 1, none⟩ = some (.int .u16 r.f1) := (blk_cell HXr.out 1).trans rfl
          have z2 : wr.cell? ⟨g, 2, none⟩ = some (.int .u16 r.f2) := (blk_cell HXr.out 2).trans rfl
          have z3 : wr.cell? ⟨g, 3, none⟩ = some (.int .u32 r.f3) := (blk_cell HXr.out 3).trans rfl
          have z4 : wr.cell? ⟨g, 4, none⟩ = some (.slice A4 r.f4.length c4) := (blk_cell HXr.out 4).trans rfl
          have z5 : wr.cell? ⟨g, 5, none⟩ = some (.slice A5 r.f5.length c5) := (blk_cell HXr.out 5).trans rfl
          have z6 : wr.cell? ⟨g, 6, none⟩ = some (.slice A6 r.f6.length c6) := (blk_cell HXr.out 6).trans rfl
          by_cases hk : k < r.f4.length
          · obtain ⟨ad4, h4, hcell⟩ := at_str (Kd.C_below G4.out HWr.out.below) k hk
            subst h4
            have q1 : (0 : Int) ≤ (k : Int) := by omega
            have q2 : (k : Int) < (r.f4.length : Int) := by omega
            have hs := names_ok HC.out.2.2.2.1 hk
            have he := HE.out
            rw [drop_get ⟨#[]⟩ r.f4 k hk, List.foldl_cons] at he
            obtain ⟨s, hs'⟩ : ∃ s, r.f4.getD k ⟨#[]⟩ = s := ⟨_, rfl⟩
            rw [hs'] at hcell hs he
            have HE1 := Aside0.mk he
            have HSn := Lib.hid hs
            clear he hs hs' HE
            go_wp2_with fail
            refine (nameN_calls HWr.out HNr.out s HSn.out (by have := HLr.out; omega) (by omega)).mono ?_
            rintro e w4 ⟨rfl, hw4, ht4⟩
            have HW4 := Aside0.mk (hw4.more (N' := N + 256 * (k + 1)) (by omega))
            have HT4 := Aside0.mk (HTr.out.trans ht4)
            have HG4 := Aside0.mk ((ht4.2 g _ _ HXr.out (by decide) hgq hgm).trans HX.out.symm)
            have HL4 := Aside0.mk (Nat.le_trans (nameF_len (s.size + 1) p.1 p.2 s) (show p.1.length + s.size + 2 ≤ 9000010 + 300 * (k + 1) by have := HLr.out; have := isName_size HSn.out; omega))
            have HN4 := Aside0.mk (nameF_near (s.size + 1) p.1 p.2 s HNr.out)
            clear hw4 ht4 z0 z1 z2 z3 z4 z5 z6
            go_wp2_with fail
            go_roundw
            case rel => exact ⟨k + 1, nameN p s, by go_num, ⟨hk⟩, HE1, HN4, HL4, HW4, HT4, HG4⟩
            case measure => simp [intOf]; omega
          · have hk' : k = r.f4.length := by have := HK.out; omega
            obtain ⟨o2, m2⟩ := p
            have HF2 := Lib.hid (show (o2 ++ r.f5.flatMap (fun n => putL n 4), m2) = R by rw [← HR.out, ← HE.out, hk', List.drop_length]; rfl)
            have HLo := Aside0.mk (show o2.length ≤ 9001000 by have := HLr.out; simp only at this; omega)
            have HWo := Aside0.mk (show WAt w0 wr q mb o2 m2 (N + 512) from HWr.out.more (by have := HK.out; omega))
            have HX5 := HXr
            clear hk' HK HE HNr HLr HWr HGr
            go_wp2_with fail
            obtain ⟨wo, hwo⟩ : ∃ wo, wo = wr.heap[g]? := ⟨_, rfl⟩
            have HG0 := Aside0.mk hwo.symm
            have HX6 := Aside0.mk (hwo.trans HX5.out)
            clear hwo HX5 HXr
            go_loopw [49] (fun t wr => ∃ (k : Nat) (o3 : List Int), t = .int .i64 k ∧ Aside0 (k ≤ r.f5.length) ∧ Aside0 (o3 = o2 ++ (r.f5.take k).flatMap (fun n => putL n 4)) ∧ Aside0 (o3.length = o2.length + 4 * k) ∧ Aside0 (WAt w0 wr q mb o3 m2 (N + 512)) ∧ Aside0 (KeepT w wr q mb) ∧ Aside0 (wr.heap[g]? = wo)) (fun t _ => r.f5.length - (intOf t).toNat)
            case atStart => exact ⟨0, o2, rfl, ⟨Nat.zero_le _⟩, ⟨by simp⟩, ⟨rfl⟩, HWo, HTr, HG0⟩
            case round =>
              clear HWo HTr HG0 z0 z1 z2 z3 z4 z5 z6
              obtain ⟨k, o3, rfl, HK, HE, HLr, HWr, HTr, HGr⟩ := hrel
              have HXr := Aside0.mk (HGr.out.trans HX6.out)
              by_cases hk : k < r.f5.length
              · obtain ⟨ad5, h5, hcell⟩ := at_int (Kd.C_below G5.out HWr.out.below) k hk
                subst h5
                have q1 : (0 : Int) ≤ (k : Int) := by omega
                have q2 : (k : Int) < (r.f5.length : Int) := by omega
                obtain ⟨n0, n1⟩ := HF.out.wf k hk
                have HE1 := Aside0.mk (flat_snoc 0 (fun n => putL n 4) r.f5 k hk)
                obtain ⟨n, hn⟩ : ∃ n, r.f5.getD k 0 = n := ⟨_, rfl⟩
                rw [hn] at n0 n1
                simp only [hn] at hcell HE1
                clear hn
                go_wp2_with fail
                refine (num_calls HWr.out n 4 (by decide) (by decide) n0 n1 (by have := HLr.out; have := HLo.out; omega)).mono ?_
                rintro e w4 ⟨rfl, hw4, ht4⟩
                have HW4 := Aside0.mk hw4
                have HT4 := Aside0.mk (HTr.out.trans ht4)
                have HG4 := Aside0.mk ((ht4.2 g _ _ HXr.out (by decide) hgq hgm).trans HX6.out.symm)
                clear hw4 ht4
                go_wp2_with fail
                go_roundw
                case rel => exact ⟨k + 1, o3 ++ putL n 4, by go_num, ⟨hk⟩, ⟨by rw [HE1.out, HE.out, List.append_assoc]⟩, ⟨by have := HLr.out; rw [List.length_append, putL_length]; omega⟩, HW4, HT4, HG4⟩
                case measure => simp [intOf]; omega
              · have hk' : k = r.f5.length := by have := HK.out; omega
                have HF3 := Lib.hid (show (o3, m2) = R by rw [← HF2.out, HE.out, hk', List.take_length])
                clear hk'
                go_wp2_with fail
                refine bodyPost_end (results_none rfl _ _ _) rfl ⟨rfl, ?_, HTr.out⟩
                rw [← HF3.out]
                exact HWr.out
      · have e6 : (r.f1 == 6) = false := beq_eq_false_iff_ne.mpr t6
        rw [if_neg t6] at hR
        have HR := Lib.hid hR
        clear t6 hR
        go_wp2_with (first | (((with_reducible refine gate_dst (N := 3) rfl ?_); refine box_event rfl (N := 3) rfl (cs := #[.string r.f0, .int .u16 r.f1, .int .u16 r.f2, .int .u32 r.f3, .slice A4 r.f4.length c4, .slice A5 r.f5.length c5, .slice A6 r.f6.length c6]) (t := 44) (by first | (go_simp; done) | (go_simp; rfl)) ?_; intro g hg w1 hbox hb); have HX := Aside0.mk hbox; have HB := Aside0.mk hb; have HGe := Aside0.mk hg; clear hb hg; have z0 : w1.cell? ⟨g, 0, none⟩ = some (.string r.f0) := (blk_cell HX.out 0).trans rfl; clear hbox; have z1 : w1.cell? ⟨g, 1, none⟩ = some (.int .u16 r.f1) := (blk_cell HX.out 1).trans rfl; have z2 : w1.cell? ⟨g, 2, none⟩ = some (.int .u16 r.f2) := (blk_cell HX.out 2).trans rfl; have z3 : w1.cell? ⟨g, 3, none⟩ = some (.int .u32 r.f3) := (blk_cell HX.out 3).trans rfl; have z4 : w1.cell? ⟨g, 4, none⟩ = some (.slice A4 r.f4.length c4) := (blk_cell HX.out 4).trans rfl; have z5 : w1.cell? ⟨g, 5, none⟩ = some (.slice A5 r.f5.length c5) := (blk_cell HX.out 5).trans rfl; have z6 : w1.cell? ⟨g, 6, none⟩ = some (.slice A6 r.f6.length c6) := (blk_cell HX.out 6).trans rfl) | (go_at_call 72; refine (pointed_calls r.f1 _).mono ?_; rw [HPt.out]; rintro e w' ⟨rfl, rfl⟩))
        have hgq : g ≠ q := by rw [HGe.out]; have := HQ.out.1; omega
        have hgm : g ≠ mb := by rw [HGe.out]; have := HQ.out.2; omega
        have HT2 := Aside0.mk (KeepT.below HB.out q mb)
        have HW2 := Aside0.mk (HW.out.alloc HB.out)
        have HN0 := HN
        have HG0 := Aside0.mk (show w1.heap[g]? = w1.heap[g]? from rfl)
        go_loopw [35] (fun t wr => ∃ (k : Nat) (p : List Int × (List UInt8 → Option Int)), t = .int .i64 k ∧ Aside0 (k ≤ r.f4.length) ∧ Aside0 ((r.f4.drop k).foldl nameN p = r.f4.foldl nameN (out, m)) ∧ Aside0 (Near p.2) ∧ Aside0 (p.1.length ≤ 9000010 + 300 * k) ∧ Aside0 (WAt w0 wr q mb p.1 p.2 (N + 256 * k)) ∧ Aside0 (KeepT w wr q mb) ∧ Aside0 (wr.heap[g]? = w1.heap[g]?)) (fun t _ => r.f4.length - (intOf t).toNat)
        case atStart => exact ⟨0, (out, m), rfl, ⟨Nat.zero_le _⟩, ⟨rfl⟩, HN0, ⟨by have := HL.out; (simp only []; omega)⟩, HW2, HT2, HG0⟩
        case round =>
          clear HG0 z0 z1 z2 z3 z4 z5 z6
          obtain ⟨k, p, rfl, HK, HE, HNr, HLr, HWr, HTr, HGr⟩ := hrel
          have HXr := Aside0.mk (HGr.out.trans HX.out)
          have z0 : wr.cell? ⟨g, 0, none⟩ = some (.string r.f0) := (blk_cell HXr.out 0).trans rfl
          have z1 : wr.cell? ⟨g, 1, none⟩ = some (.int .u16 r.f1) := (blk_cell HXr.out 1).trans rfl
          have z2 : wr.cell? ⟨g, 2, none⟩ = some (.int .u16 r.f2) := (blk_cell HXr.out 2).trans rfl
          have z3 : wr.cell? ⟨g, 3, none⟩ = some (.int .u32 r.f3) := (blk_cell HXr.out 3).trans rfl
          have z4 : wr.cell? ⟨g, 4, none⟩ = some (.slice A4 r.f4.length c4) := (blk_cell HXr.out 4).trans rfl
          have z5 : wr.cell? ⟨g, 5, none⟩ = some (.slice A5 r.f5.length c5) := (blk_cell HXr.out 5).trans rfl
          have z6 : wr.cell? ⟨g, 6, none⟩ = some (.slice A6 r.f6.length c6) := (blk_cell HXr.out 6).trans rfl
          by_cases hk : k < r.f4.length
          · obtain ⟨ad4, h4, hcell⟩ := at_str (Kd.C_below G4.out HWr.out.below) k hk
            subst h4
            have q1 : (0 : Int) ≤ (k : Int) := by omega
            have q2 : (k : Int) < (r.f4.length : Int) := by omega
            have hs := names_ok HC.out.2.2.2.1 hk
            have he := HE.out
            rw [drop_get ⟨#[]⟩ r.f4 k hk, List.foldl_cons] at he
            obtain ⟨s, hs'⟩ : ∃ s, r.f4.getD k ⟨#[]⟩ = s := ⟨_, rfl⟩
            rw [hs'] at hcell hs he
            have HE1 := Aside0.mk he
            have HSn := Lib.hid hs
            clear he hs hs' HE
            go_wp2_with fail
            refine (nameN_calls HWr.out HNr.out s HSn.out (by have := HLr.out; omega) (by omega)).mono ?_
            rintro e w4 ⟨rfl, hw4, ht4⟩
            have HW4 := Aside0.mk (hw4.more (N' := N + 256 * (k + 1)) (by omega))
            have HT4 := Aside0.mk (HTr.out.trans ht4)
            have HG4 := Aside0.mk ((ht4.2 g _ _ HXr.out (by decide) hgq hgm).trans HX.out.symm)
            have HL4 := Aside0.mk (Nat.le_trans (nameF_len (s.size + 1) p.1 p.2 s) (show p.1.length + s.size + 2 ≤ 9000010 + 300 * (k + 1) by have := HLr.out; have := isName_size HSn.out; omega))
            have HN4 := Aside0.mk (nameF_near (s.size + 1) p.1 p.2 s HNr.out)
            clear hw4 ht4 z0 z1 z2 z3 z4 z5 z6
            go_wp2_with fail
            go_roundw
            case rel => exact ⟨k + 1, nameN p s, by go_num, ⟨hk⟩, HE1, HN4, HL4, HW4, HT4, HG4⟩
            case measure => simp [intOf]; omega
          · have hk' : k = r.f4.length := by have := HK.out; omega
            have HF2 := Lib.hid (show p = R by rw [← HR.out, ← HE.out, hk', List.drop_length]; rfl)
            clear hk'
            go_wp2_with fail
            refine bodyPost_end (results_none rfl _ _ _) rfl ⟨rfl, ?_, HTr.out⟩
            rw [← HF2.out]
            exact HWr.out.more (by have := HK.out; omega)
end Go.Proofs.Ytbbeikdbioelgaa.M
