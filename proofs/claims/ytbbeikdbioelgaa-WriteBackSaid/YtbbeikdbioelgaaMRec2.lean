/- Walk of package dnswrite: record. -/
import Derived.Test.YtbbeikdbioelgaaMRecord
set_option linter.unusedVariables false
set_option linter.unusedSimpArgs false
namespace Go.Proofs.Ytbbeikdbioelgaa.M
open Go.RowKit Go.Maps Go.Proofs.YtbbeikdbioelgaaW.PrintWords Go.Proofs.YtbbeikdbioelgaaW.PrintLast Go.Proofs.YtbbeikdbioelgaaW.PrintMore
attribute [local go_sem] max2_int min2_int max_two min_two max_three min_three max_four min_four
attribute [local go_sem ↓] Go.wp_at_zero Go.wp_at_succ

theorem foldl_near {l : List ByteArray} (p : List Int × (List UInt8 → Option Int)) (h : Near p.2) : Near (l.foldl nameN p).2 := by
  induction l generalizing p with
  | nil => exact h
  | cons s l ih => exact ih _ (nameF_near _ _ _ _ h)
theorem nameF_pre (k : Nat) (out : List Int) (m : List UInt8 → Option Int) (s : ByteArray) : ∃ t, (nameF k out m s).1 = out ++ t := by
  induction k generalizing out m s with
  | zero => exact ⟨[], by simp [nameF]⟩
  | succ k ih =>
    unfold nameF
    by_cases h : s.size ≤ 1
    · rw [if_pos h]; exact ⟨_, rfl⟩
    · rw [if_neg h]
      cases m s.data.toList with
      | some a => exact ⟨_, rfl⟩
      | none =>
        obtain ⟨t, ht⟩ := ih (out ++ bytesOf (s.extract 0 (nb s 0 + 1))) (if out.length < 16384 then updS m s.data.toList out.length else m) (s.extract (nb s 0 + 1) s.size)
        exact ⟨_, by simp only []; rw [ht, List.append_assoc]⟩
theorem foldl_pre (l : List ByteArray) (p : List Int × (List UInt8 → Option Int)) : ∃ t, (l.foldl nameN p).1 = p.1 ++ t := by
  induction l generalizing p with
  | nil => exact ⟨[], by simp⟩
  | cons s l ih =>
    obtain ⟨t, ht⟩ := ih (nameN p s)
    obtain ⟨u, hu⟩ := nameF_pre (s.size + 1) p.1 p.2 s
    refine ⟨u ++ t, ?_⟩
    rw [List.foldl_cons, ht]
    show (nameF (s.size + 1) p.1 p.2 s).1 ++ t = _
    rw [hu, List.append_assoc]
theorem dataF_pre (p : List Int × (List UInt8 → Option Int)) (r : Rec) : ∃ t, (dataF p r).1 = p.1 ++ t := by
  unfold dataF
  split
  · exact ⟨_, rfl⟩
  · have key : ∀ a : List Int × (List UInt8 → Option Int), (∃ t, a.1 = p.1 ++ t) → ∃ t, (if r.f1 = 6 then ((r.f4.foldl nameN a).1 ++ r.f5.flatMap (fun n => putL n 4), (r.f4.foldl nameN a).2) else r.f4.foldl nameN a).1 = p.1 ++ t := by
      rintro a ⟨u, hu⟩
      obtain ⟨t, ht⟩ := foldl_pre r.f4 a
      split
      · exact ⟨u ++ (t ++ r.f5.flatMap (fun n => putL n 4)), by simp only []; rw [ht, hu]; simp only [List.append_assoc]⟩
      · exact ⟨u ++ t, by rw [ht, hu, List.append_assoc]⟩
    refine key _ ?_
    split
    · exact ⟨_, rfl⟩
    · exact ⟨[], by simp⟩
theorem foldl_len (l : List ByteArray) (p : List Int × (List UInt8 → Option Int)) (h : ∀ k, k < l.length → (l.getD k ⟨#[]⟩).size ≤ 255) : (l.foldl nameN p).1.length ≤ p.1.length + 257 * l.length := by
  induction l generalizing p with
  | nil => simp
  | cons s l ih =>
    have h1 := ih (nameN p s) (fun k hk => by simpa using h (k + 1) (by simpa using hk))
    have h2 := nameF_len (s.size + 1) p.1 p.2 s
    have h3 := h 0 (by simp)
    rw [List.getD_cons_zero] at h3
    rw [List.foldl_cons, List.length_cons]
    have h4 : (nameN p s).1.length ≤ p.1.length + s.size + 2 := h2
    omega
theorem dataF_len (p : List Int × (List UInt8 → Option Int)) {r : Rec} (hF : Fine r) (hc : checkF r = 0) : (dataF p r).1.length ≤ p.1.length + 70000 := by
  have HC := check_small hF hc
  have hsh := of_decide_eq_true (Bool.and_eq_true_iff.1 HC.2.2.2.2).1
  obtain ⟨s1, s2, s3⟩ := shapeOf_le r.f1
  have k4 : r.f4.length ≤ 2 := by omega
  have k5 : r.f5.length ≤ 5 := by omega
  unfold dataF
  split
  · have := plainS_size HC
    simp only [List.length_append, bytesOf_length]
    omega
  · have hn : ∀ k, k < r.f4.length → (r.f4.getD k ⟨#[]⟩).size ≤ 255 := fun k hk => isName_size (names_ok HC.2.2.2.1 hk)
    have h5 := nums_le r.f5 r.f5.length 4
    rw [List.take_length] at h5
    have key : ∀ a : List Int × (List UInt8 → Option Int), a.1.length ≤ p.1.length + 2 → (if r.f1 = 6 then ((r.f4.foldl nameN a).1 ++ r.f5.flatMap (fun n => putL n 4), (r.f4.foldl nameN a).2) else r.f4.foldl nameN a).1.length ≤ p.1.length + 70000 := by
      intro a ha
      have := foldl_len r.f4 a hn
      split
      · simp only [List.length_append]; omega
      · omega
    refine key _ ?_
    split
    · simp only [List.length_append, putL_length]; omega
    · omega
theorem dataF_near (p : List Int × (List UInt8 → Option Int)) (r : Rec) (h : Near p.2) : Near (dataF p r).2 := by
  unfold dataF
  split
  · exact h
  · have key : ∀ a : List Int × (List UInt8 → Option Int), Near a.2 → Near (if r.f1 = 6 then ((r.f4.foldl nameN a).1 ++ r.f5.flatMap (fun n => putL n 4), (r.f4.foldl nameN a).2) else r.f4.foldl nameN a).2 := by
      intro a ha
      split
      · exact foldl_near _ ha
      · exact foldl_near _ ha
    refine key _ ?_
    split <;> exact h

theorem u8w (x : Int) : IntKind.u8.wrap x = x % 256 := by simp [IntKind.wrap, IntKind.bits, IntKind.signed]
theorem own_form {w : World} {base : Nat} {ok : Nat → Prop} {v : Value} {xs : List Int} (h : B8 w base ok v xs) (hne : 0 < xs.length) : ∃ gb cap cur, v = .slice (some ⟨gb, 0, none⟩) xs.length cap ∧ w.heap[gb]? = some (.cells cur 5 (0, 0)) := by
  have ho := Kd.own_of_R h
  rcases ho.2 with ⟨rfl, hx⟩ | ⟨g, cap, cur, rfl, hb, hh, _⟩
  · omega
  · exact ⟨g, cap, cur, rfl, hh⟩
theorem cell8 {w : World} {base gb c : Nat} {ok : Nat → Prop} {xs : List Int} (h : B8 w base ok (.slice (some ⟨gb, 0, none⟩) xs.length c) xs) (k : Nat) (hk : k < xs.length) : w.cell? ⟨gb, k, none⟩ = some (.int .u8 (xs.getD k 0)) := by
  obtain ⟨A, c', he, _, hr⟩ := Kd.R_reads h
  obtain ⟨ad, hA, hc⟩ := at_int hr k hk
  injection he with h1 _ _
  rw [← h1] at hA
  rw [← Option.some.inj hA] at hc
  have ha : (⟨gb, 0, none⟩ : Addr).add k = ⟨gb, k, none⟩ := by unfold Addr.add; split <;> simp_all
  rwa [ha] at hc
/-- The numbers of a record lie in their kinds. -/
structure Wf (r : Rec) : Prop where
  t0 : 0 ≤ r.f1
  t1 : r.f1 ≤ 65535
  c0 : 0 ≤ r.f2
  c1 : r.f2 ≤ 65535
  l0 : 0 ≤ r.f3
  l1 : r.f3 ≤ 4294967295
def headF (p : List Int × (List UInt8 → Option Int)) (r : Rec) : List Int × (List UInt8 → Option Int) := ((nameN p r.f0).1 ++ putL r.f1 2 ++ putL r.f2 2 ++ putL r.f3 4, (nameN p r.f0).2)
/-- A record behind what is written. -/
def recordF (p : List Int × (List UInt8 → Option Int)) (r : Rec) : List Int × (List UInt8 → Option Int) :=
  let a := headF p r
  let d := dataF (a.1 ++ putL 0 2, a.2) r
  let n : Int := (d.1.length : Int) - (a.1.length : Int) - 2
  ((d.1.set a.1.length (n / 256 % 256)).set (a.1.length + 1) (n % 256), d.2)
theorem headF_len (p : List Int × (List UInt8 → Option Int)) {r : Rec} (h : isName r.f0 = true) : (headF p r).1.length ≤ p.1.length + 300 := by
  have h2 : (nameN p r.f0).1.length ≤ p.1.length + r.f0.size + 2 := nameF_len (r.f0.size + 1) p.1 p.2 r.f0
  have := isName_size h
  unfold headF
  simp only [List.length_append, putL_length]
  omega
theorem recordF_len (p : List Int × (List UInt8 → Option Int)) {r : Rec} (hF : Fine r) (hc : checkF r = 0) : (recordF p r).1.length ≤ p.1.length + 80000 := by
  have h1 := dataF_len ((headF p r).1 ++ putL 0 2, (headF p r).2) hF hc
  have h2 := headF_len p (check_small hF hc).2.2.1
  unfold recordF
  simp only [List.length_set]
  simp only [List.length_append, putL_length] at h1
  omega
theorem recordF_near (p : List Int × (List UInt8 → Option Int)) (r : Rec) (h : Near p.2) : Near (recordF p r).2 := dataF_near _ _ (nameF_near _ _ _ _ h)

theorem put8 {w0 w : World} {q mb N gb n c : Nat} {out : List Int} {cur : Array Value} {D : DataW Unit} (hx : w.heap[q]? = some (.cells #[.slice (some ⟨gb, 0, none⟩) n c, .map (some mb)] 67 (0, 0)))
    (ho : B8 w w0.heap.size (fun _ => True) (.slice (some ⟨gb, 0, none⟩) n c) out) (hM : w.ownsMap Try.prog 9 (plainElem Try.prog 3) mb N D) (hcur : w.heap[gb]? = some (.cells cur 5 (0, 0))) (hb : Below w0.heap.size w0 w) (k : Nat) (x : Int) :
    (w.setCell ⟨gb, k, none⟩ (.int .u8 x)).heap[q]? = some (.cells #[.slice (some ⟨gb, 0, none⟩) n c, .map (some mb)] 67 (0, 0)) ∧ B8 (w.setCell ⟨gb, k, none⟩ (.int .u8 x)) w0.heap.size (fun _ => True) (.slice (some ⟨gb, 0, none⟩) n c) (out.set k x) ∧
    (w.setCell ⟨gb, k, none⟩ (.int .u8 x)).ownsMap Try.prog 9 (plainElem Try.prog 3) mb N D ∧ (∃ cur', (w.setCell ⟨gb, k, none⟩ (.int .u8 x)).heap[gb]? = some (.cells cur' 5 (0, 0))) ∧ Below w0.heap.size w0 (w.setCell ⟨gb, k, none⟩ (.int .u8 x)) := by
  have hq : q ≠ gb := blk_ne hx hcur (by decide)
  refine ⟨blk_far hx (p := ⟨gb, k, none⟩) hq _, ?_, mapOf_far hM (Below.heap_setCell w _ _ mb ?_), ⟨_, blk_set hcur k _⟩, hb.setCell ?_ _⟩
  · have := Kd.R_putn (enc := Value.int .u8) ho (k : Int) x
    rw [Int.toNat_natCast] at this
    exact this
  · intro e
    exact map_ne hM ho (by rw [e]; rfl)
  · exact own_base (Kd.own_of_R ho) gb rfl
set_option maxHeartbeats 4000000 in
set_option maxRecDepth 100000 in
theorem record_calls {w0 w : World} {q mb N : Nat} {p : List Int × (List UInt8 → Option Int)} (h : WAt w0 w q mb p.1 p.2 N) (hn : Near p.2) (r : Rec) (v : Value) (hv : RecAt w0 v r) (hF : Fine r) (hW : Wf r) (hc : checkF r = 0) (hl : p.1.length ≤ 1000000) (hN : N ≤ 800000) :
    Calls Try.prog 35 #[.pointer (some ⟨q, 0, none⟩), v] w fun e w' => e = .returned (.tuple #[]) ∧ WAt w0 w' q mb (recordF p r).1 (recordF p r).2 (N + 1024) := by
  have HV := Aside0.mk hv
  obtain ⟨A4, c4, A5, c5, A6, c6, rfl, l4, g4, l5, g5, l6, g6⟩ := hv
  have HF := Aside0.mk hF
  have HW := Aside0.mk h
  have HN := Aside0.mk hn
  have HC := Lib.hid hc
  have HNm := Lib.hid (check_small hF hc).2.2.1
  have HL := Aside0.mk hl
  have HQ := Aside0.mk h.lt
  have hh0 := headF_len p (check_small hF hc).2.2.1
  obtain ⟨u, hu⟩ := dataF_pre ((headF p r).1 ++ putL 0 2, (headF p r).2) r
  have hlh := headF_len p (check_small hF hc).2.2.1
  have hld := dataF_len ((headF p r).1 ++ putL 0 2, (headF p r).2) hF hc
  obtain ⟨R, hR⟩ : ∃ R, recordF p r = R := ⟨_, rfl⟩
  rw [hR]
  unfold recordF at hR
  obtain ⟨⟨o4, m4⟩, h4⟩ : ∃ x, headF p r = x := ⟨_, rfl⟩
  simp only [h4] at hu hlh hld hR
  obtain ⟨⟨o6, m6⟩, h6⟩ : ∃ x, dataF (o4 ++ putL 0 2, m4) r = x := ⟨_, rfl⟩
  simp only [h6] at hu hld hR
  have H4 := Lib.hid h4
  have H6 := Lib.hid h6
  have HU := Lib.hid hu
  have HR := Lib.hid hR
  have HLh := Aside0.mk hlh
  have HLd := Aside0.mk hld
  obtain ⟨w01, w02, w03, w04, w05, w06⟩ := hW
  have HL2 := Aside0.mk (show (nameN p r.f0).1.length ≤ 1001000 by unfold headF at hh0; simp only [List.length_append, putL_length] at hh0; omega)
  clear g4 g5 g6 hF h hn hc hl hu hlh hld hR h4 h6 hh0
  go_enter Try.func35, Try.ntmps35
  go_wp2_with (((with_reducible refine gate_dst (N := 3) rfl ?_); refine box_event rfl (N := 3) rfl (cs := #[.string r.f0, .int .u16 r.f1, .int .u16 r.f2, .int .u32 r.f3, .slice A4 r.f4.length c4, .slice A5 r.f5.length c5, .slice A6 r.f6.length c6]) (t := 44) (by first | (go_simp; done) | (go_simp; rfl)) ?_; intro g hg w1 hbox hb); have HX := Aside0.mk hbox; have HB := Aside0.mk hb; have HGe := Aside0.mk hg; clear hb hg; have z0 : w1.cell? ⟨g, 0, none⟩ = some (.string r.f0) := (blk_cell HX.out 0).trans rfl; clear hbox; have z1 : w1.cell? ⟨g, 1, none⟩ = some (.int .u16 r.f1) := (blk_cell HX.out 1).trans rfl; have z2 : w1.cell? ⟨g, 2, none⟩ = some (.int .u16 r.f2) := (blk_cell HX.out 2).trans rfl; have z3 : w1.cell? ⟨g, 3, none⟩ = some (.int .u32 r.f3) := (blk_cell HX.out 3).trans rfl; have z4 : w1.cell? ⟨g, 4, none⟩ = some (.slice A4 r.f4.length c4) := (blk_cell HX.out 4).trans rfl; have z5 : w1.cell? ⟨g, 5, none⟩ = some (.slice A5 r.f5.length c5) := (blk_cell HX.out 5).trans rfl; have z6 : w1.cell? ⟨g, 6, none⟩ = some (.slice A6 r.f6.length c6) := (blk_cell HX.out 6).trans rfl)
  have hgq : g ≠ q := by rw [HGe.out]; have := HQ.out.1; omega
  have hgm : g ≠ mb := by rw [HGe.out]; have := HQ.out.2; omega
  refine (nameN_calls (HW.out.alloc HB.out) HN.out r.f0 HNm.out (by have := HL.out; omega) (by omega)).mono ?_
  rintro e w2 ⟨rfl, hw2, ht2⟩
  have HW2 := Aside0.mk hw2
  have HX2 := Aside0.mk (ht2.2 g _ _ HX.out (by decide) hgq hgm)
  clear hw2 ht2 z0 z1 z2 z3 z4 z5 z6
  have z0 : w2.cell? ⟨g, 0, none⟩ = some (.string r.f0) := (blk_cell HX2.out 0).trans rfl
  have z1 : w2.cell? ⟨g, 1, none⟩ = some (.int .u16 r.f1) := (blk_cell HX2.out 1).trans rfl
  have z2 : w2.cell? ⟨g, 2, none⟩ = some (.int .u16 r.f2) := (blk_cell HX2.out 2).trans rfl
  have z3 : w2.cell? ⟨g, 3, none⟩ = some (.int .u32 r.f3) := (blk_cell HX2.out 3).trans rfl
  have z4 : w2.cell? ⟨g, 4, none⟩ = some (.slice A4 r.f4.length c4) := (blk_cell HX2.out 4).trans rfl
  have z5 : w2.cell? ⟨g, 5, none⟩ = some (.slice A5 r.f5.length c5) := (blk_cell HX2.out 5).trans rfl
  have z6 : w2.cell? ⟨g, 6, none⟩ = some (.slice A6 r.f6.length c6) := (blk_cell HX2.out 6).trans rfl
  go_wp2_with fail
  refine (num_calls HW2.out r.f1 2 (by decide) (by decide) w01 (by omega) (by have := HL2.out; omega)).mono ?_
  rintro e w3 ⟨rfl, hw3, ht3⟩
  have HW3 := Aside0.mk hw3
  have HX3 := Aside0.mk (ht3.2 g _ _ HX2.out (by decide) hgq hgm)
  clear hw3 ht3 z0 z1 z2 z3 z4 z5 z6
  have z0 : w3.cell? ⟨g, 0, none⟩ = some (.string r.f0) := (blk_cell HX3.out 0).trans rfl
  have z1 : w3.cell? ⟨g, 1, none⟩ = some (.int .u16 r.f1) := (blk_cell HX3.out 1).trans rfl
  have z2 : w3.cell? ⟨g, 2, none⟩ = some (.int .u16 r.f2) := (blk_cell HX3.out 2).trans rfl
  have z3 : w3.cell? ⟨g, 3, none⟩ = some (.int .u32 r.f3) := (blk_cell HX3.out 3).trans rfl
  have z4 : w3.cell? ⟨g, 4, none⟩ = some (.slice A4 r.f4.length c4) := (blk_cell HX3.out 4).trans rfl
  have z5 : w3.cell? ⟨g, 5, none⟩ = some (.slice A5 r.f5.length c5) := (blk_cell HX3.out 5).trans rfl
  have z6 : w3.cell? ⟨g, 6, none⟩ = some (.slice A6 r.f6.length c6) := (blk_cell HX3.out 6).trans rfl
  go_wp2_with fail
  refine (num_calls HW3.out r.f2 2 (by decide) (by decide) w03 (by omega) (by have := HL2.out; rw [List.length_append, putL_length]; omega)).mono ?_
  rintro e w4 ⟨rfl, hw4, ht4⟩
  have HW4 := Aside0.mk hw4
  have HX4 := Aside0.mk (ht4.2 g _ _ HX3.out (by decide) hgq hgm)
  clear hw4 ht4 z0 z1 z2 z3 z4 z5 z6
  have z0 : w4.cell? ⟨g, 0, none⟩ = some (.string r.f0) := (blk_cell HX4.out 0).trans rfl
  have z1 : w4.cell? ⟨g, 1, none⟩ = some (.int .u16 r.f1) := (blk_cell HX4.out 1).trans rfl
  have z2 : w4.cell? ⟨g, 2, none⟩ = some (.int .u16 r.f2) := (blk_cell HX4.out 2).trans rfl
  have z3 : w4.cell? ⟨g, 3, none⟩ = some (.int .u32 r.f3) := (blk_cell HX4.out 3).trans rfl
  have z4 : w4.cell? ⟨g, 4, none⟩ = some (.slice A4 r.f4.length c4) := (blk_cell HX4.out 4).trans rfl
  have z5 : w4.cell? ⟨g, 5, none⟩ = some (.slice A5 r.f5.length c5) := (blk_cell HX4.out 5).trans rfl
  have z6 : w4.cell? ⟨g, 6, none⟩ = some (.slice A6 r.f6.length c6) := (blk_cell HX4.out 6).trans rfl
  go_wp2_with fail
  refine (num_calls HW4.out r.f3 4 (by decide) (by decide) w05 (by omega) (by have := HL2.out; rw [List.length_append, putL_length, List.length_append, putL_length]; omega)).mono ?_
  rintro e w5 ⟨rfl, hw5, ht5⟩
  have HW5 := Aside0.mk (show WAt w0 w5 q mb o4 m4 (N + 256) by have e := hw5; have e4 := H4.out; unfold headF at e4; injection e4 with e5 e6; rw [← e5, ← e6]; exact e)
  have HX5 := Aside0.mk (ht5.2 g _ _ HX4.out (by decide) hgq hgm)
  have HL4 := Aside0.mk (show o4.length ≤ 1000300 by have := HLh.out; have := HL.out; omega)
  obtain ⟨⟨v, hcell, ho⟩, _⟩ := HW5.out
  obtain ⟨A, c, rfl, _, _⟩ := Kd.R_reads ho
  have y0 : w5.cell? ⟨q, 0, none⟩ = some (.slice A o4.length c) := (blk_cell hcell 0).trans rfl
  clear hw5 ht5 z0 z1 z2 z3 z4 z5 z6 hcell ho
  have z0 : w5.cell? ⟨g, 0, none⟩ = some (.string r.f0) := (blk_cell HX5.out 0).trans rfl
  have z1 : w5.cell? ⟨g, 1, none⟩ = some (.int .u16 r.f1) := (blk_cell HX5.out 1).trans rfl
  have z2 : w5.cell? ⟨g, 2, none⟩ = some (.int .u16 r.f2) := (blk_cell HX5.out 2).trans rfl
  have z3 : w5.cell? ⟨g, 3, none⟩ = some (.int .u32 r.f3) := (blk_cell HX5.out 3).trans rfl
  have z4 : w5.cell? ⟨g, 4, none⟩ = some (.slice A4 r.f4.length c4) := (blk_cell HX5.out 4).trans rfl
  have z5 : w5.cell? ⟨g, 5, none⟩ = some (.slice A5 r.f5.length c5) := (blk_cell HX5.out 5).trans rfl
  have z6 : w5.cell? ⟨g, 6, none⟩ = some (.slice A6 r.f6.length c6) := (blk_cell HX5.out 6).trans rfl
  go_wp2_with fail
  refine (num_calls HW5.out 0 2 (by decide) (by decide) (by decide) (by decide) (by have := HL4.out; omega)).mono ?_
  rintro e w6 ⟨rfl, hw6, ht6⟩
  have HW6 := Aside0.mk (show WAt w0 w6 q mb (o4 ++ putL 0 2) m4 (N + 256) from hw6)
  have HX6 := Aside0.mk (ht6.2 g _ _ HX5.out (by decide) hgq hgm)
  clear hw6 ht6 z0 z1 z2 z3 z4 z5 z6 y0
  have z0 : w6.cell? ⟨g, 0, none⟩ = some (.string r.f0) := (blk_cell HX6.out 0).trans rfl
  have z1 : w6.cell? ⟨g, 1, none⟩ = some (.int .u16 r.f1) := (blk_cell HX6.out 1).trans rfl
  have z2 : w6.cell? ⟨g, 2, none⟩ = some (.int .u16 r.f2) := (blk_cell HX6.out 2).trans rfl
  have z3 : w6.cell? ⟨g, 3, none⟩ = some (.int .u32 r.f3) := (blk_cell HX6.out 3).trans rfl
  have z4 : w6.cell? ⟨g, 4, none⟩ = some (.slice A4 r.f4.length c4) := (blk_cell HX6.out 4).trans rfl
  have z5 : w6.cell? ⟨g, 5, none⟩ = some (.slice A5 r.f5.length c5) := (blk_cell HX6.out 5).trans rfl
  have z6 : w6.cell? ⟨g, 6, none⟩ = some (.slice A6 r.f6.length c6) := (blk_cell HX6.out 6).trans rfl
  go_wp2_with fail
  refine (data_calls (p := (o4 ++ putL 0 2, m4)) HW6.out (by have e4 := H4.out; unfold headF at e4; injection e4 with e5 e6; rw [← e6]; exact nameF_near _ _ _ _ HN.out) r _ HV.out HF.out HC.out (by have := HL4.out; rw [List.length_append, putL_length]; omega) (by omega)).mono ?_
  rw [H6.out]
  rintro e w7 ⟨rfl, hw7, ht7⟩
  have HW7 := Aside0.mk (show WAt w0 w7 q mb o6 m6 (N + 1024) from hw7.more (by omega))
  have HX7 := Aside0.mk (ht7.2 g _ _ HX6.out (by decide) hgq hgm)
  obtain ⟨⟨v, hcell, ho⟩, ⟨D, hmap, hrep⟩, hg, hmb, hne, hb⟩ := HW7.out
  obtain ⟨gb, c, cur, rfl, hcur⟩ := own_form ho (by have e := congrArg List.length HU.out; simp only [List.length_append, putL_length] at e; omega)
  have y0 : w7.cell? ⟨q, 0, none⟩ = some (.slice (some ⟨gb, 0, none⟩) o6.length c) := (blk_cell hcell 0).trans rfl
  have HL6 := Aside0.mk (show o4.length + 2 ≤ o6.length ∧ o6.length ≤ 1100000 by have e := congrArg List.length HU.out; have := HLd.out; have := HL4.out; simp only [List.length_append, putL_length] at *; omega)
  have q0 : (o4.length : Int) ≤ 1000300 := by have := HL4.out; omega
  have q1 : (o6.length : Int) ≤ 1100000 := by have := HL6.out.2; omega
  have q2 : (o4.length : Int) + 2 ≤ (o6.length : Int) := by have := HL6.out.1; omega
  have q3 : 0 ≤ (o6.length : Int) - (o4.length : Int) - 2 := by omega
  clear hw7 ht7 z0 z1 z2 z3 z4 z5 z6
  go_wp2_with fail
  have r1 : o4.length < o6.length := by have := HL6.out.1; omega
  have r2 : (o4.length : Int) + 1 < (o6.length : Int) := by omega
  have r3 : (0 : Int) ≤ (o4.length : Int) + 1 := by omega
  have hw1 : IntKind.i64.wrap ((o4.length : Int) + 1) = (o4.length : Int) + 1 := by rw [IntKind.wrap_i64]; omega
  have hw2 : ((o4.length : Int) + 1).toNat = o4.length + 1 := by omega
  have c1 := cell8 ho o4.length (by have := HL6.out.1; omega)
  have c2 := cell8 ho (o4.length + 1) (by have := HL6.out.1; omega)
  have f1 : w7.frozen? ⟨gb, o4.length, none⟩ = false := blk_frozen hcur _
  have f2 : w7.frozen? ⟨gb, o4.length + 1, none⟩ = false := blk_frozen hcur _
  refine start_ (n := 20) (S := fun w' => w'.cell? ⟨q, 0, none⟩ = some (.slice (some ⟨gb, 0, none⟩) o6.length c)) (ds := [17, 19]) (Array.replicate 20 false) (by kernel_rfl) (by kernel_rfl) rfl y0 (fun hS => ?_)
  refine dpure 0 (some 43) rfl rfl (by kernel_rfl) (fun _ _ _ h => h) (by rfl) (v := ?_) (a' := ?_) ?_ ?_ ?_
  rotate_left 2
  · intro w'; go_simp; with_reducible rfl
  · simp only [Act.put, List.setIfInBounds_toArray, List.set_cons_zero, List.set_cons_succ]; rfl
  refine dpure 1 (some 44) rfl rfl (by kernel_rfl) (fun _ _ _ h => h) (by rfl) (v := ?_) (a' := ?_) ?_ ?_ ?_
  rotate_left 2
  · intro w'; go_simp; with_reducible rfl
  · simp only [Act.put, List.setIfInBounds_toArray, List.set_cons_zero, List.set_cons_succ]; rfl
  refine dpure 2 (some 45) rfl rfl (by kernel_rfl) (fun _ _ _ h => h) (by rfl) (v := ?_) (a' := ?_) ?_ ?_ ?_
  rotate_left 2
  · intro w'; go_simp; with_reducible rfl
  · simp only [Act.put, List.setIfInBounds_toArray, List.set_cons_zero, List.set_cons_succ]; rfl
  refine dtake 3 (some 46) rfl rfl (by kernel_rfl) (fun _ _ _ h => h) (by rfl) hS (v := ?_) (a' := ?_) ?_ ?_ ?_
  rotate_left 2
  · rintro w' s0; go_simp; with_reducible rfl
  · simp only [Act.put, List.setIfInBounds_toArray, List.set_cons_zero, List.set_cons_succ]; rfl
  refine dpure 4 (some 47) rfl rfl (by kernel_rfl) (fun _ _ _ h => h) (by rfl) (v := ?_) (a' := ?_) ?_ ?_ ?_
  rotate_left 2
  · intro w'; go_simp; with_reducible rfl
  · simp only [Act.put, List.setIfInBounds_toArray, List.set_cons_zero, List.set_cons_succ]; rfl
  refine dpure 5 (some 48) rfl rfl (by kernel_rfl) (fun _ _ _ h => h) (by rfl) (v := ?_) (a' := ?_) ?_ ?_ ?_
  rotate_left 2
  · intro w'; go_simp; with_reducible rfl
  · simp only [Act.put, List.setIfInBounds_toArray, List.set_cons_zero, List.set_cons_succ]; rfl
  refine dpure 6 (some 49) rfl rfl (by kernel_rfl) (fun _ _ _ h => h) (by rfl) (v := ?_) (a' := ?_) ?_ ?_ ?_
  rotate_left 2
  · intro w'; go_simp; with_reducible rfl
  · simp only [Act.put, List.setIfInBounds_toArray, List.set_cons_zero, List.set_cons_succ]; rfl
  refine dpure 7 (some 50) rfl rfl (by kernel_rfl) (fun _ _ _ h => h) (by rfl) (v := ?_) (a' := ?_) ?_ ?_ ?_
  rotate_left 2
  · intro w'; go_simp; with_reducible rfl
  · simp only [Act.put, List.setIfInBounds_toArray, List.set_cons_zero, List.set_cons_succ]; rfl
  refine dtake 8 (some 51) rfl rfl (by kernel_rfl) (fun _ _ _ h => h) (by rfl) hS (v := ?_) (a' := ?_) ?_ ?_ ?_
  rotate_left 2
  · rintro w' s0; go_simp; with_reducible rfl
  · simp only [Act.put, List.setIfInBounds_toArray, List.set_cons_zero, List.set_cons_succ]; rfl
  refine dpure 9 (some 52) rfl rfl (by kernel_rfl) (fun _ _ _ h => h) (by rfl) (v := ?_) (a' := ?_) ?_ ?_ ?_
  rotate_left 2
  · intro w'; go_simp; with_reducible rfl
  · simp only [Act.put, List.setIfInBounds_toArray, List.set_cons_zero, List.set_cons_succ]; rfl
  refine dpure 10 (some 53) rfl rfl (by kernel_rfl) (fun _ _ _ h => h) (by rfl) (v := ?_) (a' := ?_) ?_ ?_ ?_
  rotate_left 2
  · intro w'; go_simp; with_reducible rfl
  · simp only [Act.put, List.setIfInBounds_toArray, List.set_cons_zero, List.set_cons_succ]; rfl
  refine dpure 11 (some 54) rfl rfl (by kernel_rfl) (fun _ _ _ h => h) (by rfl) (v := ?_) (a' := ?_) ?_ ?_ ?_
  rotate_left 2
  · intro w'; go_simp; with_reducible rfl
  · simp only [Act.put, List.setIfInBounds_toArray, List.set_cons_zero, List.set_cons_succ]; rfl
  refine dpure 12 (some 55) rfl rfl (by kernel_rfl) (fun _ _ _ h => h) (by rfl) (v := ?_) (a' := ?_) ?_ ?_ ?_
  rotate_left 2
  · intro w'; go_simp; with_reducible rfl
  · simp only [Act.put, List.setIfInBounds_toArray, List.set_cons_zero, List.set_cons_succ]; rfl
  refine dpure 13 (some 56) rfl rfl (by kernel_rfl) (fun _ _ _ h => h) (by rfl) (v := ?_) (a' := ?_) ?_ ?_ ?_
  rotate_left 2
  · intro w'; go_simp; with_reducible rfl
  · simp only [Act.put, List.setIfInBounds_toArray, List.set_cons_zero, List.set_cons_succ]; rfl
  refine dpure 14 (some 57) rfl rfl (by kernel_rfl) (fun _ _ _ h => h) (by rfl) (v := ?_) (a' := ?_) ?_ ?_ ?_
  rotate_left 2
  · intro w'; go_simp; with_reducible rfl
  · simp only [Act.put, List.setIfInBounds_toArray, List.set_cons_zero, List.set_cons_succ]; rfl
  refine dpure 15 (some 58) rfl rfl (by kernel_rfl) (fun _ _ _ h => h) (by rfl) (v := ?_) (a' := ?_) ?_ ?_ ?_
  rotate_left 2
  · intro w'; go_simp; with_reducible rfl
  · simp only [Act.put, List.setIfInBounds_toArray, List.set_cons_zero, List.set_cons_succ]; rfl
  refine dpure 16 (some 59) rfl rfl (by kernel_rfl) (fun _ _ _ h => h) (by rfl) (v := ?_) (a' := ?_) ?_ ?_ ?_
  rotate_left 2
  · intro w'; go_simp; with_reducible rfl
  · simp only [Act.put, List.setIfInBounds_toArray, List.set_cons_zero, List.set_cons_succ]; rfl
  refine dlast 17 (Array.getElem?_eq_getElem (by decide)) (by kernel_rfl) (by decide) ?_
  intro K hK
  refine dskip (w1 := w7.drew.setCell ⟨gb, o4.length, none⟩ (.int .u8 (((o6.length : Int) - (o4.length : Int) - 2) / 256 % 256))) (by kernel_rfl) (by kernel_rfl) ?_ ?_
  · go_simp; rw [u8w]
  refine hK.out _ _ ?_
  clear hK K
  refine dpure 18 (some 60) rfl rfl (by kernel_rfl) (fun _ _ _ h => h) (by rfl) (v := ?_) (a' := ?_) ?_ ?_ ?_
  rotate_left 2
  · intro w'; go_simp; with_reducible rfl
  · simp only [Act.put, List.setIfInBounds_toArray, List.set_cons_zero, List.set_cons_succ]; rfl
  refine dlast 19 (Array.getElem?_eq_getElem (by decide)) (by kernel_rfl) (by decide) ?_
  intro K hK
  refine dskip (w1 := (w7.drew.setCell ⟨gb, o4.length, none⟩ (.int .u8 (((o6.length : Int) - (o4.length : Int) - 2) / 256 % 256))).setCell ⟨gb, o4.length + 1, none⟩ (.int .u8 (((o6.length : Int) - (o4.length : Int) - 2) % 256))) (by kernel_rfl) (by kernel_rfl) ?_ ?_
  · go_simp; rw [u8w]
  refine hK.out _ _ (done_ (by kernel_rfl) ?_)
  clear hK K
  obtain ⟨a1, a2, a3, ⟨cur1, a4⟩, a5⟩ := put8 (w := w7.drew) (blk_drew hcell) (Kd.R_drew ho) (mapOf_far hmap rfl) (blk_drew hcur) hb.drew o4.length (((o6.length : Int) - (o4.length : Int) - 2) / 256 % 256)
  obtain ⟨b1, b2, b3, _, b5⟩ := put8 a1 a2 a3 a4 a5 (o4.length + 1) (((o6.length : Int) - (o4.length : Int) - 2) % 256)
  go_end0
  refine ⟨rfl, ?_⟩
  rw [← HR.out]
  exact ⟨⟨_, b1, b2⟩, ⟨D, b3, hrep⟩, hg, hmb, hne, b5⟩
end Go.Proofs.Ytbbeikdbioelgaa.M
