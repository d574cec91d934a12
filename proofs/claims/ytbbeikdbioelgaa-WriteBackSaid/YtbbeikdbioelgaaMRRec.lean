/- Walks of package dnsread: record, records. -/
import Derived.Test.YtbbeikdbioelgaaMRFine
set_option linter.unusedVariables false
set_option linter.unusedSimpArgs false
namespace Go.Proofs.Ytbbeikdbioelgaa.M
open Go.RowKit Go.Maps Go.Proofs.YtbbeikdbioelgaaW.PrintWords Go.Proofs.YtbbeikdbioelgaaW.PrintLast Go.Proofs.YtbbeikdbioelgaaW.PrintMore
attribute [local go_sem] max2_int min2_int max_two min_two max_three min_three max_four min_four
attribute [local go_sem ↓] Go.wp_at_zero Go.wp_at_succ
theorem Only.two {w0 w w1 : World} {g h : Nat} (h0 : Only g w0 w) (ht : Two g h w w1) (hh : w0.heap.size ≤ h) : Only g w0 w1 :=
  ⟨ht.os.trans h0.os, ht.tape.trans h0.tape, ht.output.trans h0.output, Nat.le_trans h0.size ht.size, fun k hk hg => (ht.block k (Nat.lt_of_lt_of_le hk h0.size) hg (by omega)).trans (h0.block k hk hg)⟩
theorem SAt.two {w w1 : World} {g h r : Nat} {cs : Array Value} {T : Nat} (hx : SAt w r cs T) (ht : Two g h w w1) (hg : r ≠ g) (hh : r ≠ h) : SAt w1 r cs T := (ht.block r hx.lt hg hh).trans hx
theorem RecP.below {B : Nat} {r : Rec} {v : Value} {w w1 : World} (h : RecP B r v w) (hb : Below w.heap.size w w1) : RecP B r v w1 := by
  obtain ⟨v4, v5, v6, h1, h4, h5, h6⟩ := h
  exact ⟨v4, v5, v6, h1, Kd.R_below h4 hb, Kd.R_below h5 hb, Kd.R_below h6 hb⟩
theorem RecP.set {B : Nat} {rc : Rec} {v : Value} {w : World} {r : Nat} {cs : Array Value} (h : RecP B rc v w) (hx : SAt w r cs 44) (j : Nat) (u : Value) : RecP B rc v (w.setCell ⟨r, j, none⟩ u) := by
  obtain ⟨v4, v5, v6, h1, h4, h5, h6⟩ := h
  exact ⟨v4, v5, v6, h1, Kd.R_set h4 hx (by decide) j u, Kd.R_set h5 hx (by intro q hq; rw [show q = 41 by simpa [Kd.int, Kd.scalar] using hq]; decide) j u, Kd.R_set h6 hx (by decide) j u⟩
/-- What holds while a result is laid. -/
structure Laying (w0 w : World) (g r : Nat) (s : ByteArray) (a : Int) (cs : Array Value) (T : Nat) : Prop where
  v : SAt w r cs T
  rd : RAt w g s a
  o : Only g w0 w
  ne : r ≠ g
  sz : w0.heap.size ≤ r
theorem Laying.step {w0 w : World} {g r : Nat} {s : ByteArray} {a : Int} {cs : Array Value} {T : Nat} (h : Laying w0 w g r s a cs T) (j : Nat) (u : Value) : Laying w0 (w.setCell ⟨r, j, none⟩ u) g r s a (cs.setIfInBounds j u) T :=
  ⟨h.v.set j u, h.rd.far (Ne.symm h.ne) j u, h.o.setNew h.sz j u, h.ne, h.sz⟩
set_option maxHeartbeats 8000000 in
set_option maxRecDepth 100000 in
theorem record_reads {w : World} {g : Nat} {s : ByteArray} {a : Int} (h : RAt w g s a) (hs : s.size ≤ 1000000) (h0 : 0 ≤ a) (ha : a ≤ s.size) :
    Calls Try.prog 80 #[.pointer (some ⟨g, 0, none⟩)] w fun e w' => Ends (RecP w.heap.size) (recR s a) w g s e w' := by
  obtain ⟨R, hR⟩ : ∃ R, recR s a = R := ⟨_, rfl⟩
  rw [hR]
  unfold recR at hR
  have HR := Aside0.mk h
  have HSm := Lib.hid hs
  clear h
  go_enter Try.func80, Try.ntmps80
  go_wp2_with fail
  have HV := Aside0.mk (SAt.new w #[.string ⟨#[]⟩, .int .u16 0, .int .u16 0, .int .u32 0, .slice none 0 0, .slice none 0 0, .slice none 0 0] 44)
  refine (name_calls' (HR.out.below (below_alloc (Below.refl _ _) _)) hs (by omega) (by omega)).mono ?_
  intro e w2 ht
  have HO := Aside0.mk (((Only.refl g w).alloc _).trans ht.only)
  have HV2 := Aside0.mk (HV.out.only (HR.out.below (below_alloc (Below.refl _ _) _)) (by decide) ht.only)
  cases hn : nameAt s a with
  | error c =>
    rw [hn] at hR
    obtain rfl := ht.bad c hn
    exact ⟨rfl, Ends.err hR.symm HO.out⟩
  | ok x =>
    obtain ⟨b, a1⟩ := x
    rw [hn] at hR
    obtain ⟨rfl, hr2⟩ := ht.good b a1 hn
    clear ht hn
    simp only [] at hR
    obtain ⟨t0, ht0⟩ : ∃ t0, strOfNums b = t0 := ⟨_, rfl⟩
    rw [ht0] at hR ⊢
    go_wp2_with fail
    have HQ3 := Aside0.mk (SAt.new w2 #[.string t0, .int .u16 0, .int .u16 0, .int .u32 0, .slice none 0 0, .slice none 0 0, .slice none 0 0] 44)
    have HR3 := Aside0.mk (hr2.below (below_alloc (Below.refl _ _) (.cells #[.string t0, .int .u16 0, .int .u16 0, .int .u32 0, .slice none 0 0, .slice none 0 0, .slice none 0 0] 44 (0, 0))))
    have HO3 := Aside0.mk (HO.out.alloc (.cells #[.string t0, .int .u16 0, .int .u16 0, .int .u32 0, .slice none 0 0, .slice none 0 0, .slice none 0 0] 44 (0, 0)))
    have HV3 := Aside0.mk (HV2.out.below (below_alloc (Below.refl _ _) (.cells #[.string t0, .int .u16 0, .int .u16 0, .int .u32 0, .slice none 0 0, .slice none 0 0, .slice none 0 0] 44 (0, 0))))
    have HSz := Lib.hid (show w.heap.size ≤ w2.heap.size ∧ w.heap.size ≤ w.heap.size from ⟨HO.out.size, Nat.le_refl _⟩)
    have HLt := Lib.hid (show w.heap.size ≤ w2.heap.size ∧ w.heap.size ≠ w2.heap.size from ⟨HO.out.size, by have := HV2.out.lt; omega⟩)
    clear hr2 HO HV2
    generalize hW : w2.alloc (.cells #[.string t0, .int .u16 0, .int .u16 0, .int .u32 0, .slice none 0 0, .slice none 0 0, .slice none 0 0] 44 (0, 0)) = w3 at *
    obtain ⟨q, hq⟩ : ∃ q, w2.heap.size = q := ⟨_, rfl⟩
    obtain ⟨r, hr⟩ : ∃ r, w.heap.size = r := ⟨_, rfl⟩
    rw [hq] at HQ3 HLt HSz
    have HSz := Lib.hid (show w.heap.size ≤ q ∧ w.heap.size ≤ r from ⟨HSz.out.1, by omega⟩)
    have HRr := Lib.hid hr
    rw [hr] at HLt HV3
    rw [hq]
    rw [hr]
    clear hq hr hW HV HR
    have hgq := HQ3.out.ne HR3.out (by decide)
    have hgr := HV3.out.ne HR3.out (by decide)
    cases h1 : getF s a1 2 with
    | none =>
      rw [h1] at hR
      refine (num_no HR3.out hs h1).mono ?_
      rintro e w' ⟨rfl, ho⟩
      exact ⟨rfl, Ends.err hR.symm (HO3.out.trans ho)⟩
    | some t =>
      rw [h1] at hR
      simp only [] at hR
      obtain ⟨t0', t1', _, _, hwt⟩ := get2 h1
      refine (num_yes HR3.out hs h1).mono ?_
      rintro e w4 ⟨rfl, hr, ho⟩
      have HQ4 := HQ3.out.only HR3.out (by decide) ho
      have HV4 := HV3.out.only HR3.out (by decide) ho
      have HO4 := HO3.out.trans ho
      clear HR3 HQ3 HV3 HO3
      clear h1
      have y := HQ4.is 1 rfl
      have f := HQ4.frozen 1
      go_wp2_with fail
      have HR5 := Aside0.mk (hr.far (Ne.symm hgq) 1 (.int .u16 t))
      have HO5 := Aside0.mk (HO4.setNew HSz.out.1 1 (.int .u16 t))
      have HV5 := Aside0.mk (HV4.far HLt.out.2 1 (.int .u16 t))
      have HQ5 := Aside0.mk (show SAt (w4.setCell ⟨q, 1, none⟩ (.int .u16 t)) q #[.string t0, .int .u16 t, .int .u16 0, .int .u32 0, .slice none 0 0, .slice none 0 0, .slice none 0 0] 44 from HQ4.set 1 (.int .u16 t))
      clear hr HO4 HV4 HQ4 ho y f
      generalize hW : w4.setCell ⟨q, 1, none⟩ (.int .u16 t) = w5 at *
      clear hW
      have HR3 := HR5
      have HO3 := HO5
      have HV3 := HV5
      have HQ3 := HQ5
      clear HR5 HO5 HV5 HQ5
      cases h2 : getF s (a1 + 2) 2 with
      | none =>
        rw [h2] at hR
        refine (num_no HR3.out hs h2).mono ?_
        rintro e w' ⟨rfl, ho⟩
        exact ⟨rfl, Ends.err hR.symm (HO3.out.trans ho)⟩
      | some c =>
        rw [h2] at hR
        simp only [] at hR
        obtain ⟨c0', c1', _, _, hwc⟩ := get2 h2
        refine (num_yes HR3.out hs h2).mono ?_
        rintro e w6 ⟨rfl, hr, ho⟩
        have HQ4 := HQ3.out.only HR3.out (by decide) ho
        have HV4 := HV3.out.only HR3.out (by decide) ho
        have HO4 := HO3.out.trans ho
        clear HR3 HQ3 HV3 HO3
        clear h2
        have y := HQ4.is 2 rfl
        have f := HQ4.frozen 2
        go_wp2_with fail
        have HR5 := Aside0.mk (hr.far (Ne.symm hgq) 2 (.int .u16 c))
        have HO5 := Aside0.mk (HO4.setNew HSz.out.1 2 (.int .u16 c))
        have HV5 := Aside0.mk (HV4.far HLt.out.2 2 (.int .u16 c))
        have HQ5 := Aside0.mk (show SAt (w6.setCell ⟨q, 2, none⟩ (.int .u16 c)) q #[.string t0, .int .u16 t, .int .u16 c, .int .u32 0, .slice none 0 0, .slice none 0 0, .slice none 0 0] 44 from HQ4.set 2 (.int .u16 c))
        clear hr HO4 HV4 HQ4 ho y f
        generalize hW : w6.setCell ⟨q, 2, none⟩ (.int .u16 c) = w7 at *
        clear hW
        have HR3 := HR5
        have HO3 := HO5
        have HV3 := HV5
        have HQ3 := HQ5
        clear HR5 HO5 HV5 HQ5
        cases h3 : getF s (a1 + 2 + 2) 4 with
        | none =>
          rw [h3] at hR
          refine (num_no HR3.out hs h3).mono ?_
          rintro e w' ⟨rfl, ho⟩
          exact ⟨rfl, Ends.err hR.symm (HO3.out.trans ho)⟩
        | some l =>
          rw [h3] at hR
          simp only [] at hR
          obtain ⟨l0', l1', _, _, hwl⟩ := get4 h3
          refine (num_yes HR3.out hs h3).mono ?_
          rintro e w8 ⟨rfl, hr, ho⟩
          have HQ4 := HQ3.out.only HR3.out (by decide) ho
          have HV4 := HV3.out.only HR3.out (by decide) ho
          have HO4 := HO3.out.trans ho
          clear HR3 HQ3 HV3 HO3
          clear h3
          have y := HQ4.is 3 rfl
          have f := HQ4.frozen 3
          go_wp2_with fail
          have HR5 := Aside0.mk (hr.far (Ne.symm hgq) 3 (.int .u32 l))
          have HO5 := Aside0.mk (HO4.setNew HSz.out.1 3 (.int .u32 l))
          have HV5 := Aside0.mk (HV4.far HLt.out.2 3 (.int .u32 l))
          have HQ5 := Aside0.mk (show SAt (w8.setCell ⟨q, 3, none⟩ (.int .u32 l)) q #[.string t0, .int .u16 t, .int .u16 c, .int .u32 l, .slice none 0 0, .slice none 0 0, .slice none 0 0] 44 from HQ4.set 3 (.int .u32 l))
          clear hr HO4 HV4 HQ4 ho y f
          generalize hW : w8.setCell ⟨q, 3, none⟩ (.int .u32 l) = w9 at *
          clear hW
          have HR3 := HR5
          have HO3 := HO5
          have HV3 := HV5
          have HQ3 := HQ5
          clear HR5 HO5 HV5 HQ5
          cases h4 : getF s (a1 + 2 + 2 + 4) 2 with
          | none =>
            rw [h4] at hR
            refine (num_no HR3.out hs h4).mono ?_
            rintro e w' ⟨rfl, ho⟩
            exact ⟨rfl, Ends.err hR.symm (HO3.out.trans ho)⟩
          | some n =>
            rw [h4] at hR
            simp only [] at hR
            obtain ⟨n0', n1', _, n3', _⟩ := get2 h4
            have hwn : IntKind.i64.wrap n = n := by rw [IntKind.wrap_i64]; omega
            obtain ⟨ad, had⟩ : ∃ ad, a1 + 2 + 2 + 4 + 2 = ad := ⟨_, rfl⟩
            rw [had] at hR
            have HAd := Lib.hid (show 0 ≤ ad ∧ ad ≤ s.size by omega)
            refine (num_yes HR3.out hs h4).mono ?_
            rw [had]
            rintro e w10 ⟨rfl, hr, ho⟩
            have HQ4 := Aside0.mk (HQ3.out.only HR3.out (by decide) ho)
            have HV4 := Aside0.mk (HV3.out.only HR3.out (by decide) ho)
            have HO4 := Aside0.mk (HO3.out.trans ho)
            have HR4 := Aside0.mk hr
            clear HR3 HQ3 HV3 HO3 ho h4 n3' had
            have z0 := hr.c0
            have z1 := hr.c1
            clear hr
            have q1 : ad ≤ 1000000 := by have := HAd.out; omega
            have q2 : 0 ≤ ad := HAd.out.1
            have q3 : (s.size : Int) ≤ 1000000 := by omega
            have hsub : IntKind.i64.wrap ((s.size : Int) - ad) = (s.size : Int) - ad := by rw [IntKind.wrap_i64]; omega
            go_wp2_with fail
            refine start_ (n := 12) (S := fun w' => w'.cell? ⟨g, 0, none⟩ = some (.string s) ∧ w'.cell? ⟨g, 1, none⟩ = some (.int .i64 ad)) (ds := []) (Array.replicate 12 false) (by kernel_rfl) (by kernel_rfl) rfl ⟨z0, z1⟩ (fun hS => ?_)
            refine dpure 0 (some 24) rfl rfl (by kernel_rfl) (fun _ _ _ h => h) (by rfl) (v := ?_) (a' := ?_) ?_ ?_ ?_
            rotate_left 2
            · intro w'; go_simp; with_reducible rfl
            · simp only [Act.put, List.setIfInBounds_toArray, List.set_cons_zero, List.set_cons_succ]; rfl
            refine dpure 1 (some 25) rfl rfl (by kernel_rfl) (fun _ _ _ h => h) (by rfl) (v := ?_) (a' := ?_) ?_ ?_ ?_
            rotate_left 2
            · intro w'; go_simp; with_reducible rfl
            · simp only [Act.put, List.setIfInBounds_toArray, List.set_cons_zero, List.set_cons_succ]; rfl
            refine dpure 2 (some 26) rfl rfl (by kernel_rfl) (fun _ _ _ h => h) (by rfl) (v := ?_) (a' := ?_) ?_ ?_ ?_
            rotate_left 2
            · intro w'; go_simp; with_reducible rfl
            · simp only [Act.put, List.setIfInBounds_toArray, List.set_cons_zero, List.set_cons_succ]; rfl
            refine dpure 3 (some 27) rfl rfl (by kernel_rfl) (fun _ _ _ h => h) (by rfl) (v := ?_) (a' := ?_) ?_ ?_ ?_
            rotate_left 2
            · intro w'; go_simp; with_reducible rfl
            · simp only [Act.put, List.setIfInBounds_toArray, List.set_cons_zero, List.set_cons_succ]; rfl
            refine dtake 4 (some 28) rfl rfl (by kernel_rfl) (fun _ _ _ h => h) (by rfl) hS (v := ?_) (a' := ?_) ?_ ?_ ?_
            rotate_left 2
            · rintro w' ⟨s0,s1⟩; go_simp; with_reducible rfl
            · simp only [Act.put, List.setIfInBounds_toArray, List.set_cons_zero, List.set_cons_succ]; rfl
            refine dpure 5 (some 29) rfl rfl (by kernel_rfl) (fun _ _ _ h => h) (by rfl) (v := ?_) (a' := ?_) ?_ ?_ ?_
            rotate_left 2
            · intro w'; go_simp; with_reducible rfl
            · simp only [Act.put, List.setIfInBounds_toArray, List.set_cons_zero, List.set_cons_succ]; rfl
            refine dpure 6 (some 30) rfl rfl (by kernel_rfl) (fun _ _ _ h => h) (by rfl) (v := ?_) (a' := ?_) ?_ ?_ ?_
            rotate_left 2
            · intro w'; go_simp; with_reducible rfl
            · simp only [Act.put, List.setIfInBounds_toArray, List.set_cons_zero, List.set_cons_succ]; rfl
            refine dpure 7 (some 31) rfl rfl (by kernel_rfl) (fun _ _ _ h => h) (by rfl) (v := ?_) (a' := ?_) ?_ ?_ ?_
            rotate_left 2
            · intro w'; go_simp; with_reducible rfl
            · simp only [Act.put, List.setIfInBounds_toArray, List.set_cons_zero, List.set_cons_succ]; rfl
            refine dpure 8 (some 32) rfl rfl (by kernel_rfl) (fun _ _ _ h => h) (by rfl) (v := ?_) (a' := ?_) ?_ ?_ ?_
            rotate_left 2
            · intro w'; go_simp; with_reducible rfl
            · simp only [Act.put, List.setIfInBounds_toArray, List.set_cons_zero, List.set_cons_succ]; rfl
            refine dtake 9 (some 33) rfl rfl (by kernel_rfl) (fun _ _ _ h => h) (by rfl) hS (v := ?_) (a' := ?_) ?_ ?_ ?_
            rotate_left 2
            · rintro w' ⟨s0,s1⟩; go_simp; with_reducible rfl
            · simp only [Act.put, List.setIfInBounds_toArray, List.set_cons_zero, List.set_cons_succ]; rfl
            refine dpure 10 (some 34) rfl rfl (by kernel_rfl) (fun _ _ _ h => h) (by rfl) (v := .int .i64 ((s.size : Int) - ad)) (a' := ?_) ?_ ?_ ?_
            rotate_left 1
            · intro w'; go_simp; first | done | rw [hsub]
            · simp only [Act.put, List.setIfInBounds_toArray, List.set_cons_zero, List.set_cons_succ]; rfl
            by_cases c1 : (s.size : Int) - ad < n
            · rw [if_pos c1] at hR
              refine dpure 11 (some 35) rfl rfl (by kernel_rfl) (fun _ _ _ h => h) (by rfl) (v := .bool true) (a' := ?_) ?_ ?_ ?_
              rotate_left 1
              · intro w'; go_simp; first | done | omega | simp [c1]
              · simp only [Act.put, List.setIfInBounds_toArray, List.set_cons_zero, List.set_cons_succ]; rfl
              refine done_ (by kernel_rfl) ?_
              clear c1
              go_wp2_with fail
              exact ⟨rfl, Ends.err hR.symm HO4.out.drew⟩
            rw [if_neg c1] at hR
            refine dpure 11 (some 35) rfl rfl (by kernel_rfl) (fun _ _ _ h => h) (by rfl) (v := .bool false) (a' := ?_) ?_ ?_ ?_
            rotate_left 1
            · intro w'; go_simp; first | done | omega | simp [c1]
            · simp only [Act.put, List.setIfInBounds_toArray, List.set_cons_zero, List.set_cons_succ]; rfl
            refine done_ (by kernel_rfl) ?_
            have q4 : ad + n ≤ 1000000 := by omega
            have q5 : 0 ≤ ad + n := by omega
            have HEn := Lib.hid (show ad ≤ ad + n ∧ ad + n ≤ s.size by omega)
            clear c1
            go_wp2_with fail
            refine (data_reads (w := w10.drew) (f0 := t0) (k := t) (c := c) (t := l) HR4.out HQ4.out HSm.out HAd.out.1 HEn.out.1 HEn.out.2).mono ?_
            intro e w11 ht
            have ho := HO4.out.drew.two ht.two HSz.out.1
            have hv := SAt.two (w := w10.drew) HV4.out ht.two hgr HLt.out.2
            cases hd : dataR s t (ad + n) ad with
            | error d =>
              rw [hd] at hR
              obtain rfl := ht.bad d hd
              exact ⟨rfl, Ends.err hR.symm ho⟩
            | ok x =>
              obtain ⟨⟨names, nums, texts⟩, a2⟩ := x
              rw [hd] at hR
              simp only [] at hR
              obtain ⟨rfl, hr11, v4, v5, v6, hx11, h4, h5, h6⟩ := ht.good _ _ _ _ hd
              have hfine := (dataR_all hd HAd.out).1.fine HSm.out t0 t c l
              obtain ⟨rc, hrc⟩ : ∃ rc : Rec, rc = ⟨t0, t, c, l, names, nums, texts⟩ := ⟨_, rfl⟩
              have HRc := Lib.hid hrc
              rw [← hrc] at hR
              have HF := Aside0.mk (show Fine rc by rw [hrc]; exact hfine)
              have HQ11 : Aside0 (SAt w11 q #[.string t0, .int .u16 t, .int .u16 c, .int .u32 l, v4, v5, v6] 44) := ⟨hx11⟩
              have HR11 := Aside0.mk hr11
              have HO11 := Aside0.mk ho
              have HV11 := Aside0.mk hv
              have hrat := recAt_of (r := rc) (by rw [hrc]; exact h4) (by rw [hrc]; exact h5) (by rw [hrc]; exact h6)
              have hrp : RecP w.heap.size rc (.agg #[.string t0, .int .u16 t, .int .u16 c, .int .u32 l, v4, v5, v6]) w11 := ⟨v4, v5, v6, by rw [hrc], by rw [hrc]; exact Kd.R_lower h4 HO4.out.size, by rw [hrc]; exact Kd.R_lower h5 HO4.out.size, by rw [hrc]; exact Kd.R_lower h6 HO4.out.size⟩
              have HRP := Aside0.mk hrp
              have HRA := Aside0.mk (show RecAt w11 (.agg #[.string t0, .int .u16 t, .int .u16 c, .int .u32 l, v4, v5, v6]) rc by rw [hrc] at hrat ⊢; exact hrat)
              obtain ⟨A4, n4, c4, rfl⟩ := R_anyslice h4
              obtain ⟨A5, n5, c5, rfl⟩ := R_anyslice h5
              obtain ⟨A6, n6, c6, rfl⟩ := R_anyslice h6
              clear ht hd ho hv hr11 hx11 h4 h5 h6 hfine hrat hrp hrc HQ4 HV4 HR4 z0 z1 hS
              have x0 := HQ11.out.is 0 rfl
              have x1 := HQ11.out.is 1 rfl
              have x2 := HQ11.out.is 2 rfl
              have x3 := HQ11.out.is 3 rfl
              have x4 := HQ11.out.is 4 rfl
              have x5 := HQ11.out.is 5 rfl
              have x6 := HQ11.out.is 6 rfl
              go_wp2_with fail
              refine (check_calls rc _ _ HRA.out HF.out).mono ?_
              obtain ⟨ck, hck⟩ : ∃ ck, checkF rc = ck := ⟨_, rfl⟩
              rw [hck] at hR ⊢
              rintro e w12 ⟨rfl, hb⟩
              have HQ12 := Aside0.mk (HQ11.out.below hb)
              have HV12 := Aside0.mk (HV11.out.below hb)
              have HR12 := Aside0.mk (HR11.out.below hb)
              have HO12 := Aside0.mk (HO11.out.trans (Only.of_below hb g))
              have HRP12 := Aside0.mk (HRP.out.below hb)
              clear hb x0 x1 x2 x3 x4 x5 x6 hck HRP
              by_cases k1 : ck = 0
              · rw [if_pos k1] at hR
                have d2 : (ck != 0) = false := by rw [bne_eq_false_iff_eq]; exact k1
                clear k1
                have x0 := HQ12.out.is 0 rfl
                have x1 := HQ12.out.is 1 rfl
                have x2 := HQ12.out.is 2 rfl
                have x3 := HQ12.out.is 3 rfl
                have x4 := HQ12.out.is 4 rfl
                have x5 := HQ12.out.is 5 rfl
                have x6 := HQ12.out.is 6 rfl
                have z0 := HV12.out.is 0 rfl
                have z1 := HV12.out.is 1 rfl
                have z2 := HV12.out.is 2 rfl
                have z3 := HV12.out.is 3 rfl
                have z4 := HV12.out.is 4 rfl
                have z5 := HV12.out.is 5 rfl
                have z6 := HV12.out.is 6 rfl
                have g0 := HV12.out.frozen 0
                have g1 := HV12.out.frozen 1
                have g2 := HV12.out.frozen 2
                have g3 := HV12.out.frozen 3
                have g4 := HV12.out.frozen 4
                have g5 := HV12.out.frozen 5
                have g6 := HV12.out.frozen 6
                have hqr := HLt.out.2
                have hrq := Ne.symm HLt.out.2
                go_wp2_with fail
                have L0 : Laying w w12 g r s a2 _ _ := ⟨HV12.out, HR12.out, HO12.out, hgr, HSz.out.2⟩
                have L1 := L0.step 0 (.string t0)
                have L2 := L1.step 1 (.int .u16 t)
                have L3 := L2.step 2 (.int .u16 c)
                have L4 := L3.step 3 (.int .u32 l)
                have L5 := L4.step 4 (.slice A4 n4 c4)
                have L6 := L5.step 5 (.slice A5 n5 c5)
                have L7 := L6.step 6 (.slice A6 n6 c6)
                have P7 := ((((((HRP12.out.set L0.v 0 (.string t0)).set L1.v 1 (.int .u16 t)).set L2.v 2 (.int .u16 c)).set L3.v 3 (.int .u32 l)).set L4.v 4 (.slice A4 n4 c4)).set L5.v 5 (.slice A5 n5 c5)).set L6.v 6 (.slice A6 n6 c6)
                clear L0 L1 L2 L3 L4 L5 L6 z0 z1 z2 z3 z4 z5 z6 g0 g1 g2 g3 g4 g5 g6 x0 x1 x2 x3 x4 x5 x6
                generalize hW : ((((((w12.setCell ⟨r, 0, none⟩ (.string t0)).setCell ⟨r, 1, none⟩ (.int .u16 t)).setCell ⟨r, 2, none⟩ (.int .u16 c)).setCell ⟨r, 3, none⟩ (.int .u32 l)).setCell ⟨r, 4, none⟩ (.slice A4 n4 c4)).setCell ⟨r, 5, none⟩ (.slice A5 n5 c5)).setCell ⟨r, 6, none⟩ (.slice A6 n6 c6) = w13 at *
                have HV9 : SAt w13 r #[.string t0, .int .u16 t, .int .u16 c, .int .u32 l, .slice A4 n4 c4, .slice A5 n5 c5, .slice A6 n6 c6] 44 := L7.v
                have z0 := HV9.is 0 rfl
                have z1 := HV9.is 1 rfl
                have z2 := HV9.is 2 rfl
                have z3 := HV9.is 3 rfl
                have z4 := HV9.is 4 rfl
                have z5 := HV9.is 5 rfl
                have z6 := HV9.is 6 rfl
                refine bodyPost_ret (v := .agg #[.string t0, .int .u16 t, .int .u16 c, .int .u32 l, .slice A4 n4 c4, .slice A5 n5 c5, .slice A6 n6 c6]) (by simp [results, Try.results80, go_sem, z0, z1, z2, z3, z4, z5, z6]) rfl ?_
                exact Ends.ok hR.symm P7 L7.rd L7.o
              · rw [if_neg k1] at hR
                have d2 : (ck != 0) = true := by rw [bne_iff_ne]; exact k1
                clear k1
                go_wp2_with fail
                exact ⟨rfl, Ends.err hR.symm HO12.out⟩
def recsR (s : ByteArray) : Nat → List Rec → Int → Except Int (List Rec × Int)
  | 0, out, a => .ok (out, a)
  | k + 1, out, a => match recR s a with
    | .error c => .error c
    | .ok (r, a') => recsR s k (out ++ [r]) a'
def RecsP (B : Nat) (l : List Rec) (v : Value) (w : World) : Prop := Kd.R kRec 44 w B (fun _ => True) v l
theorem recR_at {s : ByteArray} {a : Int} {r : Rec} {a' : Int} (h : recR s a = .ok (r, a')) : 0 ≤ a' ∧ a' ≤ s.size := by
  unfold recR at h
  cases hn : nameAt s a with
  | error c => rw [hn] at h; exact absurd h (by simp)
  | ok x =>
    obtain ⟨b, a1⟩ := x
    rw [hn] at h
    simp only [] at h
    cases h1 : getF s a1 2 with
    | none => rw [h1] at h; exact absurd h (by simp)
    | some t =>
      rw [h1] at h
      simp only [] at h
      cases h2 : getF s (a1 + 2) 2 with
      | none => rw [h2] at h; exact absurd h (by simp)
      | some c =>
        rw [h2] at h
        simp only [] at h
        cases h3 : getF s (a1 + 2 + 2) 4 with
        | none => rw [h3] at h; exact absurd h (by simp)
        | some l =>
          rw [h3] at h
          simp only [] at h
          cases h4 : getF s (a1 + 2 + 2 + 4) 2 with
          | none => rw [h4] at h; exact absurd h (by simp)
          | some n =>
            rw [h4] at h
            simp only [] at h
            have g4 := get2 h4
            by_cases c1 : (s.size : Int) - (a1 + 2 + 2 + 4 + 2) < n
            · rw [if_pos c1] at h; exact absurd h (by simp)
            rw [if_neg c1] at h
            cases hd : dataR s t (a1 + 2 + 2 + 4 + 2 + n) (a1 + 2 + 2 + 4 + 2) with
            | error d => rw [hd] at h; exact absurd h (by simp)
            | ok x =>
              obtain ⟨⟨names, nums, texts⟩, a2⟩ := x
              rw [hd] at h
              simp only [] at h
              have := (dataR_all hd (by omega)).2
              split at h
              · have := (Prod.mk.inj (Except.ok.inj h)).2
                omega
              · exact absurd h (by simp)
set_option maxHeartbeats 8000000 in
set_option maxRecDepth 100000 in
theorem records_reads {w : World} {g : Nat} {s : ByteArray} {a : Int} {count : Nat} (h : RAt w g s a) (hs : s.size ≤ 1000000) (h0 : 0 ≤ a) (ha : a ≤ s.size) (hc : count ≤ 256) :
    Calls Try.prog 69 #[.pointer (some ⟨g, 0, none⟩), .int .i64 count] w fun e w' => Ends (RecsP w.heap.size) (recsR s count [] a) w g s e w' := by
  obtain ⟨R, hR⟩ : ∃ R, recsR s count [] a = R := ⟨_, rfl⟩
  rw [hR]
  have HR := Aside0.mk h
  have HE := Aside0.mk hR
  have HO := Aside0.mk (Only.refl g w)
  have HS := Lib.hid (show s.size ≤ 1000000 from hs)
  have HA := Lib.hid (show 0 ≤ a ∧ a ≤ s.size from ⟨h0, ha⟩)
  have p1 : (count : Int) ≤ 256 := by omega
  have HC := Lib.hid hc
  clear h hR hs h0 ha hc
  go_enter Try.func69, Try.ntmps69
  go_wp2_with fail
  go_loopg [5, 7] count (fun kq v5 v7 w' => ∃ (i : Nat) (out : List Rec) (at' : Int), v7 = .int .i64 i ∧ Aside0 (recsR s kq out at' = R) ∧ Aside0 (kq + i = count) ∧ Aside0 (out.length = i) ∧ Aside0 (0 ≤ at' ∧ at' ≤ s.size) ∧ Aside0 (RAt w' g s at') ∧ Aside0 (Only g w w') ∧ Aside0 (RecsP w.heap.size out v5 w'))
  case atStart => exact ⟨0, [], a, rfl, HE, ⟨rfl⟩, ⟨rfl⟩, ⟨HA.out⟩, HR, HO, ⟨Kd.R_nil _ _ _ _ _⟩⟩
  case round =>
    clear HE HO HR HA
    obtain ⟨i, out, at', rfl, HE, HK, HL, HA, HR, HO, HB⟩ := hrel
    have he := HE.out
    clear HE
    cases gk with
    | zero =>
      have HE := Lib.hid he
      obtain rfl : i = count := by have := HK.out; omega
      clear he
      go_wp2_with fail
      go_ret
      exact Ends.ok HE.out.symm HB.out HR.out HO.out
    | succ k =>
      unfold recsR at he
      have q1 : (i : Int) < (count : Int) := by have := HK.out; omega
      go_wp2_with fail
      refine (record_reads HR.out HS.out HA.out.1 HA.out.2).mono ?_
      intro e w2 ht
      cases hn : recR s at' with
      | error c =>
        rw [hn] at he
        obtain rfl := ht.bad c hn
        exact ⟨rfl, Ends.err he.symm (HO.out.trans ht.only)⟩
      | ok x =>
        obtain ⟨rc, a2⟩ := x
        rw [hn] at he
        simp only [] at he
        have HE := Aside0.mk he
        have HA2 := Aside0.mk (recR_at hn)
        obtain ⟨v, rfl, hp, hr⟩ := ht.good rc a2 hn
        obtain ⟨v4, v5', v6, rfl, h4, h5, h6⟩ := hp
        have HR2 := Aside0.mk hr
        have HO2 := Aside0.mk (HO.out.trans ht.only)
        have hb2 : RecsP w.heap.size out u5 w2 := R_only HB.out HR.out (by decide) ht.only
        have HB2 := Aside0.mk hb2
        have H4 := Aside0.mk (Kd.R_apartR (Kd.R_lower h4 HO.out.size) hb2 (by decide))
        have H5 := Aside0.mk (Kd.R_apartR (Kd.R_lower h5 HO.out.size) hb2 (by intro q hq; rw [show q = 41 by simpa [Kd.int, Kd.scalar] using hq]; decide))
        have H6 := Aside0.mk (Kd.R_apartR (Kd.R_lower h6 HO.out.size) hb2 (by decide))
        have HL1 := Aside0.mk (show (out.length + 1) * 96 ≤ 140737488355328 by have := HL.out; have := HK.out; have := HC.out; omega)
        obtain ⟨A4, n4, c4, rfl⟩ := R_anyslice h4
        obtain ⟨A5, n5, c5, rfl⟩ := R_anyslice h5
        obtain ⟨A6, n6, c6, rfl⟩ := R_anyslice h6
        clear ht hn he hr h4 h5 h6 hb2
        go_wp2_with ((with_reducible refine gate_builtin (b := .append) (xs := #[.tmp 9, .tmp 12]) rfl ?_); at_builtin; go_must (refine Kd.R_append kRec (w0 := w2) w.heap.size rfl (.tmp 9) (.tmp 12) 24 44 (.agg #[(.string ⟨#[]⟩), (.int .u16 0), (.int .u16 0), (.int .u32 0), (.slice none 0 0), (.slice none 0 0), (.slice none 0 0)]) 96 rfl Try.underlying24 infoRec rfl (by decide) (by decide) u5 out rc [.string rc.f0, .int .u16 rc.f1, .int .u16 rc.f2, .int .u32 rc.f3, .slice A4 n4 c4, .slice A5 n5 c5, .slice A6 n6 c6] (fun _ => True) (fun k => True ∧ some k ≠ u5.ownBlock) rfl rfl (kRec_mkM w2 w.heap.size _ rc H4.out H5.out H6.out) (fun k hk => ⟨trivial, hk.2⟩) (fun _ _ => trivial) HB2.out (Below.refl _ _) HO2.out.size HL1.out ?_; intro va wa hoa hba hga hata; have HR4 := Aside0.mk (show RAt wa g s a2 from blk_grown HR2.out hga (Kd.R_ne HB2.out HR2.out (by decide))); have HO4 := Aside0.mk (HO2.out.of_grown hga (Kd.R_base HB2.out)); have HB4 := Aside0.mk hoa; clear hoa hba hga hata))
        go_roundg k
        case measure => omega
        case rel => exact ⟨i + 1, _, a2, by go_num, HE, ⟨by have := HK.out; omega⟩, ⟨by have := HL.out; rw [List.length_append, List.length_singleton]; omega⟩, HA2, HR4, HO4, HB4⟩
end Go.Proofs.Ytbbeikdbioelgaa.M
