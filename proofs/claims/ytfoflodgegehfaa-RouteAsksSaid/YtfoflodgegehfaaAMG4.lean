/- Joined texts: walks and plain laws. -/
import Derived.Test.YtfoflodgegehfaaAMG3
import Derived.Test.YtfoflodgegehfaaAMG2
import Derived.Test.YtfoflodgegehfaaAMG1
import Derived.Defers
import Derived.Recover
import Derived.StillTailTactics
import Derived.Deep.Slices
import Derived.Deep.Fields
import Derived.ChangeSame
import Derived.SizedLaws
import Derived.KernelRfl
set_option linter.unusedVariables false
set_option linter.unusedSimpArgs false
namespace Go.Proofs.Ytfoflodgegehfaa.M
open Go.RowKit Go.Maps Go.Proofs.YtfoflodgegehfaaW.PrintWords Go.Proofs.YtfoflodgegehfaaW.PrintLast Go.Proofs.YtfoflodgegehfaaW.PrintMore
attribute [local go_sem] max2_int min2_int max_two min_two max_three min_three max_four min_four
attribute [local go_sem ↓] Go.wp_at_zero Go.wp_at_succ
theorem Only.two {w0 w w1 : World} {g h : Nat} (h0 : Only g w0 w) (ht : Two g h w w1) (hh : w0.heap.size ≤ h) : Only g w0 w1 :=
  ⟨ht.os.trans h0.os, ht.tape.trans h0.tape, ht.output.trans h0.output, Nat.le_trans h0.size ht.size, fun k hk hg => (ht.block k (Nat.lt_of_lt_of_le hk h0.size) hg (by omega)).trans (h0.block k hk hg)⟩
theorem SAt.two {w w1 : World} {g h r : Nat} {cs : Array Value} {T : Nat} (hx : SAt w r cs T) (ht : Two g h w w1) (hg : r ≠ g) (hh : r ≠ h) : SAt w1 r cs T := (ht.block r hx.lt hg hh).trans hx
theorem RecP.below {B : Nat} {r : Rec} {v : Value} {w w1 : World} (h : RecP B r v w) (hb : Below w.heap.size w w1) : RecP B r v w1 := by
  obtain ⟨v4, v5, v6, h1, h4, h5, h6⟩ := h
  exact ⟨v4, v5, v6, h1, Kd.R_below h4 hb, Kd.R_below h5 hb, Kd.R_below h6 hb⟩
theorem RecP.set {B : Nat} {rc : Rec} {v : Value} {w : World} {r : Nat} {cs : Array Value} (h : RecP B rc v w) (hx : SAt w r cs 85) (j : Nat) (u : Value) : RecP B rc v (w.setCell ⟨r, j, none⟩ u) := by
  obtain ⟨v4, v5, v6, h1, h4, h5, h6⟩ := h
  exact ⟨v4, v5, v6, h1, Kd.R_set h4 hx (by decide) j u, Kd.R_set h5 hx (by intro q hq; rw [show q = 81 by simpa [Kd.int, Kd.scalar] using hq]; decide) j u, Kd.R_set h6 hx (by decide) j u⟩
structure Laying (w0 w : World) (g r : Nat) (s : ByteArray) (a : Int) (cs : Array Value) (T : Nat) : Prop where
  v : SAt w r cs T
  rd : RAt w g s a
  o : Only g w0 w
  ne : r ≠ g
  sz : w0.heap.size ≤ r
theorem Laying.step {w0 w : World} {g r : Nat} {s : ByteArray} {a : Int} {cs : Array Value} {T : Nat} (h : Laying w0 w g r s a cs T) (j : Nat) (u : Value) : Laying w0 (w.setCell ⟨r, j, none⟩ u) g r s a (cs.setIfInBounds j u) T :=
  ⟨h.v.set j u, h.rd.far (Ne.symm h.ne) j u, h.o.setNew h.sz j u, h.ne, h.sz⟩
set_option maxHeartbeats 8000000 in
set_option maxRecDepth 100000 in
theorem record_reads {w : World} {g : Nat} {s : ByteArray} {a : Int} (h : RAt w g s a) (hs : s.size ≤ 1000000) (h0 : 0 ≤ a) (ha : a ≤ s.size) :
    Calls Try.prog 63 #[.pointer (some ⟨g, 0, none⟩)] w fun e w' => Ends (RecP w.heap.size) (recR s a) w g s e w' := by
  obtain ⟨R, hR⟩ : ∃ R, recR s a = R := ⟨_, rfl⟩
  rw [hR]
  unfold recR at hR
  have HR := Aside0.mk h
  have HSm := Lib.hid hs
  clear h
  go_enter Try.func63, Try.ntmps63
  go_wp2_with fail
  have HV := Aside0.mk (SAt.new w #[.string ⟨#[]⟩, .int .u16 0, .int .u16 0, .int .u32 0, .slice none 0 0, .slice none 0 0, .slice none 0 0] 85)
  refine (name_calls' (HR.out.below (below_alloc (Below.refl _ _) _)) hs (by omega) (by omega)).mono ?_
  intro e w2 ht
  have HO := Aside0.mk (((Only.refl g w).alloc _).trans ht.only)
  have HV2 := Aside0.mk (HV.out.only (HR.out.below (below_alloc (Below.refl _ _) _)) (by decide) ht.only)
  cases hn : nameAt s a with
  | error c =>
    rw [hn] at hR
    obtain rfl := ht.bad c hn
    exact ⟨rfl, Ends.err hR.symm HO.out⟩
  | ok x =>
    obtain ⟨b, a1⟩ := x
    rw [hn] at hR
    obtain ⟨rfl, hr2⟩ := ht.good b a1 hn
    clear ht hn
    simp only [] at hR
    obtain ⟨t0, ht0⟩ : ∃ t0, strOfNums b = t0 := ⟨_, rfl⟩
    rw [ht0] at hR ⊢
    go_wp2_with fail
    have HQ3 := Aside0.mk (SAt.new w2 #[.string t0, .int .u16 0, .int .u16 0, .int .u32 0, .slice none 0 0, .slice none 0 0, .slice none 0 0] 85)
    have HR3 := Aside0.mk (hr2.below (below_alloc (Below.refl _ _) (.cells #[.string t0, .int .u16 0, .int .u16 0, .int .u32 0, .slice none 0 0, .slice none 0 0, .slice none 0 0] 85 (0, 0))))
    have HO3 := Aside0.mk (HO.out.alloc (.cells #[.string t0, .int .u16 0, .int .u16 0, .int .u32 0, .slice none 0 0, .slice none 0 0, .slice none 0 0] 85 (0, 0)))
    have HV3 := Aside0.mk (HV2.out.below (below_alloc (Below.refl _ _) (.cells #[.string t0, .int .u16 0, .int .u16 0, .int .u32 0, .slice none 0 0, .slice none 0 0, .slice none 0 0] 85 (0, 0))))
    have HSz := Lib.hid (show w.heap.size ≤ w2.heap.size ∧ w.heap.size ≤ w.heap.size from ⟨HO.out.size, Nat.le_refl _⟩)
    have HLt := Lib.hid (show w.heap.size ≤ w2.heap.size ∧ w.heap.size ≠ w2.heap.size from ⟨HO.out.size, by have := HV2.out.lt; omega⟩)
    clear hr2 HO HV2
    generalize hW : w2.alloc (.cells #[.string t0, .int .u16 0, .int .u16 0, .int .u32 0, .slice none 0 0, .slice none 0 0, .slice none 0 0] 85 (0, 0)) = w3 at *
    obtain ⟨q, hq⟩ : ∃ q, w2.heap.size = q := ⟨_, rfl⟩
    obtain ⟨r, hr⟩ : ∃ r, w.heap.size = r := ⟨_, rfl⟩
    rw [hq] at HQ3 HLt HSz
    have HSz := Lib.hid (show w.heap.size ≤ q ∧ w.heap.size ≤ r from ⟨HSz.out.1, by omega⟩)
    have HRr := Lib.hid hr
    rw [hr] at HLt HV3
    rw [hq]
    rw [hr]
    clear hq hr hW HV HR
    have hgq := HQ3.out.ne HR3.out (by decide)
    have hgr := HV3.out.ne HR3.out (by decide)
    cases h1 : getF s a1 2 with
    | none =>
      rw [h1] at hR
      refine (num_no HR3.out hs h1).mono ?_
      rintro e w' ⟨rfl, ho⟩
      exact ⟨rfl, Ends.err hR.symm (HO3.out.trans ho)⟩
    | some t =>
      rw [h1] at hR
      simp only [] at hR
      obtain ⟨t0', t1', _, _, hwt⟩ := get2 h1
      refine (num_yes HR3.out hs h1).mono ?_
      rintro e w4 ⟨rfl, hr, ho⟩
      have HQ4 := HQ3.out.only HR3.out (by decide) ho
      have HV4 := HV3.out.only HR3.out (by decide) ho
      have HO4 := HO3.out.trans ho
      clear HR3 HQ3 HV3 HO3
      clear h1
      have y := HQ4.is 1 rfl
      have f := HQ4.frozen 1
      go_wp2_with fail
      have HR5 := Aside0.mk (hr.far (Ne.symm hgq) 1 (.int .u16 t))
      have HO5 := Aside0.mk (HO4.setNew HSz.out.1 1 (.int .u16 t))
      have HV5 := Aside0.mk (HV4.far HLt.out.2 1 (.int .u16 t))
      have HQ5 := Aside0.mk (show SAt (w4.setCell ⟨q, 1, none⟩ (.int .u16 t)) q #[.string t0, .int .u16 t, .int .u16 0, .int .u32 0, .slice none 0 0, .slice none 0 0, .slice none 0 0] 85 from HQ4.set 1 (.int .u16 t))
      clear hr HO4 HV4 HQ4 ho y f
      generalize hW : w4.setCell ⟨q, 1, none⟩ (.int .u16 t) = w5 at *
      clear hW
      have HR3 := HR5
      have HO3 := HO5
      have HV3 := HV5
      have HQ3 := HQ5
      clear HR5 HO5 HV5 HQ5
      cases h2 : getF s (a1 + 2) 2 with
      | none =>
        rw [h2] at hR
        refine (num_no HR3.out hs h2).mono ?_
        rintro e w' ⟨rfl, ho⟩
        exact ⟨rfl, Ends.err hR.symm (HO3.out.trans ho)⟩
      | some c =>
        rw [h2] at hR
        simp only [] at hR
        obtain ⟨c0', c1', _, _, hwc⟩ := get2 h2
        refine (num_yes HR3.out hs h2).mono ?_
        rintro e w6 ⟨rfl, hr, ho⟩
        have HQ4 := HQ3.out.only HR3.out (by decide) ho
        have HV4 := HV3.out.only HR3.out (by decide) ho
        have HO4 := HO3.out.trans ho
        clear HR3 HQ3 HV3 HO3
        clear h2
        have y := HQ4.is 2 rfl
        have f := HQ4.frozen 2
        go_wp2_with fail
        have HR5 := Aside0.mk (hr.far (Ne.symm hgq) 2 (.int .u16 c))
        have HO5 := Aside0.mk (HO4.setNew HSz.out.1 2 (.int .u16 c))
        have HV5 := Aside0.mk (HV4.far HLt.out.2 2 (.int .u16 c))
        have HQ5 := Aside0.mk (show SAt (w6.setCell ⟨q, 2, none⟩ (.int .u16 c)) q #[.string t0, .int .u16 t, .int .u16 c, .int .u32 0, .slice none 0 0, .slice none 0 0, .slice none 0 0] 85 from HQ4.set 2 (.int .u16 c))
        clear hr HO4 HV4 HQ4 ho y f
        generalize hW : w6.setCell ⟨q, 2, none⟩ (.int .u16 c) = w7 at *
        clear hW
        have HR3 := HR5
        have HO3 := HO5
        have HV3 := HV5
        have HQ3 := HQ5
        clear HR5 HO5 HV5 HQ5
        cases h3 : getF s (a1 + 2 + 2) 4 with
        | none =>
          rw [h3] at hR
          refine (num_no HR3.out hs h3).mono ?_
          rintro e w' ⟨rfl, ho⟩
          exact ⟨rfl, Ends.err hR.symm (HO3.out.trans ho)⟩
        | some l =>
          rw [h3] at hR
          simp only [] at hR
          obtain ⟨l0', l1', _, _, hwl⟩ := get4 h3
          refine (num_yes HR3.out hs h3).mono ?_
          rintro e w8 ⟨rfl, hr, ho⟩
          have HQ4 := HQ3.out.only HR3.out (by decide) ho
          have HV4 := HV3.out.only HR3.out (by decide) ho
          have HO4 := HO3.out.trans ho
          clear HR3 HQ3 HV3 HO3
          clear h3
          have y := HQ4.is 3 rfl
          have f := HQ4.frozen 3
          go_wp2_with fail
          have HR5 := Aside0.mk (hr.far (Ne.symm hgq) 3 (.int .u32 l))
          have HO5 := Aside0.mk (HO4.setNew HSz.out.1 3 (.int .u32 l))
          have HV5 := Aside0.mk (HV4.far HLt.out.2 3 (.int .u32 l))
          have HQ5 := Aside0.mk (show SAt (w8.setCell ⟨q, 3, none⟩ (.int .u32 l)) q #[.string t0, .int .u16 t, .int .u16 c, .int .u32 l, .slice none 0 0, .slice none 0 0, .slice none 0 0] 85 from HQ4.set 3 (.int .u32 l))
          clear hr HO4 HV4 HQ4 ho y f
          generalize hW : w8.setCell ⟨q, 3, none⟩ (.int .u32 l) = w9 at *
          clear hW
          have HR3 := HR5
          have HO3 := HO5
          have HV3 := HV5
          have HQ3 := HQ5
          clear HR5 HO5 HV5 HQ5
          cases h4 : getF s (a1 + 2 + 2 + 4) 2 with
          | none =>
            rw [h4] at hR
            refine (num_no HR3.out hs h4).mono ?_
            rintro e w' ⟨rfl, ho⟩
            exact ⟨rfl, Ends.err hR.symm (HO3.out.trans ho)⟩
          | some n =>
            rw [h4] at hR
            simp only [] at hR
            obtain ⟨n0', n1', _, n3', _⟩ := get2 h4
            have hwn : IntKind.i64.wrap n = n := by rw [IntKind.wrap_i64]; omega
            obtain ⟨ad, had⟩ : ∃ ad, a1 + 2 + 2 + 4 + 2 = ad := ⟨_, rfl⟩
            rw [had] at hR
            have HAd := Lib.hid (show 0 ≤ ad ∧ ad ≤ s.size by omega)
            refine (num_yes HR3.out hs h4).mono ?_
            rw [had]
            rintro e w10 ⟨rfl, hr, ho⟩
            have HQ4 := Aside0.mk (HQ3.out.only HR3.out (by decide) ho)
            have HV4 := Aside0.mk (HV3.out.only HR3.out (by decide) ho)
            have HO4 := Aside0.mk (HO3.out.trans ho)
            have HR4 := Aside0.mk hr
            clear HR3 HQ3 HV3 HO3 ho h4 n3' had
            have z0 := hr.c0
            have z1 := hr.c1
            clear hr
            have q1 : ad ≤ 1000000 := by have := HAd.out; omega
            have q2 : 0 ≤ ad := HAd.out.1
            have q3 : (s.size : Int) ≤ 1000000 := by omega
            have hsub : IntKind.i64.wrap ((s.size : Int) - ad) = (s.size : Int) - ad := by rw [IntKind.wrap_i64]; omega
            go_wp2_with fail
            refine start_ (n := 12) (S := fun w' => w'.cell? ⟨g, 0, none⟩ = some (.string s) ∧ w'.cell? ⟨g, 1, none⟩ = some (.int .i64 ad)) (ds := []) (Array.replicate 12 false) (by kernel_rfl) (by kernel_rfl) rfl ⟨z0, z1⟩ (fun hS => ?_)
            refine dpure 0 (some 24) rfl rfl (by kernel_rfl) (fun _ _ _ h => h) (by rfl) (v := ?_) (a' := ?_) ?_ ?_ ?_
            rotate_left 2
            · intro w'; go_simp; with_reducible rfl
            · simp only [Act.put, List.setIfInBounds_toArray, List.set_cons_zero, List.set_cons_succ]; rfl
            refine dpure 1 (some 25) rfl rfl (by kernel_rfl) (fun _ _ _ h => h) (by rfl) (v := ?_) (a' := ?_) ?_ ?_ ?_
            rotate_left 2
            · intro w'; go_simp; with_reducible rfl
            · simp only [Act.put, List.setIfInBounds_toArray, List.set_cons_zero, List.set_cons_succ]; rfl
            refine dpure 2 (some 26) rfl rfl (by kernel_rfl) (fun _ _ _ h => h) (by rfl) (v := ?_) (a' := ?_) ?_ ?_ ?_
            rotate_left 2
            · intro w'; go_simp; with_reducible rfl
            · simp only [Act.put, List.setIfInBounds_toArray, List.set_cons_zero, List.set_cons_succ]; rfl
            refine dpure 3 (some 27) rfl rfl (by kernel_rfl) (fun _ _ _ h => h) (by rfl) (v := ?_) (a' := ?_) ?_ ?_ ?_
            rotate_left 2
            · intro w'; go_simp; with_reducible rfl
            · simp only [Act.put, List.setIfInBounds_toArray, List.set_cons_zero, List.set_cons_succ]; rfl
            refine dtake 4 (some 28) rfl rfl (by kernel_rfl) (fun _ _ _ h => h) (by rfl) hS (v := ?_) (a' := ?_) ?_ ?_ ?_
            rotate_left 2
            · rintro w' ⟨s0,s1⟩; go_simp; with_reducible rfl
            · simp only [Act.put, List.setIfInBounds_toArray, List.set_cons_zero, List.set_cons_succ]; rfl
            refine dpure 5 (some 29) rfl rfl (by kernel_rfl) (fun _ _ _ h => h) (by rfl) (v := ?_) (a' := ?_) ?_ ?_ ?_
            rotate_left 2
            · intro w'; go_simp; with_reducible rfl
            · simp only [Act.put, List.setIfInBounds_toArray, List.set_cons_zero, List.set_cons_succ]; rfl
            refine dpure 6 (some 30) rfl rfl (by kernel_rfl) (fun _ _ _ h => h) (by rfl) (v := ?_) (a' := ?_) ?_ ?_ ?_
            rotate_left 2
            · intro w'; go_simp; with_reducible rfl
            · simp only [Act.put, List.setIfInBounds_toArray, List.set_cons_zero, List.set_cons_succ]; rfl
            refine dpure 7 (some 31) rfl rfl (by kernel_rfl) (fun _ _ _ h => h) (by rfl) (v := ?_) (a' := ?_) ?_ ?_ ?_
            rotate_left 2
            · intro w'; go_simp; with_reducible rfl
            · simp only [Act.put, List.setIfInBounds_toArray, List.set_cons_zero, List.set_cons_succ]; rfl
            refine dpure 8 (some 32) rfl rfl (by kernel_rfl) (fun _ _ _ h => h) (by rfl) (v := ?_) (a' := ?_) ?_ ?_ ?_
            rotate_left 2
            · intro w'; go_simp; with_reducible rfl
            · simp only [Act.put, List.setIfInBounds_toArray, List.set_cons_zero, List.set_cons_succ]; rfl
            refine dtake 9 (some 33) rfl rfl (by kernel_rfl) (fun _ _ _ h => h) (by rfl) hS (v := ?_) (a' := ?_) ?_ ?_ ?_
            rotate_left 2
            · rintro w' ⟨s0,s1⟩; go_simp; with_reducible rfl
            · simp only [Act.put, List.setIfInBounds_toArray, List.set_cons_zero, List.set_cons_succ]; rfl
            refine dpure 10 (some 34) rfl rfl (by kernel_rfl) (fun _ _ _ h => h) (by rfl) (v := .int .i64 ((s.size : Int) - ad)) (a' := ?_) ?_ ?_ ?_
            rotate_left 1
            · intro w'; go_simp; first | done | rw [hsub]
            · simp only [Act.put, List.setIfInBounds_toArray, List.set_cons_zero, List.set_cons_succ]; rfl
            by_cases c1 : (s.size : Int) - ad < n
            · rw [if_pos c1] at hR
              refine dpure 11 (some 35) rfl rfl (by kernel_rfl) (fun _ _ _ h => h) (by rfl) (v := .bool true) (a' := ?_) ?_ ?_ ?_
              rotate_left 1
              · intro w'; go_simp; first | done | omega | simp [c1]
              · simp only [Act.put, List.setIfInBounds_toArray, List.set_cons_zero, List.set_cons_succ]; rfl
              refine done_ (by kernel_rfl) ?_
              clear c1
              go_wp2_with fail
              exact ⟨rfl, Ends.err hR.symm HO4.out.drew⟩
            rw [if_neg c1] at hR
            refine dpure 11 (some 35) rfl rfl (by kernel_rfl) (fun _ _ _ h => h) (by rfl) (v := .bool false) (a' := ?_) ?_ ?_ ?_
            rotate_left 1
            · intro w'; go_simp; first | done | omega | simp [c1]
            · simp only [Act.put, List.setIfInBounds_toArray, List.set_cons_zero, List.set_cons_succ]; rfl
            refine done_ (by kernel_rfl) ?_
            have q4 : ad + n ≤ 1000000 := by omega
            have q5 : 0 ≤ ad + n := by omega
            have HEn := Lib.hid (show ad ≤ ad + n ∧ ad + n ≤ s.size by omega)
            clear c1
            go_wp2_with fail
            refine (data_reads (w := w10.drew) (f0 := t0) (k := t) (c := c) (t := l) HR4.out HQ4.out HSm.out HAd.out.1 HEn.out.1 HEn.out.2).mono ?_
            intro e w11 ht
            have ho := HO4.out.drew.two ht.two HSz.out.1
            have hv := SAt.two (w := w10.drew) HV4.out ht.two hgr HLt.out.2
            cases hd : dataR s t (ad + n) ad with
            | error d =>
              rw [hd] at hR
              obtain rfl := ht.bad d hd
              exact ⟨rfl, Ends.err hR.symm ho⟩
            | ok x =>
              obtain ⟨⟨names, nums, texts⟩, a2⟩ := x
              rw [hd] at hR
              simp only [] at hR
              obtain ⟨rfl, hr11, v4, v5, v6, hx11, h4, h5, h6⟩ := ht.good _ _ _ _ hd
              have hfine := (dataR_all hd HAd.out).1.fine HSm.out t0 t c l
              obtain ⟨rc, hrc⟩ : ∃ rc : Rec, rc = ⟨t0, t, c, l, names, nums, texts⟩ := ⟨_, rfl⟩
              have HRc := Lib.hid hrc
              rw [← hrc] at hR
              have HF := Aside0.mk (show Fine rc by rw [hrc]; exact hfine)
              have HQ11 : Aside0 (SAt w11 q #[.string t0, .int .u16 t, .int .u16 c, .int .u32 l, v4, v5, v6] 85) := ⟨hx11⟩
              have HR11 := Aside0.mk hr11
              have HO11 := Aside0.mk ho
              have HV11 := Aside0.mk hv
              have hrat := recAt_of (r := rc) (by rw [hrc]; exact h4) (by rw [hrc]; exact h5) (by rw [hrc]; exact h6)
              have hrp : RecP w.heap.size rc (.agg #[.string t0, .int .u16 t, .int .u16 c, .int .u32 l, v4, v5, v6]) w11 := ⟨v4, v5, v6, by rw [hrc], by rw [hrc]; exact Kd.R_lower h4 HO4.out.size, by rw [hrc]; exact Kd.R_lower h5 HO4.out.size, by rw [hrc]; exact Kd.R_lower h6 HO4.out.size⟩
              have HRP := Aside0.mk hrp
              have HRA := Aside0.mk (show RecAt w11 (.agg #[.string t0, .int .u16 t, .int .u16 c, .int .u32 l, v4, v5, v6]) rc by rw [hrc] at hrat ⊢; exact hrat)
              obtain ⟨A4, n4, c4, rfl⟩ := R_anyslice h4
              obtain ⟨A5, n5, c5, rfl⟩ := R_anyslice h5
              obtain ⟨A6, n6, c6, rfl⟩ := R_anyslice h6
              clear ht hd ho hv hr11 hx11 h4 h5 h6 hfine hrat hrp hrc HQ4 HV4 HR4 z0 z1 hS
              have x0 := HQ11.out.is 0 rfl
              have x1 := HQ11.out.is 1 rfl
              have x2 := HQ11.out.is 2 rfl
              have x3 := HQ11.out.is 3 rfl
              have x4 := HQ11.out.is 4 rfl
              have x5 := HQ11.out.is 5 rfl
              have x6 := HQ11.out.is 6 rfl
              go_wp2_with fail
              refine (check_calls rc _ _ HRA.out HF.out).mono ?_
              obtain ⟨ck, hck⟩ : ∃ ck, checkF rc = ck := ⟨_, rfl⟩
              rw [hck] at hR ⊢
              rintro e w12 ⟨rfl, hb⟩
              have HQ12 := Aside0.mk (HQ11.out.below hb)
              have HV12 := Aside0.mk (HV11.out.below hb)
              have HR12 := Aside0.mk (HR11.out.below hb)
              have HO12 := Aside0.mk (HO11.out.trans (Only.of_below hb g))
              have HRP12 := Aside0.mk (HRP.out.below hb)
              clear hb x0 x1 x2 x3 x4 x5 x6 hck HRP
              by_cases k1 : ck = 0
              · rw [if_pos k1] at hR
                have d2 : (ck != 0) = false := by rw [bne_eq_false_iff_eq]; exact k1
                clear k1
                have x0 := HQ12.out.is 0 rfl
                have x1 := HQ12.out.is 1 rfl
                have x2 := HQ12.out.is 2 rfl
                have x3 := HQ12.out.is 3 rfl
                have x4 := HQ12.out.is 4 rfl
                have x5 := HQ12.out.is 5 rfl
                have x6 := HQ12.out.is 6 rfl
                have z0 := HV12.out.is 0 rfl
                have z1 := HV12.out.is 1 rfl
                have z2 := HV12.out.is 2 rfl
                have z3 := HV12.out.is 3 rfl
                have z4 := HV12.out.is 4 rfl
                have z5 := HV12.out.is 5 rfl
                have z6 := HV12.out.is 6 rfl
                have g0 := HV12.out.frozen 0
                have g1 := HV12.out.frozen 1
                have g2 := HV12.out.frozen 2
                have g3 := HV12.out.frozen 3
                have g4 := HV12.out.frozen 4
                have g5 := HV12.out.frozen 5
                have g6 := HV12.out.frozen 6
                have hqr := HLt.out.2
                have hrq := Ne.symm HLt.out.2
                go_wp2_with fail
                have L0 : Laying w w12 g r s a2 _ _ := ⟨HV12.out, HR12.out, HO12.out, hgr, HSz.out.2⟩
                have L1 := L0.step 0 (.string t0)
                have L2 := L1.step 1 (.int .u16 t)
                have L3 := L2.step 2 (.int .u16 c)
                have L4 := L3.step 3 (.int .u32 l)
                have L5 := L4.step 4 (.slice A4 n4 c4)
                have L6 := L5.step 5 (.slice A5 n5 c5)
                have L7 := L6.step 6 (.slice A6 n6 c6)
                have P7 := ((((((HRP12.out.set L0.v 0 (.string t0)).set L1.v 1 (.int .u16 t)).set L2.v 2 (.int .u16 c)).set L3.v 3 (.int .u32 l)).set L4.v 4 (.slice A4 n4 c4)).set L5.v 5 (.slice A5 n5 c5)).set L6.v 6 (.slice A6 n6 c6)
                clear L0 L1 L2 L3 L4 L5 L6 z0 z1 z2 z3 z4 z5 z6 g0 g1 g2 g3 g4 g5 g6 x0 x1 x2 x3 x4 x5 x6
                generalize hW : ((((((w12.setCell ⟨r, 0, none⟩ (.string t0)).setCell ⟨r, 1, none⟩ (.int .u16 t)).setCell ⟨r, 2, none⟩ (.int .u16 c)).setCell ⟨r, 3, none⟩ (.int .u32 l)).setCell ⟨r, 4, none⟩ (.slice A4 n4 c4)).setCell ⟨r, 5, none⟩ (.slice A5 n5 c5)).setCell ⟨r, 6, none⟩ (.slice A6 n6 c6) = w13 at *
                have HV9 : SAt w13 r #[.string t0, .int .u16 t, .int .u16 c, .int .u32 l, .slice A4 n4 c4, .slice A5 n5 c5, .slice A6 n6 c6] 85 := L7.v
                have z0 := HV9.is 0 rfl
                have z1 := HV9.is 1 rfl
                have z2 := HV9.is 2 rfl
                have z3 := HV9.is 3 rfl
                have z4 := HV9.is 4 rfl
                have z5 := HV9.is 5 rfl
                have z6 := HV9.is 6 rfl
                refine bodyPost_ret (v := .agg #[.string t0, .int .u16 t, .int .u16 c, .int .u32 l, .slice A4 n4 c4, .slice A5 n5 c5, .slice A6 n6 c6]) (by simp [results, Try.results63, go_sem, z0, z1, z2, z3, z4, z5, z6]) rfl ?_
                exact Ends.ok hR.symm P7 L7.rd L7.o
              · rw [if_neg k1] at hR
                have d2 : (ck != 0) = true := by rw [bne_iff_ne]; exact k1
                clear k1
                go_wp2_with fail
                exact ⟨rfl, Ends.err hR.symm HO12.out⟩
def recsR (s : ByteArray) : Nat → List Rec → Int → Except Int (List Rec × Int)
  | 0, out, a => .ok (out, a)
  | k + 1, out, a => match recR s a with
    | .error c => .error c
    | .ok (r, a') => recsR s k (out ++ [r]) a'
def RecsP (B : Nat) (l : List Rec) (v : Value) (w : World) : Prop := Kd.R kRec 85 w B (fun _ => True) v l
theorem recR_at {s : ByteArray} {a : Int} {r : Rec} {a' : Int} (h : recR s a = .ok (r, a')) : 0 ≤ a' ∧ a' ≤ s.size := by
  unfold recR at h
  cases hn : nameAt s a with
  | error c => rw [hn] at h; exact absurd h (by simp)
  | ok x =>
    obtain ⟨b, a1⟩ := x
    rw [hn] at h
    simp only [] at h
    cases h1 : getF s a1 2 with
    | none => rw [h1] at h; exact absurd h (by simp)
    | some t =>
      rw [h1] at h
      simp only [] at h
      cases h2 : getF s (a1 + 2) 2 with
      | none => rw [h2] at h; exact absurd h (by simp)
      | some c =>
        rw [h2] at h
        simp only [] at h
        cases h3 : getF s (a1 + 2 + 2) 4 with
        | none => rw [h3] at h; exact absurd h (by simp)
        | some l =>
          rw [h3] at h
          simp only [] at h
          cases h4 : getF s (a1 + 2 + 2 + 4) 2 with
          | none => rw [h4] at h; exact absurd h (by simp)
          | some n =>
            rw [h4] at h
            simp only [] at h
            have g4 := get2 h4
            by_cases c1 : (s.size : Int) - (a1 + 2 + 2 + 4 + 2) < n
            · rw [if_pos c1] at h; exact absurd h (by simp)
            rw [if_neg c1] at h
            cases hd : dataR s t (a1 + 2 + 2 + 4 + 2 + n) (a1 + 2 + 2 + 4 + 2) with
            | error d => rw [hd] at h; exact absurd h (by simp)
            | ok x =>
              obtain ⟨⟨names, nums, texts⟩, a2⟩ := x
              rw [hd] at h
              simp only [] at h
              have := (dataR_all hd (by omega)).2
              split at h
              · have := (Prod.mk.inj (Except.ok.inj h)).2
                omega
              · exact absurd h (by simp)
set_option maxHeartbeats 8000000 in
set_option maxRecDepth 100000 in
theorem records_reads {w : World} {g : Nat} {s : ByteArray} {a : Int} {count : Nat} (h : RAt w g s a) (hs : s.size ≤ 1000000) (h0 : 0 ≤ a) (ha : a ≤ s.size) (hc : count ≤ 256) :
    Calls Try.prog 49 #[.pointer (some ⟨g, 0, none⟩), .int .i64 count] w fun e w' => Ends (RecsP w.heap.size) (recsR s count [] a) w g s e w' := by
  obtain ⟨R, hR⟩ : ∃ R, recsR s count [] a = R := ⟨_, rfl⟩
  rw [hR]
  have HR := Aside0.mk h
  have HE := Aside0.mk hR
  have HO := Aside0.mk (Only.refl g w)
  have HS := Lib.hid (show s.size ≤ 1000000 from hs)
  have HA := Lib.hid (show 0 ≤ a ∧ a ≤ s.size from ⟨h0, ha⟩)
  have p1 : (count : Int) ≤ 256 := by omega
  have HC := Lib.hid hc
  clear h hR hs h0 ha hc
  go_enter Try.func49, Try.ntmps49
  go_wp2_with fail
  go_loopg [5, 7] count (fun kq v5 v7 w' => ∃ (i : Nat) (out : List Rec) (at' : Int), v7 = .int .i64 i ∧ Aside0 (recsR s kq out at' = R) ∧ Aside0 (kq + i = count) ∧ Aside0 (out.length = i) ∧ Aside0 (0 ≤ at' ∧ at' ≤ s.size) ∧ Aside0 (RAt w' g s at') ∧ Aside0 (Only g w w') ∧ Aside0 (RecsP w.heap.size out v5 w'))
  case atStart => exact ⟨0, [], a, rfl, HE, ⟨rfl⟩, ⟨rfl⟩, ⟨HA.out⟩, HR, HO, ⟨Kd.R_nil _ _ _ _ _⟩⟩
  case round =>
    clear HE HO HR HA
    obtain ⟨i, out, at', rfl, HE, HK, HL, HA, HR, HO, HB⟩ := hrel
    have he := HE.out
    clear HE
    cases gk with
    | zero =>
      have HE := Lib.hid he
      obtain rfl : i = count := by have := HK.out; omega
      clear he
      go_wp2_with fail
      go_ret
      exact Ends.ok HE.out.symm HB.out HR.out HO.out
    | succ k =>
      unfold recsR at he
      have q1 : (i : Int) < (count : Int) := by have := HK.out; omega
      go_wp2_with fail
      refine (record_reads HR.out HS.out HA.out.1 HA.out.2).mono ?_
      intro e w2 ht
      cases hn : recR s at' with
      | error c =>
        rw [hn] at he
        obtain rfl := ht.bad c hn
        exact ⟨rfl, Ends.err he.symm (HO.out.trans ht.only)⟩
      | ok x =>
        obtain ⟨rc, a2⟩ := x
        rw [hn] at he
        simp only [] at he
        have HE := Aside0.mk he
        have HA2 := Aside0.mk (recR_at hn)
        obtain ⟨v, rfl, hp, hr⟩ := ht.good rc a2 hn
        obtain ⟨v4, v5', v6, rfl, h4, h5, h6⟩ := hp
        have HR2 := Aside0.mk hr
        have HO2 := Aside0.mk (HO.out.trans ht.only)
        have hb2 : RecsP w.heap.size out u5 w2 := R_only HB.out HR.out (by decide) ht.only
        have HB2 := Aside0.mk hb2
        have H4 := Aside0.mk (Kd.R_apartR (Kd.R_lower h4 HO.out.size) hb2 (by decide))
        have H5 := Aside0.mk (Kd.R_apartR (Kd.R_lower h5 HO.out.size) hb2 (by intro q hq; rw [show q = 81 by simpa [Kd.int, Kd.scalar] using hq]; decide))
        have H6 := Aside0.mk (Kd.R_apartR (Kd.R_lower h6 HO.out.size) hb2 (by decide))
        have HL1 := Aside0.mk (show (out.length + 1) * 96 ≤ 140737488355328 by have := HL.out; have := HK.out; have := HC.out; omega)
        obtain ⟨A4, n4, c4, rfl⟩ := R_anyslice h4
        obtain ⟨A5, n5, c5, rfl⟩ := R_anyslice h5
        obtain ⟨A6, n6, c6, rfl⟩ := R_anyslice h6
        clear ht hn he hr h4 h5 h6 hb2
        go_wp2_with ((with_reducible refine gate_builtin (b := .append) (xs := #[.tmp 9, .tmp 12]) rfl ?_); at_builtin; go_must (refine Kd.R_append kRec (w0 := w2) w.heap.size rfl (.tmp 9) (.tmp 12) 33 85 (.agg #[(.string ⟨#[]⟩), (.int .u16 0), (.int .u16 0), (.int .u32 0), (.slice none 0 0), (.slice none 0 0), (.slice none 0 0)]) 96 rfl Try.underlying33 infoRec rfl (by decide) (by decide) u5 out rc [.string rc.f0, .int .u16 rc.f1, .int .u16 rc.f2, .int .u32 rc.f3, .slice A4 n4 c4, .slice A5 n5 c5, .slice A6 n6 c6] (fun _ => True) (fun k => True ∧ some k ≠ u5.ownBlock) rfl rfl (kRec_mkM w2 w.heap.size _ rc H4.out H5.out H6.out) (fun k hk => ⟨trivial, hk.2⟩) (fun _ _ => trivial) HB2.out (Below.refl _ _) HO2.out.size HL1.out ?_; intro va wa hoa hba hga hata; have HR4 := Aside0.mk (show RAt wa g s a2 from blk_grown HR2.out hga (Kd.R_ne HB2.out HR2.out (by decide))); have HO4 := Aside0.mk (HO2.out.of_grown hga (Kd.R_base HB2.out)); have HB4 := Aside0.mk hoa; clear hoa hba hga hata))
        go_roundg k
        case measure => omega
        case rel => exact ⟨i + 1, _, a2, by go_num, HE, ⟨by have := HK.out; omega⟩, ⟨by have := HL.out; rw [List.length_append, List.length_singleton]; omega⟩, HA2, HR4, HO4, HB4⟩
end Go.Proofs.Ytfoflodgegehfaa.M
set_option linter.unusedVariables false
set_option linter.unusedSimpArgs false
namespace Go.Proofs.Ytfoflodgegehfaa.M
open Go.RowKit Go.Maps Go.Proofs.YtfoflodgegehfaaW.PrintWords Go.Proofs.YtfoflodgegehfaaW.PrintLast Go.Proofs.YtfoflodgegehfaaW.PrintMore
attribute [local go_sem] max2_int min2_int max_two min_two max_three min_three max_four min_four
attribute [local go_sem ↓] Go.wp_at_zero Go.wp_at_succ
def cntR (s : ByteArray) : Nat → List Int → Int → Except Int (List Int × Int)
  | 0, out, a => .ok (out, a)
  | k + 1, out, a => match getF s a 2 with
    | none => .error 2
    | some n => cntR s k (out ++ [n]) (a + 2)
def quessR (s : ByteArray) : Nat → List Ques → Int → Except Int (List Ques × Int)
  | 0, out, a => .ok (out, a)
  | k + 1, out, a => match quesR s a with
    | .error c => .error c
    | .ok (q, a') => quessR s k (out ++ [q]) a'
def msgE (s : ByteArray) (id fl : Int) (qs : List Ques) (ans auth : List Rec) : List Rec × Int → Except Int (Msg × Int)
  | (add, a) => if a < s.size then .error 7 else .ok (⟨id, fl, qs, ans, auth, add⟩, a)
def msgD (s : ByteArray) (id fl : Int) (l : List Int) (qs : List Ques) (ans : List Rec) : List Rec × Int → Except Int (Msg × Int)
  | (auth, a) => match recsR s (l.getD 3 0).toNat [] a with
    | .error c => .error c
    | .ok x => msgE s id fl qs ans auth x
def msgC (s : ByteArray) (id fl : Int) (l : List Int) (qs : List Ques) : List Rec × Int → Except Int (Msg × Int)
  | (ans, a) => match recsR s (l.getD 2 0).toNat [] a with
    | .error c => .error c
    | .ok x => msgD s id fl l qs ans x
def msgB (s : ByteArray) (id fl : Int) (l : List Int) : List Ques × Int → Except Int (Msg × Int)
  | (qs, a) => match recsR s (l.getD 1 0).toNat [] a with
    | .error c => .error c
    | .ok x => msgC s id fl l qs x
def msgA (s : ByteArray) (id fl : Int) : List Int × Int → Except Int (Msg × Int)
  | (l, a) => if 256 < l.sum then .error 6 else
    match quessR s (l.getD 0 0).toNat [] a with
    | .error c => .error c
    | .ok x => msgB s id fl l x
def msgR (s : ByteArray) : Except Int (Msg × Int) :=
  match getF s 0 2 with
  | none => .error 2
  | some id => match getF s 2 2 with
    | none => .error 2
    | some fl => match cntR s 4 [] 4 with
      | .error c => .error c
      | .ok x => msgA s id fl x
def QuessP (B : Nat) (l : List Ques) (v : Value) (w : World) : Prop := Kd.R kQues 63 w B (fun _ => True) v l
def MsgP (B : Nat) (m : Msg) (v : Value) (w : World) : Prop := ∃ v2 v3 v4 v5, v = .agg #[.int .u16 m.id, .int .u16 m.flags, v2, v3, v4, v5] ∧ QuessP B m.qs v2 w ∧ RecsP B m.ans v3 w ∧ RecsP B m.auth v4 w ∧ RecsP B m.add v5 w
def zMsg : Array Value := #[.int .u16 0, .int .u16 0, .slice none 0 0, .slice none 0 0, .slice none 0 0, .slice none 0 0]
structure MAt (w0 w : World) (g r m c : Nat) (s : ByteArray) (a : Int) (mc cc : Array Value) : Prop where
  rd : RAt w g s a
  o : Only g w0 w
  vr : SAt w r zMsg 35
  vm : SAt w m mc 35
  vc : SAt w c cc 93
  rm : r ≠ m
  rc : r ≠ c
  mc' : m ≠ c
  sr : w0.heap.size ≤ r
  sm : w0.heap.size ≤ m
  sc : w0.heap.size ≤ c
section
variable {w0 w w1 : World} {g r m c : Nat} {s : ByteArray} {a a' : Int} {mc cc : Array Value}
theorem MAt.call (h : MAt w0 w g r m c s a mc cc) (ho : Only g w w1) (hr : RAt w1 g s a') : MAt w0 w1 g r m c s a' mc cc :=
  ⟨hr, h.o.trans ho, h.vr.only h.rd (by decide) ho, h.vm.only h.rd (by decide) ho, h.vc.only h.rd (by decide) ho, h.rm, h.rc, h.mc', h.sr, h.sm, h.sc⟩
theorem MAt.drew (h : MAt w0 w g r m c s a mc cc) : MAt w0 w.drew g r m c s a mc cc := h.call (Only.refl g w).drew h.rd
theorem MAt.setm (h : MAt w0 w g r m c s a mc cc) (j : Nat) (u : Value) : MAt w0 (w.setCell ⟨m, j, none⟩ u) g r m c s a (mc.setIfInBounds j u) cc :=
  ⟨h.rd.far (Ne.symm (h.vm.ne h.rd (by decide))) j u, h.o.setNew h.sm j u, h.vr.far h.rm j u, h.vm.set j u, h.vc.far (Ne.symm h.mc') j u, h.rm, h.rc, h.mc', h.sr, h.sm, h.sc⟩
theorem MAt.setc (h : MAt w0 w g r m c s a mc cc) (j : Nat) (u : Value) : MAt w0 (w.setCell ⟨c, j, none⟩ u) g r m c s a mc (cc.setIfInBounds j u) :=
  ⟨h.rd.far (Ne.symm (h.vc.ne h.rd (by decide))) j u, h.o.setNew h.sc j u, h.vr.far h.rc j u, h.vm.far h.mc' j u, h.vc.set j u, h.rm, h.rc, h.mc', h.sr, h.sm, h.sc⟩
theorem MAt.grown {row : Option Nat} (h : MAt w0 w g r m c s a mc cc) (hg : w.grownBy w1 row) (hb : ∀ k, row = some k → w0.heap.size ≤ k) (n1 : some g ≠ row) (n2 : some r ≠ row) (n3 : some m ≠ row) (n4 : some c ≠ row) : MAt w0 w1 g r m c s a mc cc :=
  ⟨blk_grown h.rd hg n1, h.o.of_grown hg hb, blk_grown h.vr hg n2, blk_grown h.vm hg n3, blk_grown h.vc hg n4, h.rm, h.rc, h.mc', h.sr, h.sm, h.sc⟩
end
theorem four_nats {l : List Int} (hl : l.length = 4) (h : ∀ x ∈ l, 0 ≤ x ∧ x ≤ 65535) : ∃ n0 n1 n2 n3 : Nat, l = [(n0 : Int), (n1 : Int), (n2 : Int), (n3 : Int)] := by
  match l, hl with
  | [a, b, c, d], _ =>
    have h0 := h a (by simp)
    have h1 := h b (by simp)
    have h2 := h c (by simp)
    have h3 := h d (by simp)
    exact ⟨a.toNat, b.toNat, c.toNat, d.toNat, by rw [Int.toNat_of_nonneg h0.1, Int.toNat_of_nonneg h1.1, Int.toNat_of_nonneg h2.1, Int.toNat_of_nonneg h3.1]⟩
theorem quesR_at {s : ByteArray} {a : Int} {q : Ques} {a' : Int} (h : quesR s a = .ok (q, a')) : 0 ≤ a' ∧ a' ≤ s.size := by
  unfold quesR at h
  cases hn : nameAt s a with
  | error c => rw [hn] at h; exact absurd h (by simp)
  | ok x =>
    obtain ⟨b, a1⟩ := x
    rw [hn] at h
    simp only [] at h
    cases h1 : getF s a1 2 with
    | none => rw [h1] at h; exact absurd h (by simp)
    | some t =>
      rw [h1] at h
      simp only [] at h
      cases h2 : getF s (a1 + 2) 2 with
      | none => rw [h2] at h; exact absurd h (by simp)
      | some c =>
        rw [h2] at h
        have := (Prod.mk.inj (Except.ok.inj h)).2
        have := get2 h2
        omega
theorem recsR_at {s : ByteArray} (K : Nat) : ∀ {out : List Rec} {a : Int} {out' : List Rec} {a' : Int}, recsR s K out a = .ok (out', a') → 0 ≤ a ∧ a ≤ s.size → 0 ≤ a' ∧ a' ≤ s.size := by
  induction K with
  | zero =>
    intro out a out' a' h ha
    have := (Prod.mk.inj (Except.ok.inj h)).2
    omega
  | succ K ih =>
    intro out a out' a' h ha
    unfold recsR at h
    cases h1 : recR s a with
    | error c => rw [h1] at h; exact absurd h (by simp)
    | ok x =>
      obtain ⟨r, a2⟩ := x
      rw [h1] at h
      exact ih h (recR_at h1)
theorem MsgP.set {B : Nat} {mm : Msg} {v : Value} {w : World} {r : Nat} {cs : Array Value} (h : MsgP B mm v w) (hx : SAt w r cs 35) (j : Nat) (u : Value) : MsgP B mm v (w.setCell ⟨r, j, none⟩ u) := by
  obtain ⟨v2, v3, v4, v5, h1, h2, h3, h4, h5⟩ := h
  exact ⟨v2, v3, v4, v5, h1, Kd.R_set h2 hx (by decide) j u, Kd.R_set h3 hx (by decide) j u, Kd.R_set h4 hx (by decide) j u, Kd.R_set h5 hx (by decide) j u⟩
def cells4 (l : List Int) : Array Value := (l.map (Value.int .i64)).toArray
theorem cells4_set (l : List Int) (i : Nat) (n : Int) : (cells4 l).setIfInBounds i (.int .i64 n) = cells4 (l.set i n) := by
  simp [cells4]
theorem set_next (out : List Int) (k : Nat) (n : Int) : (out ++ List.replicate (k + 1) (0 : Int)).set out.length n = (out ++ [n]) ++ List.replicate k 0 := by
  rw [List.set_append_right _ _ (Nat.le_refl _), Nat.sub_self, List.replicate_succ, List.set_cons_zero, List.append_assoc]
  rfl
set_option maxHeartbeats 8000000 in
set_option maxRecDepth 100000 in
theorem message_reads {w : World} {g : Nat} {s : ByteArray} (h : RAt w g s 0) (hs : s.size ≤ 1000000) :
    Calls Try.prog 30 #[.pointer (some ⟨g, 0, none⟩)] w fun e w' => Ends (MsgP w.heap.size) (msgR s) w g s e w' := by
  obtain ⟨R, hR⟩ : ∃ R, msgR s = R := ⟨_, rfl⟩
  rw [hR]
  unfold msgR at hR
  have HS := Lib.hid hs
  have p0 : (s.size : Int) ≤ 1000000 := by omega
  go_enter Try.func30, Try.ntmps30
  go_wp2_with fail
  have hr1 := h.below (below_alloc (Below.refl _ _) (.cells zMsg 35 (0, 0)))
  have hv1 := SAt.new w zMsg 35
  have ho1 := (Only.refl g w).alloc (.cells zMsg 35 (0, 0))
  cases h1 : getF s 0 2 with
  | none =>
    rw [h1] at hR
    refine (num_no hr1 hs h1).mono ?_
    rintro e w' ⟨rfl, ho⟩
    exact ⟨rfl, Ends.err hR.symm (ho1.trans ho)⟩
  | some id =>
    rw [h1] at hR
    simp only [] at hR
    obtain ⟨i0, i1, _, i3, hwi⟩ := get2 h1
    refine (num_yes hr1 hs h1).mono ?_
    rintro e w2 ⟨rfl, hr2, ho⟩
    have ho2 := ho1.trans ho
    have hv2 := hv1.only hr1 (by decide) ho
    rw [show (0 : Int) + 2 = 2 from rfl] at hr2
    clear h1 hr1 hv1 ho1 ho h
    go_wp2_with fail
    have hm3 := SAt.new w2 #[.int .u16 id, .int .u16 0, .slice none 0 0, .slice none 0 0, .slice none 0 0, .slice none 0 0] 35
    have hr3 := hr2.below (below_alloc (Below.refl _ _) (.cells #[.int .u16 id, .int .u16 0, .slice none 0 0, .slice none 0 0, .slice none 0 0, .slice none 0 0] 35 (0, 0)))
    have ho3 := ho2.alloc (.cells #[.int .u16 id, .int .u16 0, .slice none 0 0, .slice none 0 0, .slice none 0 0, .slice none 0 0] 35 (0, 0))
    have hv3 := hv2.below (below_alloc (Below.refl _ _) (.cells #[.int .u16 id, .int .u16 0, .slice none 0 0, .slice none 0 0, .slice none 0 0, .slice none 0 0] 35 (0, 0)))
    have hsz := ho2.size
    have hlt := hv2.lt
    clear hr2 ho2 hv2
    generalize hW : w2.alloc (.cells #[.int .u16 id, .int .u16 0, .slice none 0 0, .slice none 0 0, .slice none 0 0, .slice none 0 0] 35 (0, 0)) = w3 at *
    obtain ⟨m, hm⟩ : ∃ m, w2.heap.size = m := ⟨_, rfl⟩
    obtain ⟨r, hr⟩ : ∃ r, w.heap.size = r := ⟨_, rfl⟩
    rw [hm] at hm3 hsz hlt
    rw [hr] at hv3 hlt
    have hrm : r ≠ m := by omega
    have hsr : w.heap.size ≤ r := by omega
    rw [hm]
    rw [hr]
    clear hm hr hW hlt
    cases h2 : getF s 2 2 with
    | none =>
      rw [h2] at hR
      refine (num_no hr3 hs h2).mono ?_
      rintro e w' ⟨rfl, ho⟩
      exact ⟨rfl, Ends.err hR.symm (ho3.trans ho)⟩
    | some fl =>
      rw [h2] at hR
      simp only [] at hR
      obtain ⟨f0, f1, _, f3, hwf⟩ := get2 h2
      refine (num_yes hr3 hs h2).mono ?_
      rintro e w4 ⟨rfl, hr4, ho⟩
      rw [show (2 : Int) + 2 = 4 from rfl] at hr4
      have ho4 := ho3.trans ho
      have hv4 := hv3.only hr3 (by decide) ho
      have hm4 := hm3.only hr3 (by decide) ho
      have hgm := hm4.ne hr4 (by decide)
      have y := hm4.is 1 rfl
      have f := hm4.frozen 1
      clear h2 hr3 ho3 hv3 hm3 ho
      go_wp2_with fail
      have ho5 := ho4.setNew hsz 1 (.int .u16 fl)
      have hr5 := hr4.far (Ne.symm hgm) 1 (.int .u16 fl)
      have hv5 := hv4.far hrm 1 (.int .u16 fl)
      have hm5 : SAt (w4.setCell ⟨m, 1, none⟩ (.int .u16 fl)) m #[.int .u16 id, .int .u16 fl, .slice none 0 0, .slice none 0 0, .slice none 0 0, .slice none 0 0] 35 := hm4.set 1 (.int .u16 fl)
      have hc6 := SAt.new (w4.setCell ⟨m, 1, none⟩ (.int .u16 fl)) (cells4 [0, 0, 0, 0]) 93
      rw [show (w4.setCell ⟨m, 1, none⟩ (.int .u16 fl)).heap.size = w4.heap.size by simp [World.setCell]] at hc6
      have hM : MAt w ((w4.setCell ⟨m, 1, none⟩ (.int .u16 fl)).alloc (.cells (cells4 [0, 0, 0, 0]) 93 (0, 0))) g r m w4.heap.size s 4 #[.int .u16 id, .int .u16 fl, .slice none 0 0, .slice none 0 0, .slice none 0 0, .slice none 0 0] (cells4 [0, 0, 0, 0]) :=
        ⟨hr5.below (below_alloc (Below.refl _ _) _), ho5.alloc _, hv5.below (below_alloc (Below.refl _ _) _), hm5.below (below_alloc (Below.refl _ _) _), hc6, hrm, by have := hv4.lt; omega, by have := hm4.lt; omega, hsr, hsz, by have := ho4.size; omega⟩
      have HM := Aside0.mk hM
      have HQ := Aside0.mk hR
      obtain ⟨RC, hRC⟩ : ∃ RC, cntR s 4 [] 4 = RC := ⟨_, rfl⟩
      rw [hRC] at HQ
      have HL := Aside0.mk hRC
      clear hR hRC hM ho5 hr5 hv5 hm5 hc6 ho4 hr4 hv4 hm4 y f
      obtain ⟨c, hc⟩ : ∃ c, w4.heap.size = c := ⟨_, rfl⟩
      rw [hc] at HM ⊢
      clear hc
      go_loopg [5, 15] 4 (fun kq v5 v15 w' => ∃ (i : Nat) (out : List Int) (at' all : Int), v5 = .int .i64 all ∧ v15 = .int .i64 i ∧ Aside0 (cntR s kq out at' = RC) ∧ Aside0 (kq + i = 4) ∧ Aside0 (out.length = i) ∧ Aside0 (out.sum = all) ∧ Aside0 (∀ x ∈ out, 0 ≤ x ∧ x ≤ 65535) ∧ Aside0 (0 ≤ all ∧ all ≤ 65535 * (i : Int)) ∧ Aside0 (0 ≤ at' ∧ at' ≤ s.size) ∧ Aside0 (MAt w w' g r m c s at' #[.int .u16 id, .int .u16 fl, .slice none 0 0, .slice none 0 0, .slice none 0 0, .slice none 0 0] (cells4 (out ++ List.replicate kq 0))))
      case atStart => exact ⟨0, [], 4, 0, rfl, rfl, HL, ⟨rfl⟩, ⟨rfl⟩, ⟨rfl⟩, ⟨fun x hx => absurd hx (by simp)⟩, ⟨by omega⟩, ⟨by omega⟩, HM⟩
      case round =>
        clear HL HM
        obtain ⟨i, out, at', all, rfl, rfl, HL, HK, HLen, HSum, HAll, HB, HA, HM⟩ := hrel
        have hl := HL.out
        clear HL
        cases gk with
        | zero =>
          obtain rfl : i = 4 := by have := HK.out; omega
          have hq := HQ.out
          rw [← hl] at hq
          have hq : msgA s id fl (out, at') = R := hq
          obtain ⟨n0, n1, n2, n3, hout⟩ := four_nats HLen.out HAll.out
          subst hout
          have hsum : ([(n0 : Int), n1, n2, n3] : List Int).sum = (n0 : Int) + (n1 + (n2 + n3)) := by simp
          rw [HSum.out] at hsum
          have HSm := Lib.hid hsum
          clear hsum
          have hM : MAt w wr g r m c s at' #[.int .u16 id, .int .u16 fl, .slice none 0 0, .slice none 0 0, .slice none 0 0, .slice none 0 0] #[.int .i64 n0, .int .i64 n1, .int .i64 n2, .int .i64 n3] := HM.out
          clear hl HQ HM HAll HK
          by_cases c1 : 256 < all
          · have hq := ((if_pos (by rw [HSum.out]; exact c1)).symm.trans hq : Except.error 6 = R)
            have d1 : decide (256 < all) = true := decide_eq_true c1
            have HE := Lib.hid hq
            clear hq c1
            go_wp2_with fail
            exact ⟨rfl, Ends.err HE.out.symm hM.o⟩
          have hq := ((if_neg (by rw [HSum.out]; exact c1)).symm.trans hq : (match quessR s n0 [] at' with | .error c => .error c | .ok x => msgB s id fl [(n0 : Int), n1, n2, n3] x) = R)
          have d1 : decide (256 < all) = false := decide_eq_false c1
          have N0 := Lib.hid (show n0 ≤ 256 ∧ n1 ≤ 256 ∧ n2 ≤ 256 ∧ n3 ≤ 256 by have := HSm.out; omega)
          have k0 : (n0 : Int) ≤ 256 := by have := N0.out; omega
          have y0 := hM.vc.is 0 rfl
          have hmc := hM.mc'
          have hcm := Ne.symm hM.mc'
          have HM := Aside0.mk hM
          obtain ⟨RQ, hRQ⟩ : ∃ RQ, quessR s n0 [] at' = RQ := ⟨_, rfl⟩
          rw [hRQ] at hq
          have HQ := Aside0.mk hq
          have HL := Aside0.mk hRQ
          have HX := Aside0.mk (show QuessP w.heap.size [] (.slice none 0 0) wr from Kd.R_nil _ _ _ _ _)
          clear c1 HSm HB HSum hM hq hRQ HLen
          go_wp2_with fail
          clear y0
          go_loopg [34] n0 (fun kq v34 w' => ∃ (i : Nat) (qs : List Ques) (at' : Int) (v2 : Value), v34 = .int .i64 i ∧ Aside0 (quessR s kq qs at' = RQ) ∧ Aside0 (kq + i = n0) ∧ Aside0 (qs.length = i) ∧ Aside0 (0 ≤ at' ∧ at' ≤ s.size) ∧ Aside0 (MAt w w' g r m c s at' #[.int .u16 id, .int .u16 fl, v2, .slice none 0 0, .slice none 0 0, .slice none 0 0] #[.int .i64 n0, .int .i64 n1, .int .i64 n2, .int .i64 n3]) ∧ Aside0 (QuessP w.heap.size qs v2 w'))
          case atStart => exact ⟨0, [], at', .slice none 0 0, rfl, HL, ⟨rfl⟩, ⟨rfl⟩, HA, HM, HX⟩
          case round =>
            clear HL HM HA HX
            obtain ⟨i, qs, at', v2, rfl, HL, HK, HLen, HA, HM, HX⟩ := hrel
            have hl := HL.out
            obtain ⟨A2, l2, c2, rfl⟩ := R_anyslice HX.out
            clear HL
            cases gk with
            | zero =>
              obtain rfl : i = n0 := by have := HK.out; omega
              have hq := HQ.out
              rw [← hl] at hq
              have hq : msgB s id fl [(i : Int), n1, n2, n3] (qs, at') = R := hq
              clear hl HQ HK
              have hmc := HM.out.mc'
              have hcm := Ne.symm HM.out.mc'
              have y1 := HM.out.vc.is 1 rfl
              have k1 : (n1 : Int) ≤ 256 := by have := N0.out; omega
              have hq : (match recsR s n1 [] at' with | .error c => .error c | .ok x => msgC s id fl [(i : Int), n1, n2, n3] qs x) = R := hq
              go_wp2_with fail
              refine (records_reads (count := n1) HM.out.rd HS.out HA.out.1 HA.out.2 N0.out.2.1).mono ?_
              intro e w' ht
              cases hn : recsR s n1 [] at' with
              | error d =>
                rw [hn] at hq
                obtain rfl := ht.bad d hn
                exact ⟨rfl, Ends.err hq.symm (HM.out.o.trans ht.only)⟩
              | ok x =>
                obtain ⟨ans, a3⟩ := x
                rw [hn] at hq
                obtain ⟨v, rfl, hp, hr⟩ := ht.good ans a3 hn
                obtain ⟨A3, l3, c3, rfl⟩ := R_anyslice hp
                obtain ⟨w5, hw5⟩ : ∃ x, x = w' := ⟨_, rfl⟩
                subst hw5
                have hM := HM.out.call ht.only hr
                have ym := hM.vm.is 3 rfl
                have fm := hM.vm.frozen 3
                have hX2 : QuessP w.heap.size qs (.slice A2 l2 c2) w5 := R_only HX.out HM.out.rd (by decide) ht.only
                have HX2 := Aside0.mk (show QuessP w.heap.size qs (.slice A2 l2 c2) (w5.setCell ⟨m, 3, none⟩ (.slice A3 l3 c3)) from Kd.R_set hX2 hM.vm (by decide) 3 (.slice A3 l3 c3))
                have HX3 := Aside0.mk (show RecsP w.heap.size ans (.slice A3 l3 c3) (w5.setCell ⟨m, 3, none⟩ (.slice A3 l3 c3)) from Kd.R_set (Kd.R_lower hp HM.out.o.size) hM.vm (by decide) 3 (.slice A3 l3 c3))
                have HM3 := Aside0.mk (hM.setm 3 (.slice A3 l3 c3))
                have HA3 := Aside0.mk (recsR_at _ hn HA.out)
                have hq : (match recsR s n2 [] a3 with | .error c => .error c | .ok x => msgD s id fl [(i : Int), n1, n2, n3] qs ans x) = R := hq
                have y2 := hM.vc.is 2 rfl
                have k2 : (n2 : Int) ≤ 256 := by have := N0.out; omega
                clear ht hn hp hr hX2 hM y1 HX HM HA
                go_wp2_with fail
                refine (records_reads (count := n2) HM3.out.rd HS.out HA3.out.1 HA3.out.2 N0.out.2.2.1).mono ?_
                intro e w' ht
                cases hn : recsR s n2 [] a3 with
                | error d =>
                  rw [hn] at hq
                  obtain rfl := ht.bad d hn
                  exact ⟨rfl, Ends.err hq.symm (HM3.out.o.trans ht.only)⟩
                | ok x =>
                  obtain ⟨auth, a4⟩ := x
                  rw [hn] at hq
                  obtain ⟨v, rfl, hp, hr⟩ := ht.good auth a4 hn
                  obtain ⟨A4, l4, c4, rfl⟩ := R_anyslice hp
                  obtain ⟨w6, hw5⟩ : ∃ x, x = w' := ⟨_, rfl⟩
                  subst hw5
                  have hM := HM3.out.call ht.only hr
                  have ym := hM.vm.is 4 rfl
                  have fm := hM.vm.frozen 4
                  have hX2 : QuessP w.heap.size qs (.slice A2 l2 c2) w6 := R_only HX2.out HM3.out.rd (by decide) ht.only
                  have hX3 : RecsP w.heap.size ans (.slice A3 l3 c3) w6 := R_only HX3.out HM3.out.rd (by decide) ht.only
                  have HY2 := Aside0.mk (show QuessP w.heap.size qs (.slice A2 l2 c2) (w6.setCell ⟨m, 4, none⟩ (.slice A4 l4 c4)) from Kd.R_set hX2 hM.vm (by decide) 4 (.slice A4 l4 c4))
                  have HY3 := Aside0.mk (show RecsP w.heap.size ans (.slice A3 l3 c3) (w6.setCell ⟨m, 4, none⟩ (.slice A4 l4 c4)) from Kd.R_set hX3 hM.vm (by decide) 4 (.slice A4 l4 c4))
                  have HY4 := Aside0.mk (show RecsP w.heap.size auth (.slice A4 l4 c4) (w6.setCell ⟨m, 4, none⟩ (.slice A4 l4 c4)) from Kd.R_set (Kd.R_lower hp HM3.out.o.size) hM.vm (by decide) 4 (.slice A4 l4 c4))
                  have HM4 := Aside0.mk (hM.setm 4 (.slice A4 l4 c4))
                  have HA4 := Aside0.mk (recsR_at _ hn HA3.out)
                  have hq : (match recsR s n3 [] a4 with | .error c => .error c | .ok x => msgE s id fl qs ans auth x) = R := hq
                  have y3 := hM.vc.is 3 rfl
                  have k3 : (n3 : Int) ≤ 256 := by have := N0.out; omega
                  clear ht hn hp hr hX2 hX3 hM y2 HX2 HX3 HM3 HA3
                  go_wp2_with fail
                  refine (records_reads (count := n3) HM4.out.rd HS.out HA4.out.1 HA4.out.2 N0.out.2.2.2).mono ?_
                  intro e w' ht
                  cases hn : recsR s n3 [] a4 with
                  | error d =>
                    rw [hn] at hq
                    obtain rfl := ht.bad d hn
                    exact ⟨rfl, Ends.err hq.symm (HM4.out.o.trans ht.only)⟩
                  | ok x =>
                    obtain ⟨add, a5⟩ := x
                    rw [hn] at hq
                    obtain ⟨v, rfl, hp, hr⟩ := ht.good add a5 hn
                    obtain ⟨A5, l5, c5, rfl⟩ := R_anyslice hp
                    obtain ⟨w7, hw5⟩ : ∃ x, x = w' := ⟨_, rfl⟩
                    subst hw5
                    have hM := HM4.out.call ht.only hr
                    have ym := hM.vm.is 5 rfl
                    have fm := hM.vm.frozen 5
                    have hX2 : QuessP w.heap.size qs (.slice A2 l2 c2) w7 := R_only HY2.out HM4.out.rd (by decide) ht.only
                    have hX3 : RecsP w.heap.size ans (.slice A3 l3 c3) w7 := R_only HY3.out HM4.out.rd (by decide) ht.only
                    have hX4 : RecsP w.heap.size auth (.slice A4 l4 c4) w7 := R_only HY4.out HM4.out.rd (by decide) ht.only
                    have HZ2 := Aside0.mk (show QuessP w.heap.size qs (.slice A2 l2 c2) (w7.setCell ⟨m, 5, none⟩ (.slice A5 l5 c5)) from Kd.R_set hX2 hM.vm (by decide) 5 (.slice A5 l5 c5))
                    have HZ3 := Aside0.mk (show RecsP w.heap.size ans (.slice A3 l3 c3) (w7.setCell ⟨m, 5, none⟩ (.slice A5 l5 c5)) from Kd.R_set hX3 hM.vm (by decide) 5 (.slice A5 l5 c5))
                    have HZ4 := Aside0.mk (show RecsP w.heap.size auth (.slice A4 l4 c4) (w7.setCell ⟨m, 5, none⟩ (.slice A5 l5 c5)) from Kd.R_set hX4 hM.vm (by decide) 5 (.slice A5 l5 c5))
                    have HZ5 := Aside0.mk (show RecsP w.heap.size add (.slice A5 l5 c5) (w7.setCell ⟨m, 5, none⟩ (.slice A5 l5 c5)) from Kd.R_set (Kd.R_lower hp HM4.out.o.size) hM.vm (by decide) 5 (.slice A5 l5 c5))
                    have HM5 := Aside0.mk (hM.setm 5 (.slice A5 l5 c5))
                    have hq : (if a5 < s.size then .error 7 else .ok (⟨id, fl, qs, ans, auth, add⟩, a5)) = R := hq
                    clear ht hn hp hr hX2 hX3 hX4 hM y3 HY2 HY3 HY4 HM4 HA4
                    go_wp2_with fail
                    clear ym fm
                    generalize hW : w7.setCell ⟨m, 5, none⟩ (.slice A5 l5 c5) = w8 at *
                    clear hW
                    have z0 := HM5.out.rd.c0
                    have z1 := HM5.out.rd.c1
                    refine start_ (n := 10) (S := fun w' => w'.cell? ⟨g, 0, none⟩ = some (.string s) ∧ w'.cell? ⟨g, 1, none⟩ = some (.int .i64 a5)) (ds := []) (Array.replicate 10 false) (by kernel_rfl) (by kernel_rfl) rfl ⟨z0, z1⟩ (fun hS => ?_)
                    refine dpure 0 (some 59) rfl rfl (by kernel_rfl) (fun _ _ _ h => h) (by rfl) (v := ?_) (a' := ?_) ?_ ?_ ?_
                    rotate_left 2
                    · intro w'; go_simp; with_reducible rfl
                    · simp only [Act.put, List.setIfInBounds_toArray, List.set_cons_zero, List.set_cons_succ]; rfl
                    refine dpure 1 (some 60) rfl rfl (by kernel_rfl) (fun _ _ _ h => h) (by rfl) (v := ?_) (a' := ?_) ?_ ?_ ?_
                    rotate_left 2
                    · intro w'; go_simp; with_reducible rfl
                    · simp only [Act.put, List.setIfInBounds_toArray, List.set_cons_zero, List.set_cons_succ]; rfl
                    refine dpure 2 (some 61) rfl rfl (by kernel_rfl) (fun _ _ _ h => h) (by rfl) (v := ?_) (a' := ?_) ?_ ?_ ?_
                    rotate_left 2
                    · intro w'; go_simp; with_reducible rfl
                    · simp only [Act.put, List.setIfInBounds_toArray, List.set_cons_zero, List.set_cons_succ]; rfl
                    refine dtake 3 (some 62) rfl rfl (by kernel_rfl) (fun _ _ _ h => h) (by rfl) hS (v := ?_) (a' := ?_) ?_ ?_ ?_
                    rotate_left 2
                    · rintro w' ⟨s0,s1⟩; go_simp; with_reducible rfl
                    · simp only [Act.put, List.setIfInBounds_toArray, List.set_cons_zero, List.set_cons_succ]; rfl
                    refine dpure 4 (some 63) rfl rfl (by kernel_rfl) (fun _ _ _ h => h) (by rfl) (v := ?_) (a' := ?_) ?_ ?_ ?_
                    rotate_left 2
                    · intro w'; go_simp; with_reducible rfl
                    · simp only [Act.put, List.setIfInBounds_toArray, List.set_cons_zero, List.set_cons_succ]; rfl
                    refine dpure 5 (some 64) rfl rfl (by kernel_rfl) (fun _ _ _ h => h) (by rfl) (v := ?_) (a' := ?_) ?_ ?_ ?_
                    rotate_left 2
                    · intro w'; go_simp; with_reducible rfl
                    · simp only [Act.put, List.setIfInBounds_toArray, List.set_cons_zero, List.set_cons_succ]; rfl
                    refine dpure 6 (some 65) rfl rfl (by kernel_rfl) (fun _ _ _ h => h) (by rfl) (v := ?_) (a' := ?_) ?_ ?_ ?_
                    rotate_left 2
                    · intro w'; go_simp; with_reducible rfl
                    · simp only [Act.put, List.setIfInBounds_toArray, List.set_cons_zero, List.set_cons_succ]; rfl
                    refine dtake 7 (some 66) rfl rfl (by kernel_rfl) (fun _ _ _ h => h) (by rfl) hS (v := ?_) (a' := ?_) ?_ ?_ ?_
                    rotate_left 2
                    · rintro w' ⟨s0,s1⟩; go_simp; with_reducible rfl
                    · simp only [Act.put, List.setIfInBounds_toArray, List.set_cons_zero, List.set_cons_succ]; rfl
                    refine dpure 8 (some 67) rfl rfl (by kernel_rfl) (fun _ _ _ h => h) (by rfl) (v := ?_) (a' := ?_) ?_ ?_ ?_
                    rotate_left 2
                    · intro w'; go_simp; with_reducible rfl
                    · simp only [Act.put, List.setIfInBounds_toArray, List.set_cons_zero, List.set_cons_succ]; rfl
                    clear hS
                    by_cases c9 : a5 < (s.size : Int)
                    · rw [if_pos c9] at hq
                      refine dpure 9 (some 68) rfl rfl (by kernel_rfl) (fun _ _ _ h => h) (by rfl) (v := .bool true) (a' := ?_) ?_ ?_ ?_
                      rotate_left 1
                      · intro w'; go_simp; first | done | omega | simp [c9]
                      · simp only [Act.put, List.setIfInBounds_toArray, List.set_cons_zero, List.set_cons_succ]; rfl
                      refine done_ (by kernel_rfl) ?_
                      clear c9
                      go_wp2_with fail
                      exact ⟨rfl, Ends.err hq.symm HM5.out.o.drew⟩
                    · rw [if_neg c9] at hq
                      refine dpure 9 (some 68) rfl rfl (by kernel_rfl) (fun _ _ _ h => h) (by rfl) (v := .bool false) (a' := ?_) ?_ ?_ ?_
                      rotate_left 1
                      · intro w'; go_simp; first | done | omega | simp [c9]
                      · simp only [Act.put, List.setIfInBounds_toArray, List.set_cons_zero, List.set_cons_succ]; rfl
                      refine done_ (by kernel_rfl) ?_
                      clear c9 z0 z1
                      have HM6 := HM5.out.drew
                      have HP6 : MsgP w.heap.size ⟨id, fl, qs, ans, auth, add⟩ (.agg #[.int .u16 id, .int .u16 fl, .slice A2 l2 c2, .slice A3 l3 c3, .slice A4 l4 c4, .slice A5 l5 c5]) w8.drew := ⟨_, _, _, _, rfl, Kd.R_drew HZ2.out, Kd.R_drew HZ3.out, Kd.R_drew HZ4.out, Kd.R_drew HZ5.out⟩
                      clear HZ2 HZ3 HZ4 HZ5 HM5
                      generalize hW : w8.drew = w9 at *
                      clear hW
                      have x0 := HM6.vm.is 0 rfl
                      have x1 := HM6.vm.is 1 rfl
                      have x2 := HM6.vm.is 2 rfl
                      have x3 := HM6.vm.is 3 rfl
                      have x4 := HM6.vm.is 4 rfl
                      have x5 := HM6.vm.is 5 rfl
                      have z0 := HM6.vr.is 0 rfl
                      have z1 := HM6.vr.is 1 rfl
                      have z2 := HM6.vr.is 2 rfl
                      have z3 := HM6.vr.is 3 rfl
                      have z4 := HM6.vr.is 4 rfl
                      have z5 := HM6.vr.is 5 rfl
                      have g0 := HM6.vr.frozen 0
                      have g1 := HM6.vr.frozen 1
                      have g2 := HM6.vr.frozen 2
                      have g3 := HM6.vr.frozen 3
                      have g4 := HM6.vr.frozen 4
                      have g5 := HM6.vr.frozen 5
                      have hmr := Ne.symm hrm
                      go_wp2_with fail
                      have L0 : Laying w w9 g r s a5 _ _ := ⟨HM6.vr, HM6.rd, HM6.o, HM6.vr.ne HM6.rd (by decide), hsr⟩
                      have L1 := L0.step 0 (.int .u16 id)
                      have L2 := L1.step 1 (.int .u16 fl)
                      have L3 := L2.step 2 (.slice A2 l2 c2)
                      have L4 := L3.step 3 (.slice A3 l3 c3)
                      have L5 := L4.step 4 (.slice A4 l4 c4)
                      have L6 := L5.step 5 (.slice A5 l5 c5)
                      have P6 := (((((HP6.set L0.v 0 (.int .u16 id)).set L1.v 1 (.int .u16 fl)).set L2.v 2 (.slice A2 l2 c2)).set L3.v 3 (.slice A3 l3 c3)).set L4.v 4 (.slice A4 l4 c4)).set L5.v 5 (.slice A5 l5 c5)
                      clear L0 L1 L2 L3 L4 L5 z0 z1 z2 z3 z4 z5 g0 g1 g2 g3 g4 g5 x0 x1 x2 x3 x4 x5
                      generalize hW : (((((w9.setCell ⟨r, 0, none⟩ (.int .u16 id)).setCell ⟨r, 1, none⟩ (.int .u16 fl)).setCell ⟨r, 2, none⟩ (.slice A2 l2 c2)).setCell ⟨r, 3, none⟩ (.slice A3 l3 c3)).setCell ⟨r, 4, none⟩ (.slice A4 l4 c4)).setCell ⟨r, 5, none⟩ (.slice A5 l5 c5) = w10 at *
                      have HV9 : SAt w10 r #[.int .u16 id, .int .u16 fl, .slice A2 l2 c2, .slice A3 l3 c3, .slice A4 l4 c4, .slice A5 l5 c5] 35 := L6.v
                      have z0 := HV9.is 0 rfl
                      have z1 := HV9.is 1 rfl
                      have z2 := HV9.is 2 rfl
                      have z3 := HV9.is 3 rfl
                      have z4 := HV9.is 4 rfl
                      have z5 := HV9.is 5 rfl
                      refine bodyPost_ret (v := .agg #[.int .u16 id, .int .u16 fl, .slice A2 l2 c2, .slice A3 l3 c3, .slice A4 l4 c4, .slice A5 l5 c5]) (by simp [results, Try.results30, go_sem, z0, z1, z2, z3, z4, z5]) rfl ?_
                      exact Ends.ok hq.symm P6 L6.rd L6.o
            | succ k =>
              unfold quessR at hl
              have q1 : (i : Int) < (n0 : Int) := by have := HK.out; omega
              have y2 := HM.out.vm.is 2 rfl
              go_wp2_with fail
              refine start_ (n := 8) (S := fun w' => w'.cell? ⟨m, 2, none⟩ = some (.slice A2 l2 c2)) (ds := [7]) (Array.replicate 8 false) (by kernel_rfl) (by kernel_rfl) rfl (by exact y2) (fun hS => ?_)
              refine dpure 0 (some 36) rfl rfl (by kernel_rfl) (fun _ _ _ h => h) (by rfl) (v := ?_) (a' := ?_) ?_ ?_ ?_
              rotate_left 2
              · intro w'; go_simp; with_reducible rfl
              · simp only [Act.put, List.setIfInBounds_toArray, List.set_cons_zero, List.set_cons_succ]; rfl
              refine dtake 1 (some 37) rfl rfl (by kernel_rfl) (fun _ _ _ h => h) (by rfl) hS (v := ?_) (a' := ?_) ?_ ?_ ?_
              rotate_left 2
              · rintro w' s0; go_simp; with_reducible rfl
              · simp only [Act.put, List.setIfInBounds_toArray, List.set_cons_zero, List.set_cons_succ]; rfl
              refine dpure 2 (some 38) rfl rfl (by kernel_rfl) (fun _ _ _ h => h) (by rfl) (v := ?_) (a' := ?_) ?_ ?_ ?_
              rotate_left 2
              · intro w'; go_simp; with_reducible rfl
              · simp only [Act.put, List.setIfInBounds_toArray, List.set_cons_zero, List.set_cons_succ]; rfl
              refine done1 3 (some 39) rfl rfl (by kernel_rfl) (by decide) (fun K hK => ?_)
              refine goesp_ Try.func48 (by kernel_rfl) rfl #[.pointer (some ⟨g, 0, none⟩)] (by rfl) rfl rfl (by kernel_rfl) ?_
              refine (question_calls HM.out.drew.rd HS.out HA.out.1 HA.out.2).mono ?_
              intro e w5 ht
              cases hw : quesR s at' with
              | error d =>
                rw [hw] at hl
                obtain rfl := ht.bad d hw
                have hq := HQ.out
                rw [← hl] at hq
                exact .inr ⟨_, rfl, rfl, Ends.err hq.symm (HM.out.drew.o.trans ht.only)⟩
              | ok x =>
                obtain ⟨q, a2⟩ := x
                rw [hw] at hl
                simp only [] at hl
                have HL := Aside0.mk hl
                have HA2 := Aside0.mk (quesR_at hw)
                obtain ⟨v, rfl, rfl, hr⟩ := ht.good q a2 hw
                have hM := HM.out.drew.call ht.only hr
                have hX : QuessP w.heap.size qs (.slice A2 l2 c2) w5 := R_only (w := wr.drew) (Kd.R_drew HX.out) HM.out.drew.rd (by decide) ht.only
                refine .inl ⟨_, rfl, ?_⟩
                clear ht hw hl hr
                refine hK.out _ _ (hM.vm.is 2 rfl) (fun hS => ?_)
                clear hK K
                refine norm_ (a' := ?_) ?_ ?_
                rotate_left
                · simp only [Act.put, List.setIfInBounds_toArray, List.set_cons_zero, List.set_cons_succ]; rfl
                refine done1 4 (some 40) rfl rfl (by kernel_rfl) (by decide) (fun K hK => ?_)
                refine event_step (by kernel_rfl) (v := .slice (some ⟨w5.heap.size, 0, none⟩) 1 1) (w1 := w5.alloc (.cells #[.string q.f0, .int .u16 q.f1, .int .u16 q.f2] 63)) (by go_simp; done) ?_
                refine hK.out _ _ ((blk_cell (blk_below hM.vm (below_alloc (Below.refl _ _) _)) 2).trans rfl) (fun hS => ?_)
                clear hK K
                refine norm_ (a' := ?_) ?_ ?_
                rotate_left
                · simp only [Act.put, List.setIfInBounds_toArray, List.set_cons_zero, List.set_cons_succ]; rfl
                refine done1 5 (some 41) rfl rfl (by kernel_rfl) (by decide) (fun K hK => ?_)
                refine Kd.R_append_step kQues (w0 := w5) w.heap.size (by kernel_rfl) (.tmp 37) (.tmp 40) 32 63 (.agg #[(.string ⟨#[]⟩), (.int .u16 0), (.int .u16 0)]) 24 (by rfl) Try.underlying32 infoQues rfl (by decide) (by decide) (.slice A2 l2 c2) qs q [.string q.f0, .int .u16 q.f1, .int .u16 q.f2] (fun _ => True) (fun _ => False) (by rfl) (by rfl) (kQues_mkM w5 w.heap.size _ q) (fun _ hk => hk.elim) (fun _ _ => trivial) hX (Below.refl _ _) hM.o.size (by have := HLen.out; have := HK.out; have := N0.out; omega) ?_
                intro v3 w6 ho3 hb3 hg3 _
                obtain ⟨A3, l3, c3, rfl⟩ := R_anyslice ho3
                have hM6 := hM.grown hg3 (Kd.R_base hX) (Kd.R_ne hX hM.rd (by decide)) (Kd.R_ne hX hM.vr (by decide)) (Kd.R_ne hX hM.vm (by decide)) (Kd.R_ne hX hM.vc (by decide))
                have y2' := hM6.vm.is 2 rfl
                have f2 := hM6.vm.frozen 2
                refine hK.out _ _ y2' (fun hS => ?_)
                clear hK K
                refine norm_ (a' := ?_) ?_ ?_
                rotate_left
                · simp only [Act.put, List.setIfInBounds_toArray, List.set_cons_zero, List.set_cons_succ]; rfl
                refine dpure 6 (some 42) rfl rfl (by kernel_rfl) (fun _ _ _ h => h) (by rfl) (v := ?_) (a' := ?_) ?_ ?_ ?_
                rotate_left 2
                · intro w'; go_simp; with_reducible rfl
                · simp only [Act.put, List.setIfInBounds_toArray, List.set_cons_zero, List.set_cons_succ]; rfl
                refine dlast 7 (Array.getElem?_eq_getElem (by decide)) (by kernel_rfl) (List.mem_singleton.2 rfl) ?_
                intro K hK
                refine dskip (w1 := w6.setCell ⟨m, 2, none⟩ (.slice A3 l3 c3)) (by kernel_rfl) (by kernel_rfl) ?_ ?_
                · go_simp
                refine hK.out _ _ (done_ (by kernel_rfl) ?_)
                clear hK K
                have HM7 := Aside0.mk (hM6.setm 2 (.slice A3 l3 c3))
                have HX7 := Aside0.mk (show QuessP w.heap.size (qs ++ [q]) (.slice A3 l3 c3) (w6.setCell ⟨m, 2, none⟩ (.slice A3 l3 c3)) from Kd.R_set ho3 hM6.vm (by decide) 2 (.slice A3 l3 c3))
                clear hM hM6 hX ho3 hb3 hg3 y2 y2' f2
                go_wp2_with fail
                go_roundg k
                case measure => omega
                case rel => exact ⟨i + 1, _, a2, _, by go_num, HL, ⟨by have := HK.out; omega⟩, ⟨by have := HLen.out; rw [List.length_append, List.length_singleton]; omega⟩, HA2, HM7, HX7⟩
        | succ k =>
          unfold cntR at hl
          have q1 : (i : Int) < 4 := by have := HK.out; omega
          cases h3 : getF s at' 2 with
          | none =>
            rw [h3] at hl
            have hq := HQ.out
            rw [← hl] at hq
            go_wp2_with fail
            refine (num_no HM.out.rd HS.out h3).mono ?_
            rintro e w' ⟨rfl, ho⟩
            exact ⟨rfl, Ends.err hq.symm (HM.out.o.trans ho)⟩
          | some n =>
            rw [h3] at hl
            simp only [] at hl
            have HL := Aside0.mk hl
            obtain ⟨n0, n1, _, n3, _⟩ := get2 h3
            have hwn : IntKind.i64.wrap n = n := by rw [IntKind.wrap_i64]; omega
            have H3 := Lib.hid h3
            have HA2 := Aside0.mk (show 0 ≤ at' + 2 ∧ at' + 2 ≤ s.size by omega)
            have a1 : all ≤ 1000000 := by have := HB.out; have := HK.out; omega
            have a0 : 0 ≤ all := HB.out.1
            clear hl h3 n3
            go_wp2_with fail
            refine (num_yes HM.out.rd HS.out H3.out).mono ?_
            rintro e w5 ⟨rfl, hr, ho⟩
            have hM := HM.out.call ho hr
            have hcell : (cells4 (out ++ List.replicate (k + 1) 0))[i]? = some (.int .i64 0) := by
              have := HLen.out
              simp [cells4, ← this, List.replicate_succ]
            have y := hM.vc.is i hcell
            have f := hM.vc.frozen i
            have hi0 : (0 : Int) ≤ (i : Int) := by omega
            have HM5 := Aside0.mk (hM.setc i (.int .i64 n))
            have y2 := (hM.vc.set i (.int .i64 n)).is i (v := .int .i64 n) (by rw [cells4_set, ← HLen.out, set_next]; simp [cells4])
            clear hr ho hM hcell
            go_wp2_with fail
            go_roundg k
            case measure => omega
            case rel => exact ⟨i + 1, out ++ [n], at' + 2, all + n, rfl, by go_num, HL, ⟨by have := HK.out; omega⟩, ⟨by have := HLen.out; simp; omega⟩, ⟨by have := HSum.out; simp; omega⟩, ⟨fun x hx => by rcases List.mem_append.1 hx with hx | hx; exact HAll.out x hx; rw [List.mem_singleton.1 hx]; omega⟩, ⟨by have := HB.out; omega⟩, HA2, ⟨by have := HM5.out; rw [cells4_set, ← HLen.out, set_next] at this; rw [HLen.out] at this; exact this⟩⟩
end Go.Proofs.Ytfoflodgegehfaa.M
set_option linter.unusedVariables false
set_option linter.unusedSimpArgs false
namespace Go.Proofs.Ytfoflodgegehfaa.M
open Go.RowKit Go.Maps Go.Proofs.YtfoflodgegehfaaW.PrintWords Go.Proofs.YtfoflodgegehfaaW.PrintLast Go.Proofs.YtfoflodgegehfaaW.PrintMore
theorem checkF_three (r : Rec) : checkF r ≠ 3 := by
  unfold checkF
  repeat' split
  all_goals decide
section
variable {s : ByteArray} {c : Int}
theorem nameR_er3 (K : Nat) : ∀ {b : List Int} {part nx a : Int}, nameR K s b part nx a = .error c → c ≠ 0 ∧ c ≠ 3 := by
  induction K with
  | zero => intro b part nx a h; have := Except.error.inj h; omega
  | succ K ih =>
    intro b part nx a h
    unfold nameR at h
    repeat' split at h
    all_goals first | exact ih h | (have := Except.error.inj h; omega) | exact absurd h (by simp)
theorem bareR_er3 (K : Nat) : ∀ {b : List Int} {a : Int}, bareR K s b a = .error c → c ≠ 0 ∧ c ≠ 3 := by
  induction K with
  | zero => intro b a h; have := Except.error.inj h; omega
  | succ K ih =>
    intro b a h
    unfold bareR at h
    repeat' split at h
    all_goals first | exact ih h | (have := Except.error.inj h; omega) | exact absurd h (by simp)
theorem within_er3 {k a en : Int} (h : withinF s k a en = .error c) : c ≠ 0 ∧ c ≠ 3 := by
  unfold withinF at h
  repeat' split at h
  all_goals first | exact bareR_er3 _ h | exact nameR_er3 _ h | (have := Except.error.inj h; omega)
theorem numsR_er3 {sz en : Int} (K : Nat) : ∀ {out : List Int} {a : Int}, numsR s sz en K out a = .error c → c ≠ 0 ∧ c ≠ 3 := by
  induction K with
  | zero => intro out a h; exact absurd h (by simp [numsR])
  | succ K ih =>
    intro out a h
    unfold numsR at h
    repeat' split at h
    all_goals first | exact ih h | (have := Except.error.inj h; omega) | exact absurd h (by simp)
theorem namesR_er3 {k en : Int} (K : Nat) : ∀ {out : List ByteArray} {a : Int}, namesR s k en K out a = .error c → c ≠ 0 ∧ c ≠ 3 := by
  induction K with
  | zero => intro out a h; exact absurd h (by simp [namesR])
  | succ K ih =>
    intro out a h
    unfold namesR at h
    cases h1 : withinF s k a en with
    | error d =>
      rw [h1] at h
      rw [← Except.error.inj h]
      exact within_er3 h1
    | ok y => rw [h1] at h; exact ih h
theorem textsR_er3 {en : Int} (K : Nat) : ∀ {out : List ByteArray} {a : Int}, textsR s en K out a = .error c → c ≠ 0 ∧ c ≠ 3 := by
  induction K with
  | zero => intro out a h; have := Except.error.inj h; omega
  | succ K ih =>
    intro out a h
    unfold textsR at h
    repeat' split at h
    all_goals first | exact ih h | (have := Except.error.inj h; omega) | exact absurd h (by simp)
theorem dataE_er3 {en : Int} {names : List ByteArray} {nums : List Int} {x : List ByteArray × Int} (h : dataE en names nums x = .error c) : c ≠ 0 ∧ c ≠ 3 := by
  obtain ⟨t, a⟩ := x
  rw [dataE_eq] at h
  split at h
  · exact absurd h (by simp)
  · have := Except.error.inj h; omega
theorem dataT_er3 {k en a : Int} {names : List ByteArray} {nums : List Int} (h : dataT s k en names nums a = .error c) : c ≠ 0 ∧ c ≠ 3 := by
  by_cases c1 : k = 16
  · rw [dataT_txt c1] at h
    cases h1 : textsR s en ((en - a).toNat + 1) [] a with
    | error d => rw [h1] at h; rw [← Except.error.inj h]; exact textsR_er3 _ h1
    | ok y => rw [h1] at h; exact dataE_er3 h
  by_cases c2 : (shapeOf k).1 + (shapeOf k).2.1 = 0
  · rw [dataT_free c1 c2] at h
    cases h1 : partF s a (en - a) with
    | none => rw [h1] at h; have := Except.error.inj h; omega
    | some t => rw [h1] at h; exact dataE_er3 h
  · rw [dataT_none c1 c2] at h
    exact dataE_er3 h
theorem dataM_er3 {k en a : Int} {nums : List Int} (h : dataM s k en (nums, a) = .error c) : c ≠ 0 ∧ c ≠ 3 := by
  unfold dataM at h
  dsimp only at h
  cases h1 : namesR s k en (shapeOf k).1 [] a with
  | error d => rw [h1] at h; rw [← Except.error.inj h]; exact namesR_er3 _ h1
  | ok y =>
    obtain ⟨names, a2⟩ := y
    rw [h1] at h
    simp only [] at h
    by_cases c6 : k = 6
    · rw [dataN_six c6] at h
      cases h2 : numsR s 4 en (shapeOf k).2.1 [] a2 with
      | error d => rw [h2] at h; rw [← Except.error.inj h]; exact numsR_er3 _ h2
      | ok y => rw [h2] at h; exact dataT_er3 h
    · rw [dataN_not c6] at h
      exact dataT_er3 h
theorem dataR_er3 {k en a : Int} (h : dataR s k en a = .error c) : c ≠ 0 ∧ c ≠ 3 := by
  unfold dataR at h
  by_cases c6 : k = 6
  · rw [if_pos c6] at h
    exact dataM_er3 h
  · rw [if_neg c6] at h
    cases h1 : numsR s 2 en (shapeOf k).2.1 [] a with
    | error d => rw [h1] at h; rw [← Except.error.inj h]; exact numsR_er3 _ h1
    | ok y =>
      obtain ⟨nums, a1⟩ := y
      rw [h1] at h
      exact dataM_er3 h
theorem quesR_er3 {a : Int} (h : quesR s a = .error c) : c ≠ 0 ∧ c ≠ 3 := by
  unfold quesR at h
  cases hn : nameAt s a with
  | error d => rw [hn] at h; rw [← Except.error.inj h]; exact nameR_er3 _ hn
  | ok y =>
    obtain ⟨b, a1⟩ := y
    rw [hn] at h
    simp only [] at h
    repeat' split at h
    all_goals first | (have := Except.error.inj h; omega) | exact absurd h (by simp)
theorem recR_er3 {a : Int} (h : recR s a = .error c) : c ≠ 0 ∧ c ≠ 3 := by
  unfold recR at h
  cases hn : nameAt s a with
  | error d => rw [hn] at h; rw [← Except.error.inj h]; exact nameR_er3 _ hn
  | ok y =>
    obtain ⟨b, a1⟩ := y
    rw [hn] at h
    simp only [] at h
    cases h1 : getF s a1 2 with
    | none => rw [h1] at h; have := Except.error.inj h; omega
    | some t =>
      rw [h1] at h
      simp only [] at h
      cases h2 : getF s (a1 + 2) 2 with
      | none => rw [h2] at h; have := Except.error.inj h; omega
      | some c =>
        rw [h2] at h
        simp only [] at h
        cases h3 : getF s (a1 + 2 + 2) 4 with
        | none => rw [h3] at h; have := Except.error.inj h; omega
        | some l =>
          rw [h3] at h
          simp only [] at h
          cases h4 : getF s (a1 + 2 + 2 + 4) 2 with
          | none => rw [h4] at h; have := Except.error.inj h; omega
          | some n =>
            rw [h4] at h
            simp only [] at h
            by_cases c1 : (s.size : Int) - (a1 + 2 + 2 + 4 + 2) < n
            · rw [if_pos c1] at h; have := Except.error.inj h; omega
            rw [if_neg c1] at h
            cases hd : dataR s t (a1 + 2 + 2 + 4 + 2 + n) (a1 + 2 + 2 + 4 + 2) with
            | error d => rw [hd] at h; rw [← Except.error.inj h]; exact dataR_er3 hd
            | ok y =>
              obtain ⟨⟨names, nums, texts⟩, a2⟩ := y
              rw [hd] at h
              simp only [] at h
              split at h
              · exact absurd h (by simp)
              · rename_i hk
                rw [← Except.error.inj h]
                exact ⟨hk, checkF_three _⟩
theorem recsR_er3 (K : Nat) : ∀ {out : List Rec} {a : Int}, recsR s K out a = .error c → c ≠ 0 ∧ c ≠ 3 := by
  induction K with
  | zero => intro out a h; exact absurd h (by simp [recsR])
  | succ K ih =>
    intro out a h
    unfold recsR at h
    cases h1 : recR s a with
    | error d => rw [h1] at h; rw [← Except.error.inj h]; exact recR_er3 h1
    | ok y => rw [h1] at h; exact ih h
theorem quessR_er3 (K : Nat) : ∀ {out : List Ques} {a : Int}, quessR s K out a = .error c → c ≠ 0 ∧ c ≠ 3 := by
  induction K with
  | zero => intro out a h; exact absurd h (by simp [quessR])
  | succ K ih =>
    intro out a h
    unfold quessR at h
    cases h1 : quesR s a with
    | error d => rw [h1] at h; rw [← Except.error.inj h]; exact quesR_er3 h1
    | ok y => rw [h1] at h; exact ih h
theorem cntR_er3 (K : Nat) : ∀ {out : List Int} {a : Int}, cntR s K out a = .error c → c ≠ 0 ∧ c ≠ 3 := by
  induction K with
  | zero => intro out a h; exact absurd h (by simp [cntR])
  | succ K ih =>
    intro out a h
    unfold cntR at h
    cases h1 : getF s a 2 with
    | none => rw [h1] at h; have := Except.error.inj h; omega
    | some y => rw [h1] at h; exact ih h
theorem msgR_er3 (h : msgR s = .error c) : c ≠ 0 ∧ c ≠ 3 := by
  unfold msgR at h
  cases h1 : getF s 0 2 with
  | none => rw [h1] at h; have := Except.error.inj h; omega
  | some id =>
    rw [h1] at h
    simp only [] at h
    cases h2 : getF s 2 2 with
    | none => rw [h2] at h; have := Except.error.inj h; omega
    | some fl =>
      rw [h2] at h
      simp only [] at h
      cases h3 : cntR s 4 [] 4 with
      | error d => rw [h3] at h; rw [← Except.error.inj h]; exact cntR_er3 _ h3
      | ok y =>
        obtain ⟨l, b⟩ := y
        rw [h3] at h
        simp only [msgA] at h
        by_cases c1 : 256 < l.sum
        · rw [if_pos c1] at h; have := Except.error.inj h; omega
        rw [if_neg c1] at h
        cases h4 : quessR s (l.getD 0 0).toNat [] b with
        | error d => rw [h4] at h; rw [← Except.error.inj h]; exact quessR_er3 _ h4
        | ok y =>
          obtain ⟨qs, b1⟩ := y
          rw [h4] at h
          simp only [msgB] at h
          cases h5 : recsR s (l.getD 1 0).toNat [] b1 with
          | error d => rw [h5] at h; rw [← Except.error.inj h]; exact recsR_er3 _ h5
          | ok y =>
            obtain ⟨ans, b2⟩ := y
            rw [h5] at h
            simp only [msgC] at h
            cases h6 : recsR s (l.getD 2 0).toNat [] b2 with
            | error d => rw [h6] at h; rw [← Except.error.inj h]; exact recsR_er3 _ h6
            | ok y =>
              obtain ⟨auth, b3⟩ := y
              rw [h6] at h
              simp only [msgD] at h
              cases h7 : recsR s (l.getD 3 0).toNat [] b3 with
              | error d => rw [h7] at h; rw [← Except.error.inj h]; exact recsR_er3 _ h7
              | ok y =>
                obtain ⟨add, b4⟩ := y
                rw [h7] at h
                simp only [msgE] at h
                split at h
                · have := Except.error.inj h; omega
                · exact absurd h (by simp)
end
structure QuesSm (q : Ques) : Prop where
  name : q.f0.size ≤ 255
  t0 : 0 ≤ q.f1
  t1 : q.f1 ≤ 65535
  c0 : 0 ≤ q.f2
  c1 : q.f2 ≤ 65535
structure RecSm (r : Rec) : Prop where
  name : r.f0.size ≤ 255
  t0 : 0 ≤ r.f1
  t1 : r.f1 ≤ 65535
  l0 : 0 ≤ r.f3
  l1 : r.f3 ≤ 4294967295
theorem ques_sm {s : ByteArray} {a : Int} {q : Ques} {a' : Int} (h : quesR s a = .ok (q, a')) : QuesSm q := by
  unfold quesR at h
  cases hn : nameAt s a with
  | error c => rw [hn] at h; exact absurd h (by simp)
  | ok x =>
    obtain ⟨b, a1⟩ := x
    rw [hn] at h
    simp only [] at h
    cases h1 : getF s a1 2 with
    | none => rw [h1] at h; exact absurd h (by simp)
    | some t =>
      rw [h1] at h
      simp only [] at h
      cases h2 : getF s (a1 + 2) 2 with
      | none => rw [h2] at h; exact absurd h (by simp)
      | some c =>
        rw [h2] at h
        rw [← (Prod.mk.inj (Except.ok.inj h)).1]
        have g1 := get2 h1
        have g2 := get2 h2
        exact ⟨name_len hn, g1.1, g1.2.1, g2.1, g2.2.1⟩
theorem rec_sm {s : ByteArray} {a : Int} {r : Rec} {a' : Int} (h : recR s a = .ok (r, a')) : RecSm r := by
  unfold recR at h
  cases hn : nameAt s a with
  | error d => rw [hn] at h; exact absurd h (by simp)
  | ok y =>
    obtain ⟨b, a1⟩ := y
    rw [hn] at h
    simp only [] at h
    cases h1 : getF s a1 2 with
    | none => rw [h1] at h; exact absurd h (by simp)
    | some t =>
      rw [h1] at h
      simp only [] at h
      cases h2 : getF s (a1 + 2) 2 with
      | none => rw [h2] at h; exact absurd h (by simp)
      | some c =>
        rw [h2] at h
        simp only [] at h
        cases h3 : getF s (a1 + 2 + 2) 4 with
        | none => rw [h3] at h; exact absurd h (by simp)
        | some l =>
          rw [h3] at h
          simp only [] at h
          cases h4 : getF s (a1 + 2 + 2 + 4) 2 with
          | none => rw [h4] at h; exact absurd h (by simp)
          | some n =>
            rw [h4] at h
            simp only [] at h
            by_cases c1 : (s.size : Int) - (a1 + 2 + 2 + 4 + 2) < n
            · rw [if_pos c1] at h; exact absurd h (by simp)
            rw [if_neg c1] at h
            cases hd : dataR s t (a1 + 2 + 2 + 4 + 2 + n) (a1 + 2 + 2 + 4 + 2) with
            | error d => rw [hd] at h; exact absurd h (by simp)
            | ok y =>
              obtain ⟨⟨names, nums, texts⟩, a2⟩ := y
              rw [hd] at h
              simp only [] at h
              split at h
              · rw [← (Prod.mk.inj (Except.ok.inj h)).1]
                have g1 := get2 h1
                have g3 := get4 h3
                exact ⟨name_len hn, g1.1, g1.2.1, g3.1, g3.2.1⟩
              · exact absurd h (by simp)
theorem quess_sm {s : ByteArray} (K : Nat) : ∀ {out : List Ques} {a : Int} {out' : List Ques} {a' : Int}, quessR s K out a = .ok (out', a') → (∀ q ∈ out, QuesSm q) → (∀ q ∈ out', QuesSm q) ∧ out'.length = out.length + K := by
  induction K with
  | zero =>
    intro out a out' a' h hq
    rw [← (Prod.mk.inj (Except.ok.inj h)).1]
    exact ⟨hq, rfl⟩
  | succ K ih =>
    intro out a out' a' h hq
    unfold quessR at h
    cases h1 : quesR s a with
    | error c => rw [h1] at h; exact absurd h (by simp)
    | ok x =>
      obtain ⟨q, a1⟩ := x
      rw [h1] at h
      obtain ⟨k1, k2⟩ := ih h (fun y hy => by
        rcases List.mem_append.1 hy with hy | hy
        · exact hq y hy
        · rw [List.mem_singleton.1 hy]; exact ques_sm h1)
      exact ⟨k1, by rw [k2, List.length_append, List.length_singleton]; omega⟩
theorem recs_sm {s : ByteArray} (K : Nat) : ∀ {out : List Rec} {a : Int} {out' : List Rec} {a' : Int}, recsR s K out a = .ok (out', a') → (∀ r ∈ out, RecSm r) → (∀ r ∈ out', RecSm r) ∧ out'.length = out.length + K := by
  induction K with
  | zero =>
    intro out a out' a' h hq
    rw [← (Prod.mk.inj (Except.ok.inj h)).1]
    exact ⟨hq, rfl⟩
  | succ K ih =>
    intro out a out' a' h hq
    unfold recsR at h
    cases h1 : recR s a with
    | error c => rw [h1] at h; exact absurd h (by simp)
    | ok x =>
      obtain ⟨q, a1⟩ := x
      rw [h1] at h
      obtain ⟨k1, k2⟩ := ih h (fun y hy => by
        rcases List.mem_append.1 hy with hy | hy
        · exact hq y hy
        · rw [List.mem_singleton.1 hy]; exact rec_sm h1)
      exact ⟨k1, by rw [k2, List.length_append, List.length_singleton]; omega⟩
theorem cntR_sm {s : ByteArray} (K : Nat) : ∀ {out : List Int} {a : Int} {out' : List Int} {a' : Int}, cntR s K out a = .ok (out', a') → (∀ x ∈ out, 0 ≤ x ∧ x ≤ 65535) → a ≤ s.size → (∀ x ∈ out', 0 ≤ x ∧ x ≤ 65535) ∧ out'.length = out.length + K ∧ a + 2 * K ≤ s.size := by
  induction K with
  | zero =>
    intro out a out' a' h hq ha
    rw [← (Prod.mk.inj (Except.ok.inj h)).1]
    exact ⟨hq, rfl, by omega⟩
  | succ K ih =>
    intro out a out' a' h hq ha
    unfold cntR at h
    cases h1 : getF s a 2 with
    | none => rw [h1] at h; exact absurd h (by simp)
    | some n =>
      rw [h1] at h
      have g := get2 h1
      obtain ⟨k1, k2, k3⟩ := ih h (fun y hy => by
        rcases List.mem_append.1 hy with hy | hy
        · exact hq y hy
        · rw [List.mem_singleton.1 hy]; omega) (by omega)
      exact ⟨k1, by rw [k2, List.length_append, List.length_singleton]; omega, by omega⟩
structure MsgSm (m : Msg) : Prop where
  f0 : 0 ≤ m.flags
  f1 : m.flags ≤ 65535
  n0 : m.qs.length ≤ 256
  n1 : m.ans.length ≤ 256
  n2 : m.auth.length ≤ 256
  n3 : m.add.length ≤ 256
  q : ∀ q ∈ m.qs, QuesSm q
  r : ∀ r ∈ m.add, RecSm r
theorem msg_sm {s : ByteArray} {m : Msg} {e : Int} (h : msgR s = .ok (m, e)) (hs : s.size ≤ 65535) : MsgSm m := by
  have c0 : ¬ 65535 < s.size := by omega
  unfold msgR at h
  cases h1 : getF s 0 2 with
  | none => rw [h1] at h; exact absurd h (by simp)
  | some id =>
    rw [h1] at h
    simp only [] at h
    cases h2 : getF s 2 2 with
    | none => rw [h2] at h; exact absurd h (by simp)
    | some fl =>
      rw [h2] at h
      simp only [] at h
      have g2 := get2 h2
      cases h3 : cntR s 4 [] 4 with
      | error c => rw [h3] at h; exact absurd h (by simp)
      | ok y =>
        obtain ⟨l, b⟩ := y
        rw [h3] at h
        obtain ⟨e1, e2, e3⟩ := cntR_sm _ h3 (fun x hx => absurd hx (by simp)) (by omega)
        obtain ⟨n0, n1, n2, n3, rfl⟩ := four_nats e2 e1
        simp only [msgA] at h
        by_cases c1 : 256 < [(n0 : Int), (n1 : Int), (n2 : Int), (n3 : Int)].sum
        · rw [if_pos c1] at h; exact absurd h (by simp)
        rw [if_neg c1] at h
        simp only [List.sum_cons, List.sum_nil] at c1
        cases h4 : quessR s ([(n0 : Int), (n1 : Int), (n2 : Int), (n3 : Int)].getD 0 0).toNat [] b with
        | error c => rw [h4] at h; exact absurd h (by simp)
        | ok y =>
          obtain ⟨qs, b1⟩ := y
          rw [h4] at h
          simp only [msgB] at h
          cases h5 : recsR s ([(n0 : Int), (n1 : Int), (n2 : Int), (n3 : Int)].getD 1 0).toNat [] b1 with
          | error c => rw [h5] at h; exact absurd h (by simp)
          | ok y =>
            obtain ⟨ans, b2⟩ := y
            rw [h5] at h
            simp only [msgC] at h
            cases h6 : recsR s ([(n0 : Int), (n1 : Int), (n2 : Int), (n3 : Int)].getD 2 0).toNat [] b2 with
            | error c => rw [h6] at h; exact absurd h (by simp)
            | ok y =>
              obtain ⟨auth, b3⟩ := y
              rw [h6] at h
              simp only [msgD] at h
              cases h7 : recsR s ([(n0 : Int), (n1 : Int), (n2 : Int), (n3 : Int)].getD 3 0).toNat [] b3 with
              | error c => rw [h7] at h; exact absurd h (by simp)
              | ok y =>
                obtain ⟨add, b4⟩ := y
                rw [h7] at h
                simp only [msgE] at h
                by_cases c2 : b4 < s.size
                · rw [if_pos c2] at h; exact absurd h (by simp)
                rw [if_neg c2] at h
                obtain ⟨rfl, rfl⟩ := Prod.mk.inj (Except.ok.inj h)
                obtain ⟨p4, q4⟩ := quess_sm _ h4 (fun x hx => absurd hx (by simp))
                obtain ⟨p5, q5⟩ := recs_sm _ h5 (fun x hx => absurd hx (by simp))
                obtain ⟨p6, q6⟩ := recs_sm _ h6 (fun x hx => absurd hx (by simp))
                obtain ⟨p7, q7⟩ := recs_sm _ h7 (fun x hx => absurd hx (by simp))
                have q4 : qs.length = n0 := by rw [q4]; simp
                have q5 : ans.length = n1 := by rw [q5]; simp
                have q6 : auth.length = n2 := by rw [q6]; simp
                have q7 : add.length = n3 := by rw [q7]; simp
                exact ⟨g2.1, g2.2.1, by rw [q4]; omega, by rw [q5]; omega, by rw [q6]; omega, by rw [q7]; omega, p4, p7⟩
end Go.Proofs.Ytfoflodgegehfaa.M
set_option linter.unusedVariables false
set_option linter.unusedSimpArgs false
namespace Go.Proofs.Ytfoflodgegehfaa.M
open Go.RowKit Go.Maps Go.Proofs.YtfoflodgegehfaaW.PrintWords Go.Proofs.YtfoflodgegehfaaW.PrintLast Go.Proofs.YtfoflodgegehfaaW.PrintMore
attribute [local go_sem] max2_int min2_int max_two min_two max_three min_three max_four min_four
attribute [local go_sem ↓] Go.wp_at_zero Go.wp_at_succ
def foldN (s : ByteArray) : ByteArray := if isName s then foldS s else ⟨#[]⟩
theorem foldS_size (s : ByteArray) : (foldS s).size = s.size := by
  unfold foldS
  rw [strOfNums_size, List.length_map, bytesOf_length]
theorem isName_size {s : ByteArray} (h : isName s = true) : s.size ≠ 0 := by
  intro e
  rw [size_zero e] at h
  exact absurd h (by decide)
set_option maxHeartbeats 2000000 in
set_option maxRecDepth 100000 in
theorem foldN_calls (s : ByteArray) (w : World) (hs : s.size ≤ 1000000000000) :
    Calls Try.prog 50 #[.string s] w fun e w' => e = .returned (.string (foldN s)) ∧ Below w.heap.size w w' := by
  have HB := Aside0.mk (Below.refl w.heap.size w)
  obtain ⟨V, hV⟩ : ∃ V, foldN s = V := ⟨_, rfl⟩
  rw [hV]
  unfold foldN at hV
  cases h : isName s with
  | true =>
    rw [h, if_pos rfl] at hV
    have hc := fun w => isName_yes s w h
    have hf := fun w => fold_calls s w hs
    rw [hV] at hf
    clear hV h
    go_enter Try.func50, Try.ntmps50
    go_wp2_with fail
    refine (hc _).mono ?_
    rintro e w2 ⟨rfl, hb⟩
    have HB2 := Aside0.mk (HB.out.trans (hb.mono HB.out.size))
    clear hb HB
    go_wp2_with fail
    refine (hf _).mono ?_
    rintro e w3 ⟨rfl, hb⟩
    have HB3 := Aside0.mk (HB2.out.trans (hb.mono HB2.out.size))
    clear hb HB2
    go_wp2_with fail
    go_ret
    exact ⟨rfl, HB3.out⟩
  | false =>
    rw [h, if_neg (by simp)] at hV
    have hc := fun w => isName_no s w h
    subst hV
    clear h
    go_enter Try.func50, Try.ntmps50
    go_wp2_with fail
    refine (hc _).mono ?_
    rintro e w2 ⟨rfl, hb⟩
    have HB2 := Aside0.mk (HB.out.trans (hb.mono HB.out.size))
    clear hb HB
    go_wp2_with fail
    go_ret
    exact ⟨rfl, HB2.out⟩
theorem nat_bit (a : Nat) : a &&& 2 ^ 15 = if a / 2 ^ 15 % 2 = 1 then 2 ^ 15 else 0 := by
  apply Nat.eq_of_testBit_eq
  intro i
  rw [Nat.testBit_and, Nat.testBit_two_pow]
  by_cases h : 15 = i
  · subst h
    have e := Nat.testBit_eq_decide_div_mod_eq (x := a) (i := 15)
    rw [e]
    split
    · rename_i h2; rw [decide_eq_true h2, Nat.testBit_two_pow]; simp
    · rename_i h2; rw [decide_eq_false h2]; simp
  · rw [decide_eq_false h, Bool.and_false]
    split
    · rw [Nat.testBit_two_pow, decide_eq_false h]
    · simp
theorem and_bit (k : IntKind) (j : Nat) (hj : j ≤ k.bits) (hk : ∀ n : Int, 0 ≤ n → n < 2 ^ j → k.wrap n = n) (x : Int) (h0 : 0 ≤ x) (h1 : x < 2 ^ j) (h15 : 2 ^ 15 < 2 ^ j) :
    bits .and k x 32768 = if x / 32768 % 2 = 1 then 32768 else 0 := by
  obtain ⟨a, rfl⟩ := Int.eq_ofNat_of_zero_le h0
  have ha : a < 2 ^ j := by exact_mod_cast h1
  have e := (bits_nat k j hj hk a (2 ^ 15) ha h15).1
  rw [nat_bit] at e
  rw [show (32768 : Int) = ((2 ^ 15 : Nat) : Int) from rfl, e]
  by_cases h : a / 2 ^ 15 % 2 = 1
  · rw [if_pos h, if_pos (by omega)]
  · rw [if_neg h, if_neg (by omega)]
    rfl
theorem wraps_u16 (n : Int) (h₀ : 0 ≤ n) (h₁ : n < 2 ^ 16) : IntKind.u16.wrap n = n := by simp [IntKind.wrap, IntKind.bits, IntKind.signed]; omega
theorem wraps_u32 (n : Int) (h₀ : 0 ≤ n) (h₁ : n < 2 ^ 32) : IntKind.u32.wrap n = n := by simp [IntKind.wrap, IntKind.bits, IntKind.signed]; omega
theorem and_bit16 (x : Int) (h0 : 0 ≤ x) (h1 : x ≤ 65535) : bits .and .u16 x 32768 = if x / 32768 % 2 = 1 then 32768 else 0 := and_bit .u16 16 (by decide) wraps_u16 x h0 (by omega) (by decide)
theorem and_bit32 (x : Int) (h0 : 0 ≤ x) (h1 : x ≤ 4294967295) : bits .and .u32 x 32768 = if x / 32768 % 2 = 1 then 32768 else 0 := and_bit .u32 32 (by decide) wraps_u32 x h0 (by omega) (by decide)
theorem and_low16 (x : Int) (h0 : 0 ≤ x) (h1 : x ≤ 65535) : bits .and .u16 x 15 = x % 16 := bits_mask .u16 16 (by decide) wraps_u16 4 (by decide) x h0 (by omega)
def opF (fl : Int) : Int := fl / 2048 % 16
set_option maxHeartbeats 2000000 in
set_option maxRecDepth 100000 in
theorem opcode_calls (m : Msg) (v : Value) (w : World) (hv : MsgAt w v m) (h0 : 0 ≤ m.flags) (h1 : m.flags ≤ 65535) :
    Calls Try.prog 31 #[v] w fun e w' => e = .returned (.int .i64 (opF m.flags)) ∧ Below w.heap.size w w' := by
  obtain ⟨A2, c2, A3, c3, A4, c4, A5, c5, rfl, -, -, -, -, -, -, -, -⟩ := hv
  have HB0 := Aside0.mk (Below.refl w.heap.size w)
  have hm := and_low16 (m.flags / 2048) (by omega) (by omega)
  have hq : m.flags / 2048 % 16 = opF m.flags := rfl
  have hw : IntKind.i64.wrap (opF m.flags) = opF m.flags := by rw [IntKind.wrap_i64]; unfold opF; omega
  rw [hq] at hm
  clear hq
  generalize opF m.flags = q at *
  go_enter Try.func31, Try.ntmps31
  go_wp2_with (((with_reducible refine gate_dst (N := 1) rfl ?_); refine box_event rfl (N := 1) rfl (cs := #[.int .u16 m.id, .int .u16 m.flags, .slice A2 m.qs.length c2, .slice A3 m.ans.length c3, .slice A4 m.auth.length c4, .slice A5 m.add.length c5]) (t := 35) (by first | (go_simp; done) | (go_simp; rfl)) ?_; intro g hg w1 hbox hb); have HX := Aside0.mk hbox; have HB := Aside0.mk hb; have HGe := Aside0.mk hg; clear hb hg; have z0 : w1.cell? ⟨g, 0, none⟩ = some (.int .u16 m.id) := (blk_cell HX.out 0).trans rfl; have z1 : w1.cell? ⟨g, 1, none⟩ = some (.int .u16 m.flags) := (blk_cell HX.out 1).trans rfl; have z2 : w1.cell? ⟨g, 2, none⟩ = some (.slice A2 m.qs.length c2) := (blk_cell HX.out 2).trans rfl; have z3 : w1.cell? ⟨g, 3, none⟩ = some (.slice A3 m.ans.length c3) := (blk_cell HX.out 3).trans rfl; have z4 : w1.cell? ⟨g, 4, none⟩ = some (.slice A4 m.auth.length c4) := (blk_cell HX.out 4).trans rfl; have z5 : w1.cell? ⟨g, 5, none⟩ = some (.slice A5 m.add.length c5) := (blk_cell HX.out 5).trans rfl; have hlt : g < w1.heap.size := blk_lt hbox; have hlne : ¬ g = w1.heap.size := Nat.ne_of_lt hlt; clear hbox)
  go_ret
  exact ⟨rfl, HB.out⟩
end Go.Proofs.Ytfoflodgegehfaa.M
set_option linter.unusedVariables false
set_option linter.unusedSimpArgs false
namespace Go.Proofs.Ytfoflodgegehfaa.M
open Go.RowKit Go.Maps Go.Proofs.YtfoflodgegehfaaW.PrintWords Go.Proofs.YtfoflodgegehfaaW.PrintLast Go.Proofs.YtfoflodgegehfaaW.PrintMore
attribute [local go_sem] max2_int min2_int max_two min_two max_three min_three max_four min_four
attribute [local go_sem ↓] Go.wp_at_zero Go.wp_at_succ
def doF : List Rec → Bool
  | [] => false
  | r :: t => if r.f1 = 41 then decide (r.f3 / 32768 % 2 = 1) else doF t
set_option maxHeartbeats 4000000 in
set_option maxRecDepth 100000 in
theorem do_calls (m : Msg) (v : Value) (w : World) (hv : MsgAt w v m) (hm : MsgSm m) :
    Calls Try.prog 33 #[v] w fun e w' => e = .returned (.bool (doF m.add)) ∧ Below w.heap.size w w' := by
  obtain ⟨A2, c2, A3, c3, A4, c4, A5, c5, rfl, -, -, -, -, -, -, l5, g5⟩ := hv
  have HB0 := Aside0.mk (Below.refl w.heap.size w)
  have G5 := Aside0.mk g5
  have HM := Aside0.mk hm
  have n3 : (m.add.length : Int) ≤ 256 := by have := hm.n3; omega
  obtain ⟨R, hR⟩ : ∃ R, doF m.add = R := ⟨_, rfl⟩
  rw [hR]
  have HR0 := Aside0.mk hR
  clear g5 hm hR
  go_enter Try.func33, Try.ntmps33
  go_wp2_with (((with_reducible refine gate_dst (N := 1) rfl ?_); refine box_event rfl (N := 1) rfl (cs := #[.int .u16 m.id, .int .u16 m.flags, .slice A2 m.qs.length c2, .slice A3 m.ans.length c3, .slice A4 m.auth.length c4, .slice A5 m.add.length c5]) (t := 35) (by first | (go_simp; done) | (go_simp; rfl)) ?_; intro g hg w1 hbox hb); have HX := Aside0.mk hbox; have HB := Aside0.mk hb; have HGe := Aside0.mk hg; clear hb hg; have z0 : w1.cell? ⟨g, 0, none⟩ = some (.int .u16 m.id) := (blk_cell HX.out 0).trans rfl; have z1 : w1.cell? ⟨g, 1, none⟩ = some (.int .u16 m.flags) := (blk_cell HX.out 1).trans rfl; have z2 : w1.cell? ⟨g, 2, none⟩ = some (.slice A2 m.qs.length c2) := (blk_cell HX.out 2).trans rfl; have z3 : w1.cell? ⟨g, 3, none⟩ = some (.slice A3 m.ans.length c3) := (blk_cell HX.out 3).trans rfl; have z4 : w1.cell? ⟨g, 4, none⟩ = some (.slice A4 m.auth.length c4) := (blk_cell HX.out 4).trans rfl; have z5 : w1.cell? ⟨g, 5, none⟩ = some (.slice A5 m.add.length c5) := (blk_cell HX.out 5).trans rfl; have hlt : g < w1.heap.size := blk_lt hbox; have hlne : ¬ g = w1.heap.size := Nat.ne_of_lt hlt; clear hbox)
  clear z0 z1 z2 z3 z4 z5 HX HGe hlt hlne
  go_loopg [8] m.add.length (fun kq v8 w' => ∃ k : Nat, v8 = .int .i64 k ∧ Aside0 (kq + k = m.add.length) ∧ Aside0 (doF (m.add.drop k) = R) ∧ Aside0 (Below w.heap.size w w'))
  case atStart => exact ⟨0, rfl, ⟨by omega⟩, HR0, HB⟩
  case round =>
    clear HB HR0
    obtain ⟨k, rfl, HK, HR, HB⟩ := hrel
    cases gk with
    | zero =>
      obtain rfl : k = m.add.length := by have := HK.out; omega
      have hr := HR.out
      rw [List.drop_of_length_le (Nat.le_refl _)] at hr
      obtain rfl : false = R := hr
      go_wp2_with fail
      go_ret
      exact ⟨rfl, HB.out⟩
    | succ j =>
      have hk : k < m.add.length := by have := HK.out; omega
      obtain ⟨ad, B4, b4, B5, b5, B6, b6, r, h2, hq, y0, y1, y2, y3, y4, y5, y6, -⟩ := at_rec (Kd.C_below G5.out HB.out) k hk
      subst h2
      have p1 : (0 : Int) ≤ (k : Int) := by omega
      have p2 : (k : Int) < (m.add.length : Int) := by omega
      have hr := HR.out
      rw [drop_get zRec _ k hk, hq, doF] at hr
      have hs := HM.out.r r (by rw [← hq]; exact getD_mem' zRec hk)
      have ha := and_bit32 r.f3 hs.l0 hs.l1
      clear HR hs hq
      by_cases c : r.f1 = 41
      · rw [if_pos c] at hr
        have e1 : (r.f1 == 41) = true := beq_iff_eq.mpr c
        clear c
        by_cases d : r.f3 / 32768 % 2 = 1
        · rw [decide_eq_true d] at hr
          rw [if_pos d] at ha
          subst hr
          clear d
          go_wp2_with fail
          go_ret
          exact ⟨rfl, below_alloc HB.out _⟩
        · rw [decide_eq_false d] at hr
          rw [if_neg d] at ha
          subst hr
          clear d
          go_wp2_with fail
          go_ret
          exact ⟨rfl, below_alloc HB.out _⟩
      · rw [if_neg c] at hr
        have e1 : (r.f1 == 41) = false := beq_eq_false_iff_ne.mpr c
        have HR := Aside0.mk hr
        clear c hr ha
        go_wp2_with fail
        go_roundg j
        case measure => omega
        case rel => exact ⟨k + 1, by go_num, ⟨by have := HK.out; omega⟩, HR, ⟨below_alloc HB.out _⟩⟩
structure Key where
  name : ByteArray
  ty : Int
  cl : Int
  dO : Bool
def Key.v (k : Key) : Value := .agg #[.string k.name, .int .u16 k.ty, .int .u16 k.cl, .bool k.dO]
def zKey : Key := ⟨⟨#[]⟩, 0, 0, false⟩
theorem heap_3a (h : Array Obj) (a b c : Obj) : (((h.push a).push b).push c)[h.size + 1]? = some b := by
  rw [Array.getElem?_push, if_neg (by simp), Array.getElem?_push, if_pos (by simp)]
theorem heap_3b (h : Array Obj) (a b c : Obj) : (((h.push a).push b).push c)[h.size + 1 + 1]? = some c := by
  rw [Array.getElem?_push, if_pos (by simp)]
theorem three_at (w : World) (o : Obj) (cs ds : Array Value) (T U : Nat) :
    SAt (((w.alloc o).alloc (.cells cs T (0, 0))).alloc (.cells ds U (0, 0))) (w.heap.size + 1) cs T ∧ SAt (((w.alloc o).alloc (.cells cs T (0, 0))).alloc (.cells ds U (0, 0))) (w.heap.size + 1 + 1) ds U ∧ Below w.heap.size w (((w.alloc o).alloc (.cells cs T (0, 0))).alloc (.cells ds U (0, 0))) :=
  ⟨heap_3a _ _ _ _, heap_3b _ _ _ _, below_alloc (below_alloc (below_alloc (Below.refl _ _) o) _) _⟩
theorem ques_at {w : World} {ad : Addr} {n : Nat} {q : Ques} (h : kQues.C w (some ad) n [q]) (h1 : 0 < n) : w.cell? ad = some (.string q.f0) ∧ w.cell? ⟨ad.block, ad.off + 1, none⟩ = some (.int .u16 q.f1) ∧ w.cell? ⟨ad.block, ad.off + 2, none⟩ = some (.int .u16 q.f2) := by
  obtain ⟨ad', q', hA, hqq, y0, y1, y2⟩ := at_ques h 0 h1
  have e : ad'.add (0 * 3) = ad' := rfl
  rw [e] at y0 y1 y2
  obtain rfl : q = q' := by rw [← hqq]; rfl
  obtain rfl := Option.some.inj hA
  exact ⟨y0, y1, y2⟩
set_option maxHeartbeats 4000000 in
set_option maxRecDepth 100000 in
theorem key_calls (m : Msg) (q : Ques) (v : Value) (w : World) (hv : MsgAt w v m) (hq : m.qs = [q]) (hs : q.f0.size ≤ 1000000) :
    Calls Try.prog 32 #[v] w fun e w' => e = .returned (Key.v ⟨foldN q.f0, q.f1, q.f2, false⟩) ∧ Below w.heap.size w w' := by
  obtain ⟨A2, c2, A3, c3, A4, c4, A5, c5, rfl, l2, g2, -, -, -, -, -, -⟩ := hv
  have hf := fun w => foldN_calls q.f0 w (by omega)
  generalize foldN q.f0 = nm at *
  have HF := Aside0.mk hf
  clear hf
  have hn : m.qs.length = 1 := by rw [hq]; rfl
  obtain ⟨ad, _, hA, -, -, -, -⟩ := at_ques g2 0 (by rw [hn]; decide)
  subst hA
  rw [hq] at g2
  have G2 := Aside0.mk g2
  have p2 : (0 : Int) < (m.qs.length : Int) := by omega
  have HN := Lib.hid hn
  clear hq g2 hn
  have HY := fun o1 o2 => ques_at (Kd.C_below G2.out (below_alloc (below_alloc (Below.refl _ _) o1) o2)) (by simp)
  have y0 := fun o1 o2 => (HY o1 o2).1
  have y1 := fun o1 o2 => (HY o1 o2).2.1
  have y2 := fun o1 o2 => (HY o1 o2).2.2
  clear HY
  go_enter Try.func32, Try.ntmps32
  go_wp2_with fail
  clear y0 y1 y2
  obtain ⟨HK, HH, HB⟩ := three_at w (.cells #[.int .u16 m.id, .int .u16 m.flags, .slice (some ad) m.qs.length c2, .slice A3 m.ans.length c3, .slice A4 m.auth.length c4, .slice A5 m.add.length c5] 35 (0, 0)) #[.string ⟨#[]⟩, .int .u16 0, .int .u16 0, .bool false] #[.string q.f0, .int .u16 q.f1, .int .u16 q.f2] 37 63
  have hk : w.heap.size ≤ w.heap.size + 1 := by omega
  have hkh : w.heap.size + 1 ≠ w.heap.size + 1 + 1 := by omega
  generalize hW : (((w.alloc (.cells #[.int .u16 m.id, .int .u16 m.flags, .slice (some ad) m.qs.length c2, .slice A3 m.ans.length c3, .slice A4 m.auth.length c4, .slice A5 m.add.length c5] 35 (0, 0))).alloc (.cells #[.string ⟨#[]⟩, .int .u16 0, .int .u16 0, .bool false] 37 (0, 0))).alloc (.cells #[.string q.f0, .int .u16 q.f1, .int .u16 q.f2] 63 (0, 0))) = W at *
  generalize w.heap.size + 1 + 1 = h at *
  generalize w.heap.size + 1 = k at *
  clear hW
  refine start_ (n := 9) (S := fun w' => (w'.cell? ⟨h, 0, none⟩ = some (.string q.f0) ∧ w'.cell? ⟨h, 1, none⟩ = some (.int .u16 q.f1) ∧ w'.cell? ⟨h, 2, none⟩ = some (.int .u16 q.f2)) ∧ Aside0 (SAt w' k #[.string ⟨#[]⟩, .int .u16 0, .int .u16 0, .bool false] 37 ∧ SAt w' h #[.string q.f0, .int .u16 q.f1, .int .u16 q.f2] 63 ∧ Below w.heap.size w w')) (ds := [8]) (Array.replicate 9 false) (by kernel_rfl) (by kernel_rfl) rfl ⟨⟨HH.is 0 rfl, HH.is 1 rfl, HH.is 2 rfl⟩, ⟨HK, HH, HB.drew⟩⟩ (fun hS => ?_)
  refine dpure 0 (some 8) rfl rfl (by kernel_rfl) (fun _ _ _ h => h) (by rfl) (v := ?_) (a' := ?_) ?_ ?_ ?_
  rotate_left 2
  · intro w'; go_simp; with_reducible rfl
  · simp only [Act.put, List.setIfInBounds_toArray, List.set_cons_zero, List.set_cons_succ]; rfl
  refine dtake 1 (some 9) rfl rfl (by kernel_rfl) (fun _ _ _ h => h) (by rfl) hS (v := ?_) (a' := ?_) ?_ ?_ ?_
  rotate_left 2
  · rintro w' ⟨⟨s0,s1,s2⟩,_⟩; go_simp; with_reducible rfl
  · simp only [Act.put, List.setIfInBounds_toArray, List.set_cons_zero, List.set_cons_succ]; rfl
  refine dpure 3 (some 11) rfl rfl (by kernel_rfl) (fun _ _ _ h => h) (by rfl) (v := ?_) (a' := ?_) ?_ ?_ ?_
  rotate_left 2
  · intro w'; go_simp; with_reducible rfl
  · simp only [Act.put, List.setIfInBounds_toArray, List.set_cons_zero, List.set_cons_succ]; rfl
  refine dtake 4 (some 12) rfl rfl (by kernel_rfl) (fun _ _ _ h => h) (by rfl) hS (v := ?_) (a' := ?_) ?_ ?_ ?_
  rotate_left 2
  · rintro w' ⟨⟨s0,s1,s2⟩,_⟩; go_simp; with_reducible rfl
  · simp only [Act.put, List.setIfInBounds_toArray, List.set_cons_zero, List.set_cons_succ]; rfl
  refine dpure 5 (some 13) rfl rfl (by kernel_rfl) (fun _ _ _ h => h) (by rfl) (v := ?_) (a' := ?_) ?_ ?_ ?_
  rotate_left 2
  · intro w'; go_simp; with_reducible rfl
  · simp only [Act.put, List.setIfInBounds_toArray, List.set_cons_zero, List.set_cons_succ]; rfl
  refine dtake 6 (some 14) rfl rfl (by kernel_rfl) (fun _ _ _ h => h) (by rfl) hS (v := ?_) (a' := ?_) ?_ ?_ ?_
  rotate_left 2
  · rintro w' ⟨⟨s0,s1,s2⟩,_⟩; go_simp; with_reducible rfl
  · simp only [Act.put, List.setIfInBounds_toArray, List.set_cons_zero, List.set_cons_succ]; rfl
  obtain ⟨-, HS⟩ := hS
  refine done1 2 (some 10) rfl rfl (by kernel_rfl) (by decide) (fun K hK => ?_)
  refine goes_ Try.func50 (by kernel_rfl) rfl #[.string q.f0] (by rfl) rfl rfl (by kernel_rfl) ?_
  refine (HF.out _).mono ?_
  rintro e w2 ⟨rfl, hb⟩
  refine ⟨_, rfl, ?_⟩
  obtain ⟨HK2, HH2, HB2⟩ := HS.out
  have HK2 := HK2.below hb
  have HH2 := HH2.below hb
  have HB2 := below_step HB2 hb
  clear HS hb HK HH HB
  refine hK.out _ _ ⟨⟨HH2.is 0 rfl, HH2.is 1 rfl, HH2.is 2 rfl⟩, ⟨HK2, HH2, HB2⟩⟩ (fun hS => ?_)
  clear hK K
  refine norm_ (a' := ?_) ?_ ?_
  rotate_left
  · simp only [Act.put, List.setIfInBounds_toArray, List.set_cons_zero, List.set_cons_succ]; rfl
  refine dpure 7 (some 15) rfl rfl (by kernel_rfl) (fun _ _ _ h => h) (by rfl) (v := ?_) (a' := ?_) ?_ ?_ ?_
  rotate_left 2
  · intro w'; go_simp; with_reducible rfl
  · simp only [Act.put, List.setIfInBounds_toArray, List.set_cons_zero, List.set_cons_succ]; rfl
  have z0 := HK2.is 0 rfl
  have z1 := HK2.is 1 rfl
  have z2 := HK2.is 2 rfl
  have z3 := HK2.is 3 rfl
  have f0 := HK2.frozen 0
  have f1 := HK2.frozen 1
  have f2 := HK2.frozen 2
  have f3 := HK2.frozen 3
  refine dlast 8 (Array.getElem?_eq_getElem (by decide)) (by kernel_rfl) (List.mem_singleton.2 rfl) (fun K hK => ?_)
  refine dskip (w1 := (((w2.setCell ⟨k, 0, none⟩ (.string nm)).setCell ⟨k, 1, none⟩ (.int .u16 q.f1)).setCell ⟨k, 2, none⟩ (.int .u16 q.f2)).setCell ⟨k, 3, none⟩ (.bool false)) (by rfl) rfl (by go_simp) ?_
  refine hK.out _ _ (done_ (by kernel_rfl) ?_)
  clear z0 z1 z2 z3 f0 f1 f2 f3
  have HX : SAt _ k #[.string nm, .int .u16 q.f1, .int .u16 q.f2, .bool false] 37 := (((HK2.set 0 (.string nm)).set 1 (.int .u16 q.f1)).set 2 (.int .u16 q.f2)).set 3 (.bool false)
  have HY := (((HB2.setCell (p := ⟨k, 0, none⟩) hk (.string nm)).setCell (p := ⟨k, 1, none⟩) hk (.int .u16 q.f1)).setCell (p := ⟨k, 2, none⟩) hk (.int .u16 q.f2)).setCell (p := ⟨k, 3, none⟩) hk (.bool false)
  generalize hW : ((((w2.setCell ⟨k, 0, none⟩ (.string nm)).setCell ⟨k, 1, none⟩ (.int .u16 q.f1)).setCell ⟨k, 2, none⟩ (.int .u16 q.f2)).setCell ⟨k, 3, none⟩ (.bool false)) = w3 at *
  clear hW HK2 HH2 HB2
  go_wp2_with fail
  have z0 := HX.is 0 rfl
  have z1 := HX.is 1 rfl
  have z2 := HX.is 2 rfl
  have z3 := HX.is 3 rfl
  refine bodyPost_ret (v := .agg #[.string nm, .int .u16 q.f1, .int .u16 q.f2, .bool false]) (by simp [results, Try.results32, go_sem, z0, z1, z2, z3]) rfl ?_
  exact ⟨rfl, HY⟩
def askF (m : Msg) : Option Key :=
  if m.flags / 32768 % 2 = 1 then none else if opF m.flags ≠ 0 then none else if m.qs.length ≠ 1 then none else if 0 < m.ans.length + m.auth.length then none else
  if (m.qs.getD 0 zQues).f1 = 41 then none else if isName (m.qs.getD 0 zQues).f0 = false then none else
  some ⟨foldS (m.qs.getD 0 zQues).f0, (m.qs.getD 0 zQues).f1, (m.qs.getD 0 zQues).f2, doF m.add⟩
def askE : Option Key → Value
  | none => .tuple #[zKey.v, .int .i64 107]
  | some k => .tuple #[k.v, .int .i64 0]
theorem heap_2a (h : Array Obj) (a b : Obj) : ((h.push a).push b)[h.size]? = some a := by
  rw [Array.getElem?_push, if_neg (by simp), Array.getElem?_push, if_pos rfl]
theorem heap_2b (h : Array Obj) (a b : Obj) : ((h.push a).push b)[h.size + 1]? = some b := by
  rw [Array.getElem?_push, if_pos (by simp)]
theorem two_at (w : World) (cs ds : Array Value) (T U : Nat) :
    SAt ((w.alloc (.cells cs T (0, 0))).alloc (.cells ds U (0, 0))) w.heap.size cs T ∧ SAt ((w.alloc (.cells cs T (0, 0))).alloc (.cells ds U (0, 0))) (w.heap.size + 1) ds U ∧ Below w.heap.size w ((w.alloc (.cells cs T (0, 0))).alloc (.cells ds U (0, 0))) :=
  ⟨heap_2a _ _ _, heap_2b _ _ _, below_alloc (below_alloc (Below.refl _ _) _) _⟩
set_option maxHeartbeats 8000000 in
set_option maxRecDepth 100000 in
theorem ask_calls (m : Msg) (v : Value) (w : World) (hv : MsgAt w v m) (hm : MsgSm m) :
    Calls Try.prog 19 #[v] w fun e w' => e = .returned (askE (askF m)) ∧ Below w.heap.size w w' := by
  have hv0 := hv
  obtain ⟨A2, c2, A3, c3, A4, c4, A5, c5, rfl, l2, g2, -, -, -, -, -, -⟩ := hv
  have HV := Aside0.mk hv0
  have HM := Aside0.mk hm
  have G2 := Aside0.mk g2
  obtain ⟨R, hR⟩ : ∃ R, askF m = R := ⟨_, rfl⟩
  rw [hR]
  unfold askF at hR
  have n0 : (m.qs.length : Int) ≤ 256 := by have := hm.n0; omega
  have n1 : (m.ans.length : Int) ≤ 256 := by have := hm.n1; omega
  have n2 : (m.auth.length : Int) ≤ 256 := by have := hm.n2; omega
  have a1 := and_bit16 m.flags hm.f0 hm.f1
  have hop := fun W h => opcode_calls m _ W (HV.out.below h) hm.f0 hm.f1
  clear hv0 hm g2
  go_enter Try.func19, Try.ntmps19
  go_upto_region 1 with fail
  obtain ⟨HX0, HK0, HB0⟩ := two_at w #[.int .u16 m.id, .int .u16 m.flags, .slice A2 m.qs.length c2, .slice A3 m.ans.length c3, .slice A4 m.auth.length c4, .slice A5 m.add.length c5] #[.string ⟨#[]⟩, .int .u16 0, .int .u16 0, .bool false] 35 37
  have hk : w.heap.size ≤ w.heap.size + 1 := by omega
  generalize hW : ((w.alloc (.cells #[.int .u16 m.id, .int .u16 m.flags, .slice A2 m.qs.length c2, .slice A3 m.ans.length c3, .slice A4 m.auth.length c4, .slice A5 m.add.length c5] 35 (0, 0))).alloc (.cells #[.string ⟨#[]⟩, .int .u16 0, .int .u16 0, .bool false] 37 (0, 0))) = w1 at *
  obtain ⟨k, hkk⟩ : ∃ k, w.heap.size + 1 = k := ⟨_, rfl⟩
  rw [hkk] at HK0 hk
  rw [hkk]
  clear hW hkk
  have HX1 := Aside0.mk HX0
  have HK1 := Aside0.mk HK0
  have HB1 := Aside0.mk HB0
  clear HX0 HK0 HB0
  have z0 := HX1.out.is 0 rfl
  have z1 := HX1.out.is 1 rfl
  have z2 := HX1.out.is 2 rfl
  have z3 := HX1.out.is 3 rfl
  have z4 := HX1.out.is 4 rfl
  have z5 := HX1.out.is 5 rfl
  by_cases c1 : m.flags / 32768 % 2 = 1
  · rw [if_pos c1] at hR a1
    subst hR
    clear c1
    have k0 := HK1.out.is 0 rfl
    have k1 := HK1.out.is 1 rfl
    have k2 := HK1.out.is 2 rfl
    have k3 := HK1.out.is 3 rfl
    have fk0 := HK1.out.frozen 0
    have fk1 := HK1.out.frozen 1
    have fk2 := HK1.out.frozen 2
    have fk3 := HK1.out.frozen 3
    go_wp2_with fail
    clear k0 k1 k2 k3 fk0 fk1 fk2 fk3
    have HX : SAt _ k #[(.string ⟨#[]⟩), (.int .u16 0), (.int .u16 0), (.bool false)] 37 := (((HK1.out.set 0 (.string ⟨#[]⟩)).set 1 (.int .u16 0)).set 2 (.int .u16 0)).set 3 (.bool false)
    have HY := (((HB1.out.setCell (p := ⟨k, 0, none⟩) hk (.string ⟨#[]⟩)).setCell (p := ⟨k, 1, none⟩) hk (.int .u16 0)).setCell (p := ⟨k, 2, none⟩) hk (.int .u16 0)).setCell (p := ⟨k, 3, none⟩) hk (.bool false)
    generalize hW : ((((w1.setCell ⟨k, 0, none⟩ (.string ⟨#[]⟩)).setCell ⟨k, 1, none⟩ (.int .u16 0)).setCell ⟨k, 2, none⟩ (.int .u16 0)).setCell ⟨k, 3, none⟩ (.bool false)) = w9 at *
    clear hW
    have q0 := HX.is 0 rfl
    have q1 := HX.is 1 rfl
    have q2 := HX.is 2 rfl
    have q3 := HX.is 3 rfl
    exact bodyPost_ret (v := askE none) (by simp [results, Try.results19, go_sem, q0, q1, q2, q3, askE, Key.v, zKey]) rfl ⟨rfl, HY⟩
  rw [if_neg c1] at hR a1
  clear c1
  have HOP := Aside0.mk hop
  clear hop
  go_wp2_with fail
  refine (HOP.out _ HB1.out).mono ?_
  rintro e w2 ⟨rfl, hb⟩
  have HX2 := Aside0.mk (HX1.out.below hb)
  have HK2 := Aside0.mk (HK1.out.below hb)
  have HB2 := Aside0.mk (below_step HB1.out hb)
  clear z0 z1 z2 z3 z4 z5 hb HX1 HK1 HB1 a1
  have z0 := HX2.out.is 0 rfl
  have z1 := HX2.out.is 1 rfl
  have z2 := HX2.out.is 2 rfl
  have z3 := HX2.out.is 3 rfl
  have z4 := HX2.out.is 4 rfl
  have z5 := HX2.out.is 5 rfl
  by_cases c2 : opF m.flags ≠ 0
  · rw [if_pos c2] at hR
    subst hR
    have e2 : (opF m.flags != 0) = true := bne_iff_ne.mpr c2
    clear c2
    have k0 := HK2.out.is 0 rfl
    have k1 := HK2.out.is 1 rfl
    have k2 := HK2.out.is 2 rfl
    have k3 := HK2.out.is 3 rfl
    have fk0 := HK2.out.frozen 0
    have fk1 := HK2.out.frozen 1
    have fk2 := HK2.out.frozen 2
    have fk3 := HK2.out.frozen 3
    go_wp2_with fail
    clear k0 k1 k2 k3 fk0 fk1 fk2 fk3
    have HX : SAt _ k #[(.string ⟨#[]⟩), (.int .u16 0), (.int .u16 0), (.bool false)] 37 := (((HK2.out.set 0 (.string ⟨#[]⟩)).set 1 (.int .u16 0)).set 2 (.int .u16 0)).set 3 (.bool false)
    have HY := (((HB2.out.setCell (p := ⟨k, 0, none⟩) hk (.string ⟨#[]⟩)).setCell (p := ⟨k, 1, none⟩) hk (.int .u16 0)).setCell (p := ⟨k, 2, none⟩) hk (.int .u16 0)).setCell (p := ⟨k, 3, none⟩) hk (.bool false)
    generalize hW : ((((w2.setCell ⟨k, 0, none⟩ (.string ⟨#[]⟩)).setCell ⟨k, 1, none⟩ (.int .u16 0)).setCell ⟨k, 2, none⟩ (.int .u16 0)).setCell ⟨k, 3, none⟩ (.bool false)) = w9 at *
    clear hW
    have q0 := HX.is 0 rfl
    have q1 := HX.is 1 rfl
    have q2 := HX.is 2 rfl
    have q3 := HX.is 3 rfl
    exact bodyPost_ret (v := askE none) (by simp [results, Try.results19, go_sem, q0, q1, q2, q3, askE, Key.v, zKey]) rfl ⟨rfl, HY⟩
  rw [if_neg c2] at hR
  have e2 : (opF m.flags != 0) = false := by rw [Decidable.not_not.mp c2]; rfl
  clear c2
  by_cases c3 : m.qs.length ≠ 1
  · rw [if_pos c3] at hR
    subst hR
    have e3 : ((m.qs.length : Int) != 1) = true := by rw [bne_iff_ne]; omega
    have e3' : (m.qs.length != 1) = true := bne_iff_ne.mpr c3
    clear c3
    have k0 := HK2.out.is 0 rfl
    have k1 := HK2.out.is 1 rfl
    have k2 := HK2.out.is 2 rfl
    have k3 := HK2.out.is 3 rfl
    have fk0 := HK2.out.frozen 0
    have fk1 := HK2.out.frozen 1
    have fk2 := HK2.out.frozen 2
    have fk3 := HK2.out.frozen 3
    go_wp2_with fail
    clear k0 k1 k2 k3 fk0 fk1 fk2 fk3
    have HX : SAt _ k #[(.string ⟨#[]⟩), (.int .u16 0), (.int .u16 0), (.bool false)] 37 := (((HK2.out.set 0 (.string ⟨#[]⟩)).set 1 (.int .u16 0)).set 2 (.int .u16 0)).set 3 (.bool false)
    have HY := (((HB2.out.setCell (p := ⟨k, 0, none⟩) hk (.string ⟨#[]⟩)).setCell (p := ⟨k, 1, none⟩) hk (.int .u16 0)).setCell (p := ⟨k, 2, none⟩) hk (.int .u16 0)).setCell (p := ⟨k, 3, none⟩) hk (.bool false)
    generalize hW : ((((w2.setCell ⟨k, 0, none⟩ (.string ⟨#[]⟩)).setCell ⟨k, 1, none⟩ (.int .u16 0)).setCell ⟨k, 2, none⟩ (.int .u16 0)).setCell ⟨k, 3, none⟩ (.bool false)) = w9 at *
    clear hW
    have q0 := HX.is 0 rfl
    have q1 := HX.is 1 rfl
    have q2 := HX.is 2 rfl
    have q3 := HX.is 3 rfl
    exact bodyPost_ret (v := askE none) (by simp [results, Try.results19, go_sem, q0, q1, q2, q3, askE, Key.v, zKey]) rfl ⟨rfl, HY⟩
  rw [if_neg c3] at hR
  have c3 := Decidable.not_not.mp c3
  have e3 : ((m.qs.length : Int) != 1) = false := by rw [c3]; rfl
  have e3' : (m.qs.length != 1) = false := by rw [c3]; rfl
  by_cases c4 : 0 < m.ans.length + m.auth.length
  · rw [if_pos c4] at hR
    subst hR
    have e4 : decide ((0 : Int) < (m.ans.length : Int) + (m.auth.length : Int)) = true := decide_eq_true (by omega)
    clear c4 c3
    have k0 := HK2.out.is 0 rfl
    have k1 := HK2.out.is 1 rfl
    have k2 := HK2.out.is 2 rfl
    have k3 := HK2.out.is 3 rfl
    have fk0 := HK2.out.frozen 0
    have fk1 := HK2.out.frozen 1
    have fk2 := HK2.out.frozen 2
    have fk3 := HK2.out.frozen 3
    go_wp2_with fail
    clear k0 k1 k2 k3 fk0 fk1 fk2 fk3
    have HX : SAt _ k #[(.string ⟨#[]⟩), (.int .u16 0), (.int .u16 0), (.bool false)] 37 := (((HK2.out.set 0 (.string ⟨#[]⟩)).set 1 (.int .u16 0)).set 2 (.int .u16 0)).set 3 (.bool false)
    have HY := (((HB2.out.setCell (p := ⟨k, 0, none⟩) hk (.string ⟨#[]⟩)).setCell (p := ⟨k, 1, none⟩) hk (.int .u16 0)).setCell (p := ⟨k, 2, none⟩) hk (.int .u16 0)).setCell (p := ⟨k, 3, none⟩) hk (.bool false)
    generalize hW : ((((w2.setCell ⟨k, 0, none⟩ (.string ⟨#[]⟩)).setCell ⟨k, 1, none⟩ (.int .u16 0)).setCell ⟨k, 2, none⟩ (.int .u16 0)).setCell ⟨k, 3, none⟩ (.bool false)) = w9 at *
    clear hW
    have q0 := HX.is 0 rfl
    have q1 := HX.is 1 rfl
    have q2 := HX.is 2 rfl
    have q3 := HX.is 3 rfl
    exact bodyPost_ret (v := askE none) (by simp [results, Try.results19, go_sem, q0, q1, q2, q3, askE, Key.v, zKey]) rfl ⟨rfl, HY⟩
  rw [if_neg c4] at hR
  have e4 : decide ((0 : Int) < (m.ans.length : Int) + (m.auth.length : Int)) = false := decide_eq_false (by omega)
  clear c4
  obtain ⟨q, hq⟩ : ∃ q, m.qs = [q] := List.length_eq_one_iff.mp c3
  have hgd : m.qs.getD 0 zQues = q := by rw [hq]; rfl
  rw [hgd] at hR
  obtain ⟨ad, _, hA, -, -, -, -⟩ := at_ques G2.out 0 (by rw [c3]; decide)
  subst hA
  have g2 := G2.out
  rw [hq] at g2
  obtain ⟨y0, y1, y2⟩ := ques_at (Kd.C_below g2 HB2.out) (by simp)
  have p2 : (0 : Int) < (m.qs.length : Int) := by omega
  have hqs := HM.out.q q (by rw [hq]; simp)
  have HQ := Aside0.mk hq
  have HQS := Aside0.mk hqs
  clear c3 hgd hq g2 G2 hqs
  by_cases c5 : q.f1 = 41
  · rw [if_pos c5] at hR
    subst hR
    have e5 : (q.f1 == 41) = true := beq_iff_eq.mpr c5
    clear c5
    have k0 := HK2.out.is 0 rfl
    have k1 := HK2.out.is 1 rfl
    have k2 := HK2.out.is 2 rfl
    have k3 := HK2.out.is 3 rfl
    have fk0 := HK2.out.frozen 0
    have fk1 := HK2.out.frozen 1
    have fk2 := HK2.out.frozen 2
    have fk3 := HK2.out.frozen 3
    go_wp2_with fail
    clear k0 k1 k2 k3 fk0 fk1 fk2 fk3
    have HX : SAt _ k #[(.string ⟨#[]⟩), (.int .u16 0), (.int .u16 0), (.bool false)] 37 := (((HK2.out.set 0 (.string ⟨#[]⟩)).set 1 (.int .u16 0)).set 2 (.int .u16 0)).set 3 (.bool false)
    have HY := (((HB2.out.setCell (p := ⟨k, 0, none⟩) hk (.string ⟨#[]⟩)).setCell (p := ⟨k, 1, none⟩) hk (.int .u16 0)).setCell (p := ⟨k, 2, none⟩) hk (.int .u16 0)).setCell (p := ⟨k, 3, none⟩) hk (.bool false)
    generalize hW : ((((w2.setCell ⟨k, 0, none⟩ (.string ⟨#[]⟩)).setCell ⟨k, 1, none⟩ (.int .u16 0)).setCell ⟨k, 2, none⟩ (.int .u16 0)).setCell ⟨k, 3, none⟩ (.bool false)) = w9 at *
    clear hW
    have q0 := HX.is 0 rfl
    have q1 := HX.is 1 rfl
    have q2 := HX.is 2 rfl
    have q3 := HX.is 3 rfl
    exact bodyPost_ret (v := askE none) (by simp [results, Try.results19, go_sem, q0, q1, q2, q3, askE, Key.v, zKey]) rfl ⟨rfl, HY⟩
  rw [if_neg c5] at hR
  have e5 : (q.f1 == 41) = false := beq_eq_false_iff_ne.mpr c5
  clear c5
  go_wp2_with fail
  refine (key_calls m q _ _ (HV.out.below HB2.out) HQ.out (by have := HQS.out.name; omega)).mono ?_
  rintro e w3 ⟨rfl, hb⟩
  have HX3 := Aside0.mk (HX2.out.below hb)
  have HK3 := Aside0.mk (HK2.out.below hb)
  have HB3 := Aside0.mk (below_step HB2.out hb)
  clear z0 z1 z2 z3 z4 z5 hb HX2 HK2 HB2 y0 y1 y2 e2 e3 e3' e4 e5 HOP p2
  unfold Key.v
  simp only []
  cases c6 : isName q.f0 with
  | false =>
    rw [if_pos c6] at hR
    have hN : foldN q.f0 = ⟨#[]⟩ := by unfold foldN; rw [if_neg (by rw [c6]; simp)]
    rw [hN]
    subst hR
    clear c6 hN
    go_upto_if 43 with fail
    have HJ4 := SAt.new w3 #[.string ⟨#[]⟩, .int .u16 q.f1, .int .u16 q.f2, .bool false] 37
    have HX4 := Aside0.mk (HX3.out.below (below_alloc (Below.refl _ _) (.cells #[.string ⟨#[]⟩, .int .u16 q.f1, .int .u16 q.f2, .bool false] 37 (0, 0))))
    have HK4 := Aside0.mk (HK3.out.below (below_alloc (Below.refl _ _) (.cells #[.string ⟨#[]⟩, .int .u16 q.f1, .int .u16 q.f2, .bool false] 37 (0, 0))))
    have HB4 := Aside0.mk (below_alloc HB3.out (.cells #[.string ⟨#[]⟩, .int .u16 q.f1, .int .u16 q.f2, .bool false] 37 (0, 0)))
    have hjk := Nat.ne_of_gt HK3.out.lt
    have hjw : w.heap.size ≤ w3.heap.size := below_size HB3.out
    have hxj := Nat.ne_of_lt HX3.out.lt
    generalize hW : (w3.alloc (.cells #[.string ⟨#[]⟩, .int .u16 q.f1, .int .u16 q.f2, .bool false] 37 (0, 0))) = w4 at *
    generalize w3.heap.size = j at *
    clear hW HX3 HK3 HB3
    have k0 := HK4.out.is 0 rfl
    have k1 := HK4.out.is 1 rfl
    have k2 := HK4.out.is 2 rfl
    have k3 := HK4.out.is 3 rfl
    have fk0 := HK4.out.frozen 0
    have fk1 := HK4.out.frozen 1
    have fk2 := HK4.out.frozen 2
    have fk3 := HK4.out.frozen 3
    go_wp2_with fail
    clear k0 k1 k2 k3 fk0 fk1 fk2 fk3
    have HX : SAt _ k #[(.string ⟨#[]⟩), (.int .u16 0), (.int .u16 0), (.bool false)] 37 := (((HK4.out.set 0 (.string ⟨#[]⟩)).set 1 (.int .u16 0)).set 2 (.int .u16 0)).set 3 (.bool false)
    have HY := (((HB4.out.setCell (p := ⟨k, 0, none⟩) hk (.string ⟨#[]⟩)).setCell (p := ⟨k, 1, none⟩) hk (.int .u16 0)).setCell (p := ⟨k, 2, none⟩) hk (.int .u16 0)).setCell (p := ⟨k, 3, none⟩) hk (.bool false)
    generalize hW : ((((w4.setCell ⟨k, 0, none⟩ (.string ⟨#[]⟩)).setCell ⟨k, 1, none⟩ (.int .u16 0)).setCell ⟨k, 2, none⟩ (.int .u16 0)).setCell ⟨k, 3, none⟩ (.bool false)) = w9 at *
    clear hW
    have q0 := HX.is 0 rfl
    have q1 := HX.is 1 rfl
    have q2 := HX.is 2 rfl
    have q3 := HX.is 3 rfl
    exact bodyPost_ret (v := askE none) (by simp [results, Try.results19, go_sem, q0, q1, q2, q3, askE, Key.v, zKey]) rfl ⟨rfl, HY⟩
  | true =>
    rw [if_neg (by rw [c6]; simp)] at hR
    have hN : foldN q.f0 = foldS q.f0 := by unfold foldN; rw [if_pos c6]
    have hz : (foldS q.f0).size ≠ 0 := by rw [foldS_size]; exact isName_size c6
    have ht := text_some hz
    rw [hN]
    clear c6 hN hz
    generalize foldS q.f0 = nm at *
    go_upto_region 6 with fail
    have HJ4 := SAt.new w3 #[.string nm, .int .u16 q.f1, .int .u16 q.f2, .bool false] 37
    have HX4 := Aside0.mk (HX3.out.below (below_alloc (Below.refl _ _) (.cells #[.string nm, .int .u16 q.f1, .int .u16 q.f2, .bool false] 37 (0, 0))))
    have HK4 := Aside0.mk (HK3.out.below (below_alloc (Below.refl _ _) (.cells #[.string nm, .int .u16 q.f1, .int .u16 q.f2, .bool false] 37 (0, 0))))
    have HB4 := Aside0.mk (below_alloc HB3.out (.cells #[.string nm, .int .u16 q.f1, .int .u16 q.f2, .bool false] 37 (0, 0)))
    have hjk := Nat.ne_of_gt HK3.out.lt
    have hjw : w.heap.size ≤ w3.heap.size := below_size HB3.out
    have hxj := Nat.ne_of_lt HX3.out.lt
    generalize hW : (w3.alloc (.cells #[.string nm, .int .u16 q.f1, .int .u16 q.f2, .bool false] 37 (0, 0))) = w4 at *
    generalize w3.heap.size = j at *
    clear hW HX3 HK3 HB3
    have HJ4 := Aside0.mk HJ4
    have z0 := HX4.out.is 0 rfl
    have z1 := HX4.out.is 1 rfl
    have z2 := HX4.out.is 2 rfl
    have z3 := HX4.out.is 3 rfl
    have z4 := HX4.out.is 4 rfl
    have z5 := HX4.out.is 5 rfl
    go_wp2_with fail
    clear z0 z1 z2 z3 z4 z5
    refine (do_calls m _ _ (HV.out.below HB4.out) HM.out).mono ?_
    rintro e w5 ⟨rfl, hb⟩
    have HK5 := HK4.out.below hb
    have HJ5 := HJ4.out.below hb
    have HB5 := below_step HB4.out hb
    clear hb HX4 HK4 HB4 HJ4
    generalize doF m.add = b at *
    have j0 := HJ5.is 0 rfl
    have j1 := HJ5.is 1 rfl
    have j2 := HJ5.is 2 rfl
    have j3 := HJ5.is 3 rfl
    have fj0 := HJ5.frozen 0
    have fj1 := HJ5.frozen 1
    have fj2 := HJ5.frozen 2
    have fj3 := HJ5.frozen 3
    go_upto_region 7 with fail
    clear j0 j1 j2 j3 fj0 fj1 fj2 fj3
    have HJ6 : SAt _ j #[.string nm, .int .u16 q.f1, .int .u16 q.f2, .bool b] 37 := HJ5.set 3 (.bool b)
    have HK6 := HK5.far (Ne.symm hjk) 3 (.bool b)
    have HB6 := HB5.setCell (p := ⟨j, 3, none⟩) hjw (.bool b)
    clear HJ5 HK5 HB5
    generalize w5.setCell ⟨j, 3, none⟩ (.bool b) = w6 at *
    have j0 := HJ6.is 0 rfl
    have j1 := HJ6.is 1 rfl
    have j2 := HJ6.is 2 rfl
    have j3 := HJ6.is 3 rfl
    have fj0 := HJ6.frozen 0
    have fj1 := HJ6.frozen 1
    have fj2 := HJ6.frozen 2
    have fj3 := HJ6.frozen 3
    have k0 := HK6.is 0 rfl
    have k1 := HK6.is 1 rfl
    have k2 := HK6.is 2 rfl
    have k3 := HK6.is 3 rfl
    have fk0 := HK6.frozen 0
    have fk1 := HK6.frozen 1
    have fk2 := HK6.frozen 2
    have fk3 := HK6.frozen 3
    go_wp2_with fail
    clear j0 j1 j2 j3 fj0 fj1 fj2 fj3
    clear k0 k1 k2 k3 fk0 fk1 fk2 fk3
    have HX : SAt _ k #[(.string nm), (.int .u16 q.f1), (.int .u16 q.f2), (.bool b)] 37 := (((HK6.set 0 (.string nm)).set 1 (.int .u16 q.f1)).set 2 (.int .u16 q.f2)).set 3 (.bool b)
    have HY := (((HB6.setCell (p := ⟨k, 0, none⟩) hk (.string nm)).setCell (p := ⟨k, 1, none⟩) hk (.int .u16 q.f1)).setCell (p := ⟨k, 2, none⟩) hk (.int .u16 q.f2)).setCell (p := ⟨k, 3, none⟩) hk (.bool b)
    generalize hW : ((((w6.setCell ⟨k, 0, none⟩ (.string nm)).setCell ⟨k, 1, none⟩ (.int .u16 q.f1)).setCell ⟨k, 2, none⟩ (.int .u16 q.f2)).setCell ⟨k, 3, none⟩ (.bool b)) = w9 at *
    clear hW
    have q0 := HX.is 0 rfl
    have q1 := HX.is 1 rfl
    have q2 := HX.is 2 rfl
    have q3 := HX.is 3 rfl
    subst hR
    exact bodyPost_ret (v := askE (some ⟨nm, q.f1, q.f2, b⟩)) (by simp [results, Try.results19, go_sem, q0, q1, q2, q3, askE, Key.v]) rfl ⟨rfl, HY⟩
end Go.Proofs.Ytfoflodgegehfaa.M
set_option linter.unusedVariables false
set_option linter.unusedSimpArgs false
namespace Go.Proofs.Ytfoflodgegehfaa.M
open Go.RowKit Go.Maps Go.Proofs.YtfoflodgegehfaaW.PrintWords Go.Proofs.YtfoflodgegehfaaW.PrintLast Go.Proofs.YtfoflodgegehfaaW.PrintMore
attribute [local go_sem] max2_int min2_int max_two min_two max_three min_three max_four min_four
attribute [local go_sem ↓] Go.wp_at_zero Go.wp_at_succ
structure Req where
  method : ByteArray
  path : ByteArray
  text : ByteArray
  media : ByteArray
  has : Bool
  len : Int
def Req.cs (r : Req) : Array Value := #[.string r.method, .string r.path, .string r.text, .string r.media, .bool r.has, .int .i64 r.len]
def Req.v (r : Req) : Value := .agg r.cs
def epT : ByteArray := ⟨#[47, 100, 110, 115, 45, 113, 117, 101, 114, 121]⟩
def postT : ByteArray := ⟨#[80, 79, 83, 84]⟩
def getT : ByteArray := ⟨#[71, 69, 84]⟩
def mediaT : ByteArray := ⟨#[97, 112, 112, 108, 105, 99, 97, 116, 105, 111, 110, 47, 100, 110, 115, 45, 109, 101, 115, 115, 97, 103, 101]⟩
def dnsT : ByteArray := ⟨#[100, 110, 115]⟩
def getF' (q : ByteArray) : ByteArray × Int :=
  if (paramF q dnsT).2 = false then (⟨#[]⟩, 400) else if (decB (paramF q dnsT).1).2 = false then (⟨#[]⟩, 400) else ((decB (paramF q dnsT).1).1, 200)
def bytesF (r : Req) (body : ByteArray) : ByteArray × Int :=
  if cutA r.path 63 ≠ epT then (⟨#[]⟩, 404) else if r.method = postT then (if r.media ≠ mediaT then (⟨#[]⟩, 415) else (body, 200)) else
  if r.method ≠ getT then (⟨#[]⟩, 405) else getF' (cutB r.path 63)
theorem paramN_size (n : Nat) : ∀ (s k : ByteArray), (paramN n s k).1.size ≤ s.size := by
  induction n with
  | zero => intro s k; exact Nat.zero_le _
  | succ n ih =>
    intro s k
    unfold paramN
    split
    · exact Nat.le_trans (cutB_size _ _) (cutA_size _ _)
    · split
      · exact Nat.le_trans (ih _ _) (cutB_size _ _)
      · exact Nat.zero_le _
theorem paramF_size (s k : ByteArray) : (paramF s k).1.size ≤ s.size := paramN_size _ _ _
theorem const_yes {s t : ByteArray} (h : s = t) {L : List UInt8} (hL : t.data.toList = L) : (s.toList == L) = true ∧ (!s.toList == L) = false ∧ s.toList = L := by
  subst h
  rw [Lib.toList_data, hL]
  simp
theorem const_no {s t : ByteArray} (h : s ≠ t) {L : List UInt8} (hL : t.data.toList = L) : (s.toList == L) = false ∧ (!s.toList == L) = true ∧ ¬ s.toList = L := by
  have e : ¬ s.toList = L := by
    rw [← hL, Lib.toList_data]
    intro e
    exact h (ByteArray.ext (Array.ext' e))
  have e1 : (s.toList == L) = false := beq_eq_false_iff_ne.mpr e
  exact ⟨e1, by rw [e1]; rfl, e⟩
set_option maxHeartbeats 8000000 in
set_option maxRecDepth 100000 in
theorem bytes_calls (r : Req) (body : ByteArray) (w : World) (hp : r.path.size ≤ 100000) :
    Calls Try.prog 24 #[r.v, .string body] w fun e w' => e = .returned (.tuple #[.string (bytesF r body).1, .int .i64 (bytesF r body).2]) ∧ Below w.heap.size w w' := by
  obtain ⟨R, hR⟩ : ∃ R, bytesF r body = R := ⟨_, rfl⟩
  rw [hR]
  unfold bytesF at hR
  have hs := fun w => split_route_calls r.path w (by omega)
  have hq1 := fun w => param_calls (cutB r.path 63) dnsT w (by have := cutB_size r.path 63; omega)
  have hq2 := fun w => decode_calls (paramF (cutB r.path 63) dnsT).1 w (by have := paramF_size (cutB r.path 63) dnsT; have := cutB_size r.path 63; omega)
  unfold getF' at hR
  generalize cutA r.path 63 = a at *
  generalize cutB r.path 63 = q at *
  generalize paramF q dnsT = pr at *
  generalize decB pr.1 = de at *
  obtain ⟨pv, pb⟩ := pr
  obtain ⟨dv, db⟩ := de
  obtain ⟨me, pa, te, md, ha, le⟩ := r
  simp only [Req.v, Req.cs] at *
  have HQ1 := Aside0.mk hq1
  have HQ2 := Aside0.mk hq2
  clear hq1 hq2 hp
  go_enter Try.func24, Try.ntmps24
  go_upto_region 1 with fail
  have HX1 := Aside0.mk (SAt.new w #[.string me, .string pa, .string te, .string md, .bool ha, .int .i64 le] 30)
  have HB1 := Aside0.mk (below_alloc (Below.refl w.heap.size w) (.cells #[.string me, .string pa, .string te, .string md, .bool ha, .int .i64 le] 30 (0, 0)))
  generalize hW : w.alloc (.cells #[.string me, .string pa, .string te, .string md, .bool ha, .int .i64 le] 30 (0, 0)) = w1 at *
  clear hW
  have z0 := HX1.out.is 0 rfl
  have z1 := HX1.out.is 1 rfl
  have z2 := HX1.out.is 2 rfl
  have z3 := HX1.out.is 3 rfl
  have z4 := HX1.out.is 4 rfl
  have z5 := HX1.out.is 5 rfl
  go_wp2_with fail
  refine (hs _).mono ?_
  rintro e w2 ⟨rfl, hb⟩
  have HX2 := Aside0.mk (HX1.out.below hb)
  have HB2 := Aside0.mk (below_step HB1.out hb)
  clear z0 z1 z2 z3 z4 z5 hb HX1 HB1 hs
  have z0 := HX2.out.is 0 rfl
  have z1 := HX2.out.is 1 rfl
  have z2 := HX2.out.is 2 rfl
  have z3 := HX2.out.is 3 rfl
  have z4 := HX2.out.is 4 rfl
  have z5 := HX2.out.is 5 rfl
  by_cases c1 : a ≠ epT
  · rw [if_pos c1] at hR
    subst hR
    obtain ⟨d1, d2, d3⟩ := const_no c1 (L := [47, 100, 110, 115, 45, 113, 117, 101, 114, 121]) rfl
    clear c1
    go_wp2_with fail
    go_ret2
    exact ⟨rfl, HB2.out⟩
  rw [if_neg c1] at hR
  obtain ⟨d1, d2, d3⟩ := const_yes (Decidable.not_not.mp c1) (L := [47, 100, 110, 115, 45, 113, 117, 101, 114, 121]) rfl
  clear c1
  by_cases c2 : me = postT
  · rw [if_pos c2] at hR
    obtain ⟨d4, d5, d6⟩ := const_yes c2 (L := [80, 79, 83, 84]) rfl
    clear c2
    by_cases c3 : md ≠ mediaT
    · rw [if_pos c3] at hR
      subst hR
      obtain ⟨d7, d8, d9⟩ := const_no c3 (L := [97, 112, 112, 108, 105, 99, 97, 116, 105, 111, 110, 47, 100, 110, 115, 45, 109, 101, 115, 115, 97, 103, 101]) rfl
      clear c3
      go_wp2_with fail
      go_ret2
      exact ⟨rfl, HB2.out⟩
    rw [if_neg c3] at hR
    obtain ⟨d7, d8, d9⟩ := const_yes (Decidable.not_not.mp c3) (L := [97, 112, 112, 108, 105, 99, 97, 116, 105, 111, 110, 47, 100, 110, 115, 45, 109, 101, 115, 115, 97, 103, 101]) rfl
    subst hR
    clear c3
    go_wp2_with fail
    go_ret2
    exact ⟨rfl, HB2.out⟩
  rw [if_neg c2] at hR
  obtain ⟨d4, d5, d6⟩ := const_no c2 (L := [80, 79, 83, 84]) rfl
  clear c2
  by_cases c3 : me ≠ getT
  · rw [if_pos c3] at hR
    subst hR
    obtain ⟨d7, d8, d9⟩ := const_no c3 (L := [71, 69, 84]) rfl
    clear c3
    go_wp2_with fail
    go_ret2
    exact ⟨rfl, HB2.out⟩
  rw [if_neg c3] at hR
  obtain ⟨d7, d8, d9⟩ := const_yes (Decidable.not_not.mp c3) (L := [71, 69, 84]) rfl
  clear c3
  go_wp2_with fail
  refine (HQ1.out _).mono ?_
  rintro e w3 ⟨rfl, hb⟩
  have HB3 := Aside0.mk (below_step HB2.out hb)
  clear z0 z1 z2 z3 z4 z5 hb HX2 HB2 d1 d2 d3 d4 d5 d6 d7 d8 d9
  go_wp2_with fail
  refine (HQ2.out _).mono ?_
  rintro e w4 ⟨rfl, hb⟩
  have HB4 := Aside0.mk (below_step HB3.out hb)
  clear hb HB3
  cases pb with
  | false =>
    rw [if_pos rfl] at hR
    subst hR
    go_wp2_with fail
    go_ret2
    exact ⟨rfl, HB4.out⟩
  | true =>
    rw [if_neg (by simp)] at hR
    cases db with
    | false =>
      rw [if_pos rfl] at hR
      subst hR
      go_wp2_with fail
      go_ret2
      exact ⟨rfl, HB4.out⟩
    | true =>
      rw [if_neg (by simp)] at hR
      subst hR
      go_wp2_with fail
      go_ret2
      exact ⟨rfl, HB4.out⟩
end Go.Proofs.Ytfoflodgegehfaa.M
set_option linter.unusedVariables false
set_option linter.unusedSimpArgs false
namespace Go.Proofs.Ytfoflodgegehfaa.M
open Go.RowKit Go.Maps Go.Proofs.YtfoflodgegehfaaW.PrintWords Go.Proofs.YtfoflodgegehfaaW.PrintLast Go.Proofs.YtfoflodgegehfaaW.PrintMore
attribute [local go_sem] max2_int min2_int max_two min_two max_three min_three max_four min_four
attribute [local go_sem ↓] Go.wp_at_zero Go.wp_at_succ
theorem assert_yes (c : Int) (w : World) : (Instr.typeAssert (.iface 42 (.int .i64 c)) 20 42 true).run Try.prog w = .ok (.tuple #[.int .i64 c, .bool true]) w := by kernel_rfl
theorem assert_no (w : World) : (Instr.typeAssert .nilIface 20 42 true).run Try.prog w = .ok (.tuple #[.int .i64 0, .bool false]) w := by kernel_rfl
set_option maxRecDepth 100000 in
theorem caught_panic (p : Addr) (x : Value) (c : Int) (w : World) (hc : w.cell? p = some x) (hz : w.frozen? p = false) :
    CallsD Try.prog 29 #[.pointer (some p)] (.panicking [{ v := .iface 42 (.int .i64 c), recovered := false }]) w fun e u' w' =>
      e = .returned (.tuple #[]) ∧ u' = .panicking [{ v := .iface 42 (.int .i64 c), recovered := true }] ∧ w' = w.setCell p (.int .i64 c) := by
  have hta := assert_yes c
  refine callsD_of_wpS Try.func29 rfl fun c₀ cs hu => ?_
  apply wpS_seq
  apply wpS_region
  simp [wpOpsS, go_sem, recoverD, hu, Try.ntmps29, Exit.thenS, hta]
  apply wpS_seq
  apply wpS_region
  simp [wpOpsS, go_sem, Exit.thenS]
  refine wpS_cond (t := true) (by simp [Act.eval, Array.replicate]) ?_
  simp only [if_true]
  apply wpS_region
  simp [wpOpsS, go_sem, hc, hz, bodyPostS, results, Try.results29, Array.replicate]
theorem caught_idle (p : Addr) (w : World) :
    CallsD Try.prog 29 #[.pointer (some p)] .returning w fun e u' w' => e = .returned (.tuple #[]) ∧ u' = .returning ∧ w' = w := by
  have hta := assert_no
  refine callsD_of_wpS Try.func29 rfl fun c₀ cs hu => ?_
  apply wpS_seq
  apply wpS_region
  simp [wpOpsS, go_sem, recoverD, hu, Try.ntmps29, Exit.thenS, hta]
  apply wpS_seq
  apply wpS_region
  simp [wpOpsS, go_sem, Exit.thenS]
  refine wpS_cond (t := false) (by simp [Act.eval, Array.replicate]) ?_
  simp only [Bool.false_eq_true, if_false]
  refine wpS_of_wp (wp_skip ?_)
  cases c₀
  simp_all [bodyPostS, results, Try.results29]
theorem heap_two' (h : Array Obj) (a b : Obj) : ((h.push a).push b)[h.size + 1]? = some b := by
  rw [Array.getElem?_push, if_pos (by simp)]
def zM : Msg := ⟨0, 0, [], [], [], []⟩
def readF (s : ByteArray) : Msg × Int := if 65535 < s.size then (zM, 3) else match msgR s with
  | .error c => (zM, c)
  | .ok (m, _) => (m, 0)
theorem heap_three (h : Array Obj) (a b c : Obj) : (((h.push a).push b).push c)[h.size + 2]? = some c := by
  rw [Array.getElem?_push, if_pos (by simp)]
theorem msgAt_of {B : Nat} {m : Msg} {v : Value} {w : World} (h : MsgP B m v w) : MsgAt w v m := by
  obtain ⟨v2, v3, v4, v5, rfl, h2, h3, h4, h5⟩ := h
  obtain ⟨A2, c2, rfl, l2, g2⟩ := Kd.R_reads h2
  obtain ⟨A3, c3, rfl, l3, g3⟩ := Kd.R_reads h3
  obtain ⟨A4, c4, rfl, l4, g4⟩ := Kd.R_reads h4
  obtain ⟨A5, c5, rfl, l5, g5⟩ := Kd.R_reads h5
  exact ⟨A2, c2, A3, c3, A4, c4, A5, c5, rfl, l2, g2, l3, g3, l4, g4, l5, g5⟩
theorem zM_at (w : World) : MsgAt w (.agg zMsg) zM := ⟨none, 0, none, 0, none, 0, none, 0, rfl, Nat.le_refl _, Kd.C_nil _ _, Nat.le_refl _, Kd.C_nil _ _, Nat.le_refl _, Kd.C_nil _ _, Nat.le_refl _, Kd.C_nil _ _⟩
theorem three_new (w : World) (c : Int) (cs : Array Value) :
    SAt ((w.alloc (.cells zMsg 35 (0, 0))).alloc (.cells #[.int .i64 c] 42 (0, 0))) w.heap.size zMsg 35 ∧ SAt ((w.alloc (.cells zMsg 35 (0, 0))).alloc (.cells #[.int .i64 c] 42 (0, 0))) (w.heap.size + 1) #[.int .i64 c] 42 ∧
    SAt (((w.alloc (.cells zMsg 35 (0, 0))).alloc (.cells #[.int .i64 c] 42 (0, 0))).alloc (.cells cs 68 (0, 0))) w.heap.size zMsg 35 ∧ Below w.heap.size w ((w.alloc (.cells zMsg 35 (0, 0))).alloc (.cells #[.int .i64 c] 42 (0, 0))) ∧
    SAt (((w.alloc (.cells zMsg 35 (0, 0))).alloc (.cells #[.int .i64 c] 42 (0, 0))).alloc (.cells cs 68 (0, 0))) (w.heap.size + 1) #[.int .i64 c] 42 ∧ SAt (((w.alloc (.cells zMsg 35 (0, 0))).alloc (.cells #[.int .i64 c] 42 (0, 0))).alloc (.cells cs 68 (0, 0))) (w.heap.size + 1 + 1) cs 68 ∧
    Below w.heap.size w (((w.alloc (.cells zMsg 35 (0, 0))).alloc (.cells #[.int .i64 c] 42 (0, 0))).alloc (.cells cs 68 (0, 0))) := by
  have b1 : Below w.heap.size w (w.alloc (.cells zMsg 35 (0, 0))) := below_alloc (Below.refl _ _) _
  have s1 : w.heap.size ≤ (w.alloc (.cells zMsg 35 (0, 0))).heap.size := b1.size
  have b2 := b1.trans ((below_alloc (Below.refl _ (w.alloc (.cells zMsg 35 (0, 0)))) (.cells #[.int .i64 c] 42 (0, 0))).mono s1)
  have b3 := b2.trans ((below_alloc (Below.refl _ ((w.alloc (.cells zMsg 35 (0, 0))).alloc (.cells #[.int .i64 c] 42 (0, 0)))) (.cells cs 68 (0, 0))).mono b2.size)
  have v1 := SAt.new w zMsg 35
  have v2 := v1.below (below_alloc (Below.refl _ _) (.cells #[.int .i64 c] 42 (0, 0)))
  have e2 : SAt ((w.alloc (.cells zMsg 35 (0, 0))).alloc (.cells #[.int .i64 c] 42 (0, 0))) (w.heap.size + 1) #[.int .i64 c] 42 := by
    show ((w.heap.push _).push _)[w.heap.size + 1]? = _
    exact heap_two' _ _ _
  refine ⟨v2, e2, v2.below (below_alloc (Below.refl _ _) _), b2, e2.below (below_alloc (Below.refl _ _) _), ?_, b3⟩
  show (((w.heap.push _).push _).push _)[w.heap.size + 2]? = _
  exact heap_three _ _ _ _
theorem MsgP.setE {B : Nat} {mm : Msg} {v : Value} {w : World} {r : Nat} {cs : Array Value} (h : MsgP B mm v w) (hx : SAt w r cs 42) (j : Nat) (u : Value) : MsgP B mm v (w.setCell ⟨r, j, none⟩ u) := by
  obtain ⟨v2, v3, v4, v5, h1, h2, h3, h4, h5⟩ := h
  exact ⟨v2, v3, v4, v5, h1, Kd.R_set h2 hx (by decide) j u, Kd.R_set h3 hx (by decide) j u, Kd.R_set h4 hx (by decide) j u, Kd.R_set h5 hx (by decide) j u⟩
structure Laid (w0 w : World) (m p B : Nat) (mm : Msg) (v : Value) (cs : Array Value) : Prop where
  vm : SAt w m cs 35
  vp : SAt w p #[.int .i64 0] 42
  b : Below w0.heap.size w0 w
  P : MsgP B mm v w
  ne : m ≠ p
  sz : w0.heap.size ≤ m
theorem Laid.step {w0 w : World} {m p B : Nat} {mm : Msg} {v : Value} {cs : Array Value} (h : Laid w0 w m p B mm v cs) (j : Nat) (u : Value) : Laid w0 (w.setCell ⟨m, j, none⟩ u) m p B mm v (cs.setIfInBounds j u) :=
  ⟨h.vm.set j u, h.vp.far (Ne.symm h.ne) j u, h.b.setCell h.sz u, h.P.set h.vm j u, h.ne, h.sz⟩
def ReadPost (x : Msg × Int) (w : World) (e : Ending) (w' : World) : Prop := (∃ v, e = .returned (.tuple #[v, .int .i64 x.2]) ∧ MsgAt w' v x.1) ∧ Below w.heap.size w w'
def ReadOwn (x : Msg × Int) (w : World) (e : Ending) (w' : World) : Prop := (∃ v, e = .returned (.tuple #[v, .int .i64 x.2]) ∧ MsgP w.heap.size x.1 v w') ∧ Below w.heap.size w w'
theorem ReadOwn.post {x : Msg × Int} {w : World} {e : Ending} {w' : World} (h : ReadOwn x w e w') : ReadPost x w e w' := by
  obtain ⟨⟨v, he, hp⟩, hb⟩ := h
  exact ⟨⟨v, he, msgAt_of hp⟩, hb⟩
theorem MsgP.lower {B B' : Nat} {m : Msg} {v : Value} {w : World} (h : MsgP B m v w) (hb : B' ≤ B) : MsgP B' m v w := by
  obtain ⟨v2, v3, v4, v5, h1, h2, h3, h4, h5⟩ := h
  exact ⟨v2, v3, v4, v5, h1, Kd.R_lower h2 hb, Kd.R_lower h3 hb, Kd.R_lower h4 hb, Kd.R_lower h5 hb⟩
theorem zM_own (B : Nat) (w : World) : MsgP B zM (.agg zMsg) w := ⟨_, _, _, _, rfl, Kd.R_nil _ _ _ _ _, Kd.R_nil _ _ _ _ _, Kd.R_nil _ _ _ _ _, Kd.R_nil _ _ _ _ _⟩
set_option maxHeartbeats 4000000 in
set_option maxRecDepth 100000 in
theorem Read_reads (s : ByteArray) (w : World) (hs : s.size ≤ 1000000) :
    Calls Try.prog 18 #[.string s] w fun e w' => ReadOwn (readF s) w e w' := by
  obtain ⟨R, hR⟩ : ∃ R, readF s = R := ⟨_, rfl⟩
  rw [hR]
  unfold readF at hR
  by_cases hl : 65535 < s.size
  · rw [if_pos hl] at hR
    subst hR
    have d1 : decide ((65535 : Int) < (s.size : Int)) = true := decide_eq_true (by omega)
    have d2 : decide (65535 < s.size) = true := decide_eq_true hl
    clear hl
    have HW := Aside0.mk (three_new w 3 #[])
    go_enter_defers Try.func18, Try.ntmps18
    go_wp2_with fail
    obtain ⟨hv, hp, -, hb, -⟩ := HW.out
    clear HW
    generalize hW : (w.alloc (.cells zMsg 35 (0, 0))).alloc (.cells #[.int .i64 3] 42 (0, 0)) = W2 at *
    rw [show ((w.alloc (.cells #[.int .u16 0, .int .u16 0, .slice none 0 0, .slice none 0 0, .slice none 0 0, .slice none 0 0] 35 (0, 0))).alloc (.cells #[.int .i64 3] 42 (0, 0))) = W2 from hW]
    clear hW
    have z0 := hv.is 0 rfl
    have z1 := hv.is 1 rfl
    have z2 := hv.is 2 rfl
    have z3 := hv.is 3 rfl
    have z4 := hv.is 4 rfl
    have z5 := hv.is 5 rfl
    have e0 := hp.is 0 rfl
    refine ⟨.tuple #[.agg zMsg, .int .i64 3], by simp [results, Try.results18, go_sem, z0, z1, z2, z3, z4, z5, e0, zMsg], ⟨_, rfl, zM_own _ _⟩, hb⟩
  · rw [if_neg hl] at hR
    have d1 : decide ((65535 : Int) < (s.size : Int)) = false := decide_eq_false (by omega)
    have d2 : decide (65535 < s.size) = false := decide_eq_false hl
    clear hl
    have HW := Aside0.mk (three_new w 0 #[.string s, .int .i64 0])
    go_enter_defers Try.func18, Try.ntmps18
    go_wp2_with fail
    obtain ⟨-, -, hv, -, hp, hr, hb⟩ := HW.out
    clear HW
    have hr : RAt _ (w.heap.size + 1 + 1) s 0 := hr
    have HSZ := Aside0.mk hb.size
    generalize hW : ((w.alloc (.cells zMsg 35 (0, 0))).alloc (.cells #[.int .i64 0] 42 (0, 0))).alloc (.cells #[.string s, .int .i64 0] 68 (0, 0)) = W2 at *
    rw [show (((w.alloc (.cells #[.int .u16 0, .int .u16 0, .slice none 0 0, .slice none 0 0, .slice none 0 0, .slice none 0 0] 35 (0, 0))).alloc (.cells #[.int .i64 0] 42 (0, 0))).alloc (.cells #[.string s, .int .i64 0] 68 (0, 0))) = W2 from hW]
    clear hW
    obtain ⟨m, hm⟩ : ∃ m, w.heap.size = m := ⟨_, rfl⟩
    obtain ⟨p, hpp⟩ : ∃ p, m + 1 = p := ⟨_, rfl⟩
    obtain ⟨g, hg⟩ : ∃ g, p + 1 = g := ⟨_, rfl⟩
    have hzm : w.heap.size ≤ m := by omega
    have hzp : w.heap.size ≤ p := by omega
    have hzg : w.heap.size ≤ g := by omega
    have hmp : m ≠ p := by omega
    have hpm := Ne.symm hmp
    rw [hm] at hv
    rw [hm, hpp] at hp
    rw [hm, hpp, hg] at hr
    rw [hm, hpp, hg]
    clear hm hpp hg
    refine (message_reads hr hs).mono ?_
    intro e w2 ht
    have hb2 : Below w.heap.size w w2 := ht.only.below hb hb.size hzg
    have hv2 := hv.only hr (by decide) ht.only
    have hp2 := hp.only hr (by decide) ht.only
    have e0 : w2.cell? ⟨p, 0, none⟩ = some (.int .i64 0) := hp2.is 0 rfl
    have f0 := hp2.frozen 0
    cases hn : msgR s with
    | error c =>
      rw [hn] at hR
      subst hR
      obtain rfl := ht.bad c hn
      refine leaves_cons (f := 29) (args := #[.pointer (some ⟨p, 0, none⟩)]) (by simp) (by simp [go_sem]) ?_
      refine (caught_panic ⟨p, 0, none⟩ _ c _ e0 f0).mono ?_
      rintro e u' w'' ⟨rfl, rfl, rfl⟩
      have hv3 := hv2.far hmp 0 (.int .i64 c)
      have hp3 : SAt _ p #[.int .i64 c] 42 := hp2.set 0 (.int .i64 c)
      have hb3 : Below w.heap.size w (w2.setCell ⟨p, 0, none⟩ (.int .i64 c)) := hb2.setCell hzp _
      clear e0 f0
      generalize w2.setCell ⟨p, 0, none⟩ (.int .i64 c) = w3 at *
      have z0 := hv3.is 0 rfl
      have z1 := hv3.is 1 rfl
      have z2 := hv3.is 2 rfl
      have z3 := hv3.is 3 rfl
      have z4 := hv3.is 4 rfl
      have z5 := hv3.is 5 rfl
      have e0 := hp3.is 0 rfl
      show Leaves _ _ _ _ _ (settle _) _
      simp only [settle, List.dropWhile_nil]
      refine ⟨.tuple #[.agg zMsg, .int .i64 c], by simp [results, Try.results18, go_sem, z0, z1, z2, z3, z4, z5, e0, zMsg], ⟨_, rfl, zM_own _ _⟩, hb3⟩
    | ok x =>
      obtain ⟨mm, nx⟩ := x
      rw [hn] at hR
      subst hR
      obtain ⟨v, rfl, hP, hr2⟩ := ht.good mm nx hn
      obtain ⟨v2, v3, v4, v5, rfl, q2, q3, q4, q5⟩ := hP
      obtain ⟨A2, l2, c2, rfl⟩ := R_anyslice q2
      obtain ⟨A3, l3, c3, rfl⟩ := R_anyslice q3
      obtain ⟨A4, l4, c4, rfl⟩ := R_anyslice q4
      obtain ⟨A5, l5, c5, rfl⟩ := R_anyslice q5
      have P0 : MsgP W2.heap.size mm (.agg #[.int .u16 mm.id, .int .u16 mm.flags, .slice A2 l2 c2, .slice A3 l3 c3, .slice A4 l4 c4, .slice A5 l5 c5]) w2 := ⟨_, _, _, _, rfl, q2, q3, q4, q5⟩
      clear ht hn q2 q3 q4 q5
      have z0 := hv2.is 0 rfl
      have z1 := hv2.is 1 rfl
      have z2 := hv2.is 2 rfl
      have z3 := hv2.is 3 rfl
      have z4 := hv2.is 4 rfl
      have z5 := hv2.is 5 rfl
      have y0 := hv2.frozen 0
      have y1 := hv2.frozen 1
      have y2 := hv2.frozen 2
      have y3 := hv2.frozen 3
      have y4 := hv2.frozen 4
      have y5 := hv2.frozen 5
      go_wp2_with fail
      clear z0 z1 z2 z3 z4 z5 y0 y1 y2 y3 y4 y5 e0 f0
      have L0 : Laid w w2 m p W2.heap.size mm (.agg #[.int .u16 mm.id, .int .u16 mm.flags, .slice A2 l2 c2, .slice A3 l3 c3, .slice A4 l4 c4, .slice A5 l5 c5]) zMsg := ⟨hv2, hp2, hb2, P0, hmp, hzm⟩
      have L6 := (((((L0.step 0 (.int .u16 mm.id)).step 1 (.int .u16 mm.flags)).step 2 (.slice A2 l2 c2)).step 3 (.slice A3 l3 c3)).step 4 (.slice A4 l4 c4)).step 5 (.slice A5 l5 c5)
      clear L0 P0 hv2 hp2 hb2 hr2
      generalize hW : (((((w2.setCell ⟨m, 0, none⟩ (.int .u16 mm.id)).setCell ⟨m, 1, none⟩ (.int .u16 mm.flags)).setCell ⟨m, 2, none⟩ (.slice A2 l2 c2)).setCell ⟨m, 3, none⟩ (.slice A3 l3 c3)).setCell ⟨m, 4, none⟩ (.slice A4 l4 c4)).setCell ⟨m, 5, none⟩ (.slice A5 l5 c5) = w3 at *
      have hv9 : SAt (w3.setCell ⟨p, 0, none⟩ (.int .i64 0)) m #[.int .u16 mm.id, .int .u16 mm.flags, .slice A2 l2 c2, .slice A3 l3 c3, .slice A4 l4 c4, .slice A5 l5 c5] 35 := SAt.far (show SAt w3 m #[.int .u16 mm.id, .int .u16 mm.flags, .slice A2 l2 c2, .slice A3 l3 c3, .slice A4 l4 c4, .slice A5 l5 c5] 35 from L6.vm) hmp 0 _
      have hp9 : SAt (w3.setCell ⟨p, 0, none⟩ (.int .i64 0)) p #[.int .i64 0] 42 := L6.vp.set 0 (.int .i64 0)
      have hb9 : Below w.heap.size w (w3.setCell ⟨p, 0, none⟩ (.int .i64 0)) := L6.b.setCell hzp _
      have P9 := L6.P.setE L6.vp 0 (.int .i64 0)
      clear L6
      generalize w3.setCell ⟨p, 0, none⟩ (.int .i64 0) = w4 at *
      refine leaves_cons (f := 29) (args := #[.pointer (some ⟨p, 0, none⟩)]) (by simp) (by simp [go_sem]) ?_
      refine (caught_idle ⟨p, 0, none⟩ _).mono ?_
      rintro e u' w'' ⟨rfl, rfl, rfl⟩
      have z0 := hv9.is 0 rfl
      have z1 := hv9.is 1 rfl
      have z2 := hv9.is 2 rfl
      have z3 := hv9.is 3 rfl
      have z4 := hv9.is 4 rfl
      have z5 := hv9.is 5 rfl
      have e0 := hp9.is 0 rfl
      show Leaves _ _ _ _ _ (settle _) _
      simp only [settle]
      refine ⟨.tuple #[.agg #[.int .u16 mm.id, .int .u16 mm.flags, .slice A2 l2 c2, .slice A3 l3 c3, .slice A4 l4 c4, .slice A5 l5 c5], .int .i64 0], by simp [results, Try.results18, go_sem, z0, z1, z2, z3, z4, z5, e0], ⟨_, rfl, P9.lower HSZ.out⟩, hb9⟩
def nameT : Except Int (List Int × Int) → Ending
  | .error c => .returned (.tuple #[.string ⟨#[]⟩, .int .i64 0, .int .i64 c])
  | .ok (b, nx) => .returned (.tuple #[.string (strOfNums b), .int .i64 nx, .int .i64 0])
end Go.Proofs.Ytfoflodgegehfaa.M
set_option linter.unusedVariables false
set_option linter.unusedSimpArgs false
namespace Go.Proofs.Ytfoflodgegehfaa.M
open Go.RowKit Go.Maps Go.Proofs.YtfoflodgegehfaaW.PrintWords Go.Proofs.YtfoflodgegehfaaW.PrintLast Go.Proofs.YtfoflodgegehfaaW.PrintMore
attribute [local go_sem] max2_int min2_int max_two min_two max_three min_three max_four min_four
attribute [local go_sem ↓] Go.wp_at_zero Go.wp_at_succ
theorem zM_sm : MsgSm zM := ⟨by decide, by decide, by decide, by decide, by decide, by decide, fun _ h => absurd h (by simp [zM]), fun _ h => absurd h (by simp [zM])⟩
theorem readF_sm (s : ByteArray) : MsgSm (readF s).1 := by
  unfold readF
  split
  · exact zM_sm
  · cases h : msgR s with
    | error c => exact zM_sm
    | ok x => exact msg_sm (show msgR s = .ok (x.1, x.2) from h) (by omega)
theorem readF_err {s : ByteArray} (h : (readF s).2 ≠ 0) : (readF s).1 = zM := by
  unfold readF at h ⊢
  by_cases c : 65535 < s.size
  · rw [if_pos c]
  · rw [if_neg c] at h ⊢
    cases hm : msgR s with
    | error c => rfl
    | ok x => rw [hm] at h; exact absurd rfl h
theorem readF_three (s : ByteArray) : (readF s).2 = 3 ↔ 65535 < s.size := by
  unfold readF
  by_cases c : 65535 < s.size
  · rw [if_pos c]; exact ⟨fun _ => c, fun _ => rfl⟩
  · rw [if_neg c]
    refine ⟨fun h => ?_, fun h => absurd h c⟩
    cases hm : msgR s with
    | error d => rw [hm] at h; exact absurd h (msgR_er3 hm).2
    | ok x => rw [hm] at h; exact absurd h (show ¬ (0 : Int) = 3 by decide)
def routeS (s : ByteArray) : Msg × Key × Int :=
  if (readF s).2 = 3 then (zM, zKey, 413) else if (readF s).2 ≠ 0 then (zM, zKey, 400) else
  match askF (readF s).1 with
  | none => (zM, zKey, 400)
  | some k => ((readF s).1, k, 200)
def routeF (r : Req) (body : ByteArray) : Msg × Key × Int := if (bytesF r body).2 ≠ 200 then (zM, zKey, (bytesF r body).2) else routeS (bytesF r body).1
theorem MsgP.setA {B : Nat} {mm : Msg} {v : Value} {w : World} {r : Nat} {cs : Array Value} (h : MsgP B mm v w) (hx : SAt w r cs 35) (j : Nat) (u : Value) : MsgP B mm v (w.setCell ⟨r, j, none⟩ u) := by
  obtain ⟨v2, v3, v4, v5, h1, h2, h3, h4, h5⟩ := h
  exact ⟨v2, v3, v4, v5, h1, Kd.R_set h2 hx (by decide) j u, Kd.R_set h3 hx (by decide) j u, Kd.R_set h4 hx (by decide) j u, Kd.R_set h5 hx (by decide) j u⟩
theorem MsgP.setK {B : Nat} {mm : Msg} {v : Value} {w : World} {r : Nat} {cs : Array Value} (h : MsgP B mm v w) (hx : SAt w r cs 37) (j : Nat) (u : Value) : MsgP B mm v (w.setCell ⟨r, j, none⟩ u) := by
  obtain ⟨v2, v3, v4, v5, h1, h2, h3, h4, h5⟩ := h
  exact ⟨v2, v3, v4, v5, h1, Kd.R_set h2 hx (by decide) j u, Kd.R_set h3 hx (by decide) j u, Kd.R_set h4 hx (by decide) j u, Kd.R_set h5 hx (by decide) j u⟩
theorem MsgP.bel {B : Nat} {mm : Msg} {v : Value} {w w1 : World} (h : MsgP B mm v w) (hb : Below w.heap.size w w1) : MsgP B mm v w1 := by
  obtain ⟨v2, v3, v4, v5, h1, h2, h3, h4, h5⟩ := h
  exact ⟨v2, v3, v4, v5, h1, Kd.R_below h2 hb, Kd.R_below h3 hb, Kd.R_below h4 hb, Kd.R_below h5 hb⟩
theorem MsgP.drew {B : Nat} {mm : Msg} {v : Value} {w : World} (h : MsgP B mm v w) : MsgP B mm v w.drew := h
structure RS (w0 w : World) (a b : Nat) (ms ks : Array Value) (B : Nat) (mm : Msg) (v : Value) : Prop where
  am : SAt w a ms 35
  bk : SAt w b ks 37
  bl : Below w0.heap.size w0 w
  ne : a ≠ b
  la : w0.heap.size ≤ a
  lb : w0.heap.size ≤ b
  p : MsgP B mm v w
section
variable {w0 w w1 : World} {a b B : Nat} {ms ks : Array Value} {mm : Msg} {v : Value}
theorem RS.setm (h : RS w0 w a b ms ks B mm v) (j : Nat) (u : Value) : RS w0 (w.setCell ⟨a, j, none⟩ u) a b (ms.setIfInBounds j u) ks B mm v :=
  ⟨h.am.set j u, h.bk.far (Ne.symm h.ne) j u, h.bl.setCell h.la u, h.ne, h.la, h.lb, h.p.setA h.am j u⟩
theorem RS.setk (h : RS w0 w a b ms ks B mm v) (j : Nat) (u : Value) : RS w0 (w.setCell ⟨b, j, none⟩ u) a b ms (ks.setIfInBounds j u) B mm v :=
  ⟨h.am.far h.ne j u, h.bk.set j u, h.bl.setCell h.lb u, h.ne, h.la, h.lb, h.p.setK h.bk j u⟩
theorem RS.call (h : RS w0 w a b ms ks B mm v) (hb : Below w.heap.size w w1) : RS w0 w1 a b ms ks B mm v :=
  ⟨h.am.below hb, h.bk.below hb, below_step h.bl hb, h.ne, h.la, h.lb, h.p.bel hb⟩
theorem RS.drew (h : RS w0 w a b ms ks B mm v) : RS w0 w.drew a b ms ks B mm v := ⟨h.am, h.bk, h.bl.drew, h.ne, h.la, h.lb, h.p⟩
theorem RS.msg (h : RS w0 w a b ms ks B mm v) {B' : Nat} {m2 : Msg} {v2 : Value} (hp : MsgP B' m2 v2 w) : RS w0 w a b ms ks B' m2 v2 := ⟨h.am, h.bk, h.bl, h.ne, h.la, h.lb, hp⟩
end
def zKc : Array Value := #[.string ⟨#[]⟩, .int .u16 0, .int .u16 0, .bool false]
theorem heap_3z (h : Array Obj) (a b c : Obj) : (((h.push a).push b).push c)[h.size]? = some a := by
  rw [Array.getElem?_push, if_neg (by simp; omega), Array.getElem?_push, if_neg (by simp), Array.getElem?_push, if_pos rfl]
theorem three_new' (w : World) (es cs ds : Array Value) (S T U : Nat) :
    SAt (((w.alloc (.cells es S (0, 0))).alloc (.cells cs T (0, 0))).alloc (.cells ds U (0, 0))) w.heap.size es S ∧ SAt (((w.alloc (.cells es S (0, 0))).alloc (.cells cs T (0, 0))).alloc (.cells ds U (0, 0))) (w.heap.size + 1) cs T ∧ SAt (((w.alloc (.cells es S (0, 0))).alloc (.cells cs T (0, 0))).alloc (.cells ds U (0, 0))) (w.heap.size + 1 + 1) ds U ∧ Below w.heap.size w (((w.alloc (.cells es S (0, 0))).alloc (.cells cs T (0, 0))).alloc (.cells ds U (0, 0))) :=
  ⟨heap_3z _ _ _ _, (three_at w _ cs ds T U).1, (three_at w _ cs ds T U).2.1, (three_at w _ cs ds T U).2.2⟩
def RoutePost (x : Msg × Key × Int) (w : World) (e : Ending) (w' : World) : Prop := (∃ v, e = .returned (.tuple #[v, x.2.1.v, .int .i64 x.2.2]) ∧ MsgAt w' v x.1) ∧ Below w.heap.size w w'
theorem RS.zero {w0 w : World} {a b B : Nat} {x0 x1 x2 x3 x4 x5 y0 y1 y2 y3 v : Value} {mm : Msg} (h : RS w0 w a b #[x0, x1, x2, x3, x4, x5] #[y0, y1, y2, y3] B mm v) :
    RS w0 ((((((((((w.setCell ⟨a, 0, none⟩ (.int .u16 0)).setCell ⟨a, 1, none⟩ (.int .u16 0)).setCell ⟨a, 2, none⟩ (.slice none 0 0)).setCell ⟨a, 3, none⟩ (.slice none 0 0)).setCell ⟨a, 4, none⟩ (.slice none 0 0)).setCell ⟨a, 5, none⟩ (.slice none 0 0)).setCell ⟨b, 0, none⟩ (.string ⟨#[]⟩)).setCell ⟨b, 1, none⟩ (.int .u16 0)).setCell ⟨b, 2, none⟩ (.int .u16 0)).setCell ⟨b, 3, none⟩ (.bool false)) a b zMsg zKc B mm v := by
  have L := ((((((((((h.setm 0 (.int .u16 0)).setm 1 (.int .u16 0)).setm 2 (.slice none 0 0)).setm 3 (.slice none 0 0)).setm 4 (.slice none 0 0)).setm 5 (.slice none 0 0)).setk 0 (.string ⟨#[]⟩)).setk 1 (.int .u16 0)).setk 2 (.int .u16 0)).setk 3 (.bool false))
  unfold zMsg zKc
  simpa using L
theorem RS.mset {w0 w : World} {a b B : Nat} {x0 x1 x2 x3 x4 x5 v u0 u1 u2 u3 u4 u5 : Value} {ks : Array Value} {mm : Msg} (h : RS w0 w a b #[x0, x1, x2, x3, x4, x5] ks B mm v) :
    RS w0 ((((((w.setCell ⟨a, 0, none⟩ u0).setCell ⟨a, 1, none⟩ u1).setCell ⟨a, 2, none⟩ u2).setCell ⟨a, 3, none⟩ u3).setCell ⟨a, 4, none⟩ u4).setCell ⟨a, 5, none⟩ u5) a b #[u0, u1, u2, u3, u4, u5] ks B mm v := by
  have L := (((((h.setm 0 u0).setm 1 u1).setm 2 u2).setm 3 u3).setm 4 u4).setm 5 u5
  simpa using L
theorem RS.kset {w0 w : World} {a b B : Nat} {x0 x1 x2 x3 v u0 u1 u2 u3 : Value} {ms : Array Value} {mm : Msg} (h : RS w0 w a b ms #[x0, x1, x2, x3] B mm v) :
    RS w0 ((((w.setCell ⟨b, 0, none⟩ u0).setCell ⟨b, 1, none⟩ u1).setCell ⟨b, 2, none⟩ u2).setCell ⟨b, 3, none⟩ u3) a b ms #[u0, u1, u2, u3] B mm v := by
  have L := (((h.setk 0 u0).setk 1 u1).setk 2 u2).setk 3 u3
  simpa using L
theorem rs_cells {w0 w : World} {a b B : Nat} {x0 x1 x2 x3 x4 x5 u0 u1 u2 u3 v : Value} {mm : Msg} (h : RS w0 w a b #[x0, x1, x2, x3, x4, x5] #[u0, u1, u2, u3] B mm v) :
    ((w.cell? ⟨a, 0, none⟩ = some x0 ∧ w.cell? ⟨a, 1, none⟩ = some x1 ∧ w.cell? ⟨a, 2, none⟩ = some x2 ∧ w.cell? ⟨a, 3, none⟩ = some x3 ∧ w.cell? ⟨a, 4, none⟩ = some x4 ∧ w.cell? ⟨a, 5, none⟩ = some x5) ∧
    (w.cell? ⟨b, 0, none⟩ = some u0 ∧ w.cell? ⟨b, 1, none⟩ = some u1 ∧ w.cell? ⟨b, 2, none⟩ = some u2 ∧ w.cell? ⟨b, 3, none⟩ = some u3)) ∧ Aside0 (RS w0 w a b #[x0, x1, x2, x3, x4, x5] #[u0, u1, u2, u3] B mm v) :=
  ⟨⟨⟨h.am.is 0 rfl, h.am.is 1 rfl, h.am.is 2 rfl, h.am.is 3 rfl, h.am.is 4 rfl, h.am.is 5 rfl⟩, h.bk.is 0 rfl, h.bk.is 1 rfl, h.bk.is 2 rfl, h.bk.is 3 rfl⟩, ⟨h⟩⟩
set_option maxHeartbeats 8000000 in
set_option maxRecDepth 100000 in
theorem route_calls (r : Req) (body : ByteArray) (w : World) (hp : r.path.size ≤ 100000) (hbd : body.size ≤ 100000) :
    Calls Try.prog 15 #[r.v, .string body] w fun e w' => RoutePost (routeF r body) w e w' := by
  obtain ⟨R, hR⟩ : ∃ R, routeF r body = R := ⟨_, rfl⟩
  rw [hR]
  unfold routeF at hR
  have hs := fun w => bytes_calls r body w hp
  have hz : (bytesF r body).1.size ≤ 100000 := by
    unfold bytesF
    repeat' split
    · exact Nat.zero_le _
    · exact Nat.zero_le _
    · exact hbd
    · exact Nat.zero_le _
    · unfold getF'
      have h1 := decB_size (paramF (cutB r.path 63) dnsT).1
      have h2 := paramF_size (cutB r.path 63) dnsT
      have h3 := cutB_size r.path 63
      generalize decB (paramF (cutB r.path 63) dnsT).1 = dd at *
      repeat' split
      · exact Nat.zero_le _
      · exact Nat.zero_le _
      · show dd.1.size ≤ _
        omega
  generalize bytesF r body = y at *
  obtain ⟨s, st⟩ := y
  simp only [] at hR hs hz
  obtain ⟨me, pa, te, md, ha, le⟩ := r
  simp only [Req.v, Req.cs] at *
  clear hp hbd
  go_enter Try.func15, Try.ntmps15
  go_upto_region 1 with fail
  obtain ⟨HR0, HM0, HK0, HB0⟩ := three_new' w #[.string me, .string pa, .string te, .string md, .bool ha, .int .i64 le] zMsg zKc 30 35 37
  have la : w.heap.size ≤ w.heap.size + 1 := by omega
  have lb : w.heap.size ≤ w.heap.size + 1 + 1 := by omega
  have nab : w.heap.size + 1 ≠ w.heap.size + 1 + 1 := by omega
  unfold zMsg zKc at HM0 HK0 HR0 HB0
  generalize hW : (((w.alloc (.cells #[.string me, .string pa, .string te, .string md, .bool ha, .int .i64 le] 30 (0, 0))).alloc (.cells #[.int .u16 0, .int .u16 0, .slice none 0 0, .slice none 0 0, .slice none 0 0, .slice none 0 0] 35 (0, 0))).alloc (.cells #[.string ⟨#[]⟩, .int .u16 0, .int .u16 0, .bool false] 37 (0, 0))) = w1 at *
  clear hW
  obtain ⟨b, hbb⟩ : ∃ b, w.heap.size + 1 + 1 = b := ⟨_, rfl⟩
  rw [hbb] at HK0 lb nab
  rw [hbb]
  clear hbb
  obtain ⟨a, haa⟩ : ∃ a, w.heap.size + 1 = a := ⟨_, rfl⟩
  rw [haa] at HM0 la nab
  rw [haa]
  clear haa
  have D1 := Aside0.mk (show RS w w1 a b zMsg zKc 0 zM (.agg zMsg) from ⟨HM0, HK0, HB0, nab, la, lb, zM_own _ _⟩)
  clear HM0 HK0 HB0 la lb nab
  have z0 := HR0.is 0 rfl
  have z1 := HR0.is 1 rfl
  have z2 := HR0.is 2 rfl
  have z3 := HR0.is 3 rfl
  have z4 := HR0.is 4 rfl
  have z5 := HR0.is 5 rfl
  go_wp2_with fail
  clear z0 z1 z2 z3 z4 z5 HR0
  refine (hs _).mono ?_
  rintro e w2 ⟨rfl, hb⟩
  have D2 := Aside0.mk (D1.out.call hb)
  clear hb D1 hs
  by_cases c1 : st ≠ 200
  · rw [if_pos c1] at hR
    subst hR
    have d1 : (st != 200) = true := bne_iff_ne.mpr c1
    clear c1
    have z0 := D2.out.am.is 0 rfl
    have z1 := D2.out.am.is 1 rfl
    have z2 := D2.out.am.is 2 rfl
    have z3 := D2.out.am.is 3 rfl
    have z4 := D2.out.am.is 4 rfl
    have z5 := D2.out.am.is 5 rfl
    have y0 := D2.out.am.frozen 0
    have y1 := D2.out.am.frozen 1
    have y2 := D2.out.am.frozen 2
    have y3 := D2.out.am.frozen 3
    have y4 := D2.out.am.frozen 4
    have y5 := D2.out.am.frozen 5
    have k0 := D2.out.bk.is 0 rfl
    have k1 := D2.out.bk.is 1 rfl
    have k2 := D2.out.bk.is 2 rfl
    have k3 := D2.out.bk.is 3 rfl
    have fk0 := D2.out.bk.frozen 0
    have fk1 := D2.out.bk.frozen 1
    have fk2 := D2.out.bk.frozen 2
    have fk3 := D2.out.bk.frozen 3
    have nab := D2.out.ne
    have nba := Ne.symm D2.out.ne
    go_wp2_with fail
    clear k0 k1 k2 k3 fk0 fk1 fk2 fk3
    clear z0 z1 z2 z3 z4 z5 y0 y1 y2 y3 y4 y5 nab nba
    have L := D2.out.zero
    have z0 : World.cell? _ ⟨a, 0, none⟩ = some (.int .u16 0) := L.am.is 0 rfl
    have z1 : World.cell? _ ⟨a, 1, none⟩ = some (.int .u16 0) := L.am.is 1 rfl
    have z2 : World.cell? _ ⟨a, 2, none⟩ = some (.slice none 0 0) := L.am.is 2 rfl
    have z3 : World.cell? _ ⟨a, 3, none⟩ = some (.slice none 0 0) := L.am.is 3 rfl
    have z4 : World.cell? _ ⟨a, 4, none⟩ = some (.slice none 0 0) := L.am.is 4 rfl
    have z5 : World.cell? _ ⟨a, 5, none⟩ = some (.slice none 0 0) := L.am.is 5 rfl
    have k0 : World.cell? _ ⟨b, 0, none⟩ = some (.string ⟨#[]⟩) := L.bk.is 0 rfl
    have k1 : World.cell? _ ⟨b, 1, none⟩ = some (.int .u16 0) := L.bk.is 1 rfl
    have k2 : World.cell? _ ⟨b, 2, none⟩ = some (.int .u16 0) := L.bk.is 2 rfl
    have k3 : World.cell? _ ⟨b, 3, none⟩ = some (.bool false) := L.bk.is 3 rfl
    exact bodyPost_ret (v := .tuple #[.agg zMsg, zKey.v, .int .i64 st]) (by simp [results, Try.results15, go_sem, z0, z1, z2, z3, z4, z5, k0, k1, k2, k3, zMsg, zKey, Key.v]) rfl ⟨⟨_, rfl, zM_at _⟩, L.bl⟩
  rw [if_neg c1] at hR
  obtain rfl := Decidable.not_not.mp c1
  clear c1
  go_wp2_with fail
  refine (Read_reads s _ (by omega)).mono ?_
  rintro e w3 ⟨⟨v, rfl, hp⟩, hb⟩
  have hsm := readF_sm s
  have h0 := @readF_err s
  have h3 := readF_three s
  unfold routeS at hR
  generalize readF s = x at *
  obtain ⟨m, er⟩ := x
  simp only [] at *
  have D3' := Aside0.mk ((D2.out.call hb).msg hp)
  obtain ⟨v2, v3, v4, v5, rfl, q2, q3, q4, q5⟩ := hp
  obtain ⟨A2, l2, c2, rfl⟩ := R_anyslice q2
  obtain ⟨A3, l3, c3, rfl⟩ := R_anyslice q3
  obtain ⟨A4, l4, c4, rfl⟩ := R_anyslice q4
  obtain ⟨A5, l5, c5, rfl⟩ := R_anyslice q5
  have D3 : Aside0 (RS w w3 a b zMsg zKc w2.heap.size m (.agg #[.int .u16 m.id, .int .u16 m.flags, .slice A2 l2 c2, .slice A3 l3 c3, .slice A4 l4 c4, .slice A5 l5 c5])) := D3'
  clear q2 q3 q4 q5 hb D2 D3'
  have z0 := D3.out.am.is 0 rfl
  have z1 := D3.out.am.is 1 rfl
  have z2 := D3.out.am.is 2 rfl
  have z3 := D3.out.am.is 3 rfl
  have z4 := D3.out.am.is 4 rfl
  have z5 := D3.out.am.is 5 rfl
  have y0 := D3.out.am.frozen 0
  have y1 := D3.out.am.frozen 1
  have y2 := D3.out.am.frozen 2
  have y3 := D3.out.am.frozen 3
  have y4 := D3.out.am.frozen 4
  have y5 := D3.out.am.frozen 5
  have k0 := D3.out.bk.is 0 rfl
  have k1 := D3.out.bk.is 1 rfl
  have k2 := D3.out.bk.is 2 rfl
  have k3 := D3.out.bk.is 3 rfl
  have fk0 := D3.out.bk.frozen 0
  have fk1 := D3.out.bk.frozen 1
  have fk2 := D3.out.bk.frozen 2
  have fk3 := D3.out.bk.frozen 3
  have nab := D3.out.ne
  have nba := Ne.symm D3.out.ne
  go_upto_region 5 with fail
  clear k0 k1 k2 k3 fk0 fk1 fk2 fk3
  clear z0 z1 z2 z3 z4 z5 y0 y1 y2 y3 y4 y5 nab nba
  have D4' := D3.out.mset (u0 := .int .u16 m.id) (u1 := .int .u16 m.flags) (u2 := .slice A2 l2 c2) (u3 := .slice A3 l3 c3) (u4 := .slice A4 l4 c4) (u5 := .slice A5 l5 c5)
  generalize hW : (((((w3.setCell ⟨a, 0, none⟩ (.int .u16 m.id)).setCell ⟨a, 1, none⟩ (.int .u16 m.flags)).setCell ⟨a, 2, none⟩ (.slice A2 l2 c2)).setCell ⟨a, 3, none⟩ (.slice A3 l3 c3)).setCell ⟨a, 4, none⟩ (.slice A4 l4 c4)).setCell ⟨a, 5, none⟩ (.slice A5 l5 c5) = w4 at *
  have D4 : Aside0 (RS w w4 a b #[.int .u16 m.id, .int .u16 m.flags, .slice A2 l2 c2, .slice A3 l3 c3, .slice A4 l4 c4, .slice A5 l5 c5] zKc w2.heap.size m (.agg #[.int .u16 m.id, .int .u16 m.flags, .slice A2 l2 c2, .slice A3 l3 c3, .slice A4 l4 c4, .slice A5 l5 c5])) := ⟨D4'⟩
  clear hW D3 D4'
  by_cases c1 : er = 3
  · rw [if_pos c1] at hR
    subst hR
    have e1 : (er == 3) = true := beq_iff_eq.mpr c1
    clear c1 h3 h0
    have z0 := D4.out.am.is 0 rfl
    have z1 := D4.out.am.is 1 rfl
    have z2 := D4.out.am.is 2 rfl
    have z3 := D4.out.am.is 3 rfl
    have z4 := D4.out.am.is 4 rfl
    have z5 := D4.out.am.is 5 rfl
    have y0 := D4.out.am.frozen 0
    have y1 := D4.out.am.frozen 1
    have y2 := D4.out.am.frozen 2
    have y3 := D4.out.am.frozen 3
    have y4 := D4.out.am.frozen 4
    have y5 := D4.out.am.frozen 5
    have k0 := D4.out.bk.is 0 rfl
    have k1 := D4.out.bk.is 1 rfl
    have k2 := D4.out.bk.is 2 rfl
    have k3 := D4.out.bk.is 3 rfl
    have fk0 := D4.out.bk.frozen 0
    have fk1 := D4.out.bk.frozen 1
    have fk2 := D4.out.bk.frozen 2
    have fk3 := D4.out.bk.frozen 3
    have nab := D4.out.ne
    have nba := Ne.symm D4.out.ne
    go_wp2_with fail
    clear k0 k1 k2 k3 fk0 fk1 fk2 fk3
    clear z0 z1 z2 z3 z4 z5 y0 y1 y2 y3 y4 y5 nab nba
    have L := D4.out.zero
    have z0 : World.cell? _ ⟨a, 0, none⟩ = some (.int .u16 0) := L.am.is 0 rfl
    have z1 : World.cell? _ ⟨a, 1, none⟩ = some (.int .u16 0) := L.am.is 1 rfl
    have z2 : World.cell? _ ⟨a, 2, none⟩ = some (.slice none 0 0) := L.am.is 2 rfl
    have z3 : World.cell? _ ⟨a, 3, none⟩ = some (.slice none 0 0) := L.am.is 3 rfl
    have z4 : World.cell? _ ⟨a, 4, none⟩ = some (.slice none 0 0) := L.am.is 4 rfl
    have z5 : World.cell? _ ⟨a, 5, none⟩ = some (.slice none 0 0) := L.am.is 5 rfl
    have k0 : World.cell? _ ⟨b, 0, none⟩ = some (.string ⟨#[]⟩) := L.bk.is 0 rfl
    have k1 : World.cell? _ ⟨b, 1, none⟩ = some (.int .u16 0) := L.bk.is 1 rfl
    have k2 : World.cell? _ ⟨b, 2, none⟩ = some (.int .u16 0) := L.bk.is 2 rfl
    have k3 : World.cell? _ ⟨b, 3, none⟩ = some (.bool false) := L.bk.is 3 rfl
    exact bodyPost_ret (v := .tuple #[.agg zMsg, zKey.v, .int .i64 413]) (by simp [results, Try.results15, go_sem, z0, z1, z2, z3, z4, z5, k0, k1, k2, k3, zMsg, zKey, Key.v]) rfl ⟨⟨_, rfl, zM_at _⟩, L.bl⟩
  rw [if_neg c1] at hR
  have e1 : (er == 3) = false := beq_eq_false_iff_ne.mpr c1
  clear c1 h3
  have hask := fun W hv => ask_calls m (.agg #[.int .u16 m.id, .int .u16 m.flags, .slice A2 l2 c2, .slice A3 l3 c3, .slice A4 l4 c4, .slice A5 l5 c5]) W hv hsm
  have HASK := Aside0.mk hask
  clear hask
  have z0 := D4.out.am.is 0 rfl
  have z1 := D4.out.am.is 1 rfl
  have z2 := D4.out.am.is 2 rfl
  have z3 := D4.out.am.is 3 rfl
  have z4 := D4.out.am.is 4 rfl
  have z5 := D4.out.am.is 5 rfl
  have y0 := D4.out.am.frozen 0
  have y1 := D4.out.am.frozen 1
  have y2 := D4.out.am.frozen 2
  have y3 := D4.out.am.frozen 3
  have y4 := D4.out.am.frozen 4
  have y5 := D4.out.am.frozen 5
  have k0 := D4.out.bk.is 0 rfl
  have k1 := D4.out.bk.is 1 rfl
  have k2 := D4.out.bk.is 2 rfl
  have k3 := D4.out.bk.is 3 rfl
  have fk0 := D4.out.bk.frozen 0
  have fk1 := D4.out.bk.frozen 1
  have fk2 := D4.out.bk.frozen 2
  have fk3 := D4.out.bk.frozen 3
  have nab := D4.out.ne
  have nba := Ne.symm D4.out.ne
  go_wp2_with fail
  clear k0 k1 k2 k3 fk0 fk1 fk2 fk3
  clear z0 z1 z2 z3 z4 z5 y0 y1 y2 y3 y4 y5 nab nba
  refine (HASK.out _ (msgAt_of D4.out.p)).mono ?_
  rintro e w5 ⟨rfl, hb⟩
  have D5 := Aside0.mk (D4.out.call hb)
  clear hb D4 HASK e1
  by_cases c2 : er ≠ 0
  · rw [if_pos c2] at hR
    have hm := h0 c2
    have e2 : (er != 0) = true := bne_iff_ne.mpr c2
    have ha : askF m = none := by rw [hm]; decide
    rw [ha]
    unfold askE zKey Key.v
    simp only []
    subst hR
    clear c2 h0 hm ha
    have z0 := D5.out.am.is 0 rfl
    have z1 := D5.out.am.is 1 rfl
    have z2 := D5.out.am.is 2 rfl
    have z3 := D5.out.am.is 3 rfl
    have z4 := D5.out.am.is 4 rfl
    have z5 := D5.out.am.is 5 rfl
    have y0 := D5.out.am.frozen 0
    have y1 := D5.out.am.frozen 1
    have y2 := D5.out.am.frozen 2
    have y3 := D5.out.am.frozen 3
    have y4 := D5.out.am.frozen 4
    have y5 := D5.out.am.frozen 5
    have k0 := D5.out.bk.is 0 rfl
    have k1 := D5.out.bk.is 1 rfl
    have k2 := D5.out.bk.is 2 rfl
    have k3 := D5.out.bk.is 3 rfl
    have fk0 := D5.out.bk.frozen 0
    have fk1 := D5.out.bk.frozen 1
    have fk2 := D5.out.bk.frozen 2
    have fk3 := D5.out.bk.frozen 3
    have nab := D5.out.ne
    have nba := Ne.symm D5.out.ne
    go_upto_region 8 with fail
    clear k0 k1 k2 k3 fk0 fk1 fk2 fk3
    clear z0 z1 z2 z3 z4 z5 y0 y1 y2 y3 y4 y5 nab nba
    have D6' := D5.out.kset (u0 := (.string ⟨#[]⟩)) (u1 := (.int .u16 0)) (u2 := (.int .u16 0)) (u3 := (.bool false))
    generalize hW : (((w5.setCell ⟨b, 0, none⟩ (.string ⟨#[]⟩)).setCell ⟨b, 1, none⟩ (.int .u16 0)).setCell ⟨b, 2, none⟩ (.int .u16 0)).setCell ⟨b, 3, none⟩ (.bool false) = w6 at *
    have D6 : Aside0 (RS w w6 a b #[.int .u16 m.id, .int .u16 m.flags, .slice A2 l2 c2, .slice A3 l3 c3, .slice A4 l4 c4, .slice A5 l5 c5] zKc _ m _) := ⟨D6'⟩
    clear hW D5 D6'
    have z0 := D6.out.am.is 0 rfl
    have z1 := D6.out.am.is 1 rfl
    have z2 := D6.out.am.is 2 rfl
    have z3 := D6.out.am.is 3 rfl
    have z4 := D6.out.am.is 4 rfl
    have z5 := D6.out.am.is 5 rfl
    have y0 := D6.out.am.frozen 0
    have y1 := D6.out.am.frozen 1
    have y2 := D6.out.am.frozen 2
    have y3 := D6.out.am.frozen 3
    have y4 := D6.out.am.frozen 4
    have y5 := D6.out.am.frozen 5
    have k0 := D6.out.bk.is 0 rfl
    have k1 := D6.out.bk.is 1 rfl
    have k2 := D6.out.bk.is 2 rfl
    have k3 := D6.out.bk.is 3 rfl
    have fk0 := D6.out.bk.frozen 0
    have fk1 := D6.out.bk.frozen 1
    have fk2 := D6.out.bk.frozen 2
    have fk3 := D6.out.bk.frozen 3
    have nab := D6.out.ne
    have nba := Ne.symm D6.out.ne
    go_wp2_with fail
    clear k0 k1 k2 k3 fk0 fk1 fk2 fk3
    clear z0 z1 z2 z3 z4 z5 y0 y1 y2 y3 y4 y5 nab nba
    have L := D6.out.zero
    have z0 : World.cell? _ ⟨a, 0, none⟩ = some (.int .u16 0) := L.am.is 0 rfl
    have z1 : World.cell? _ ⟨a, 1, none⟩ = some (.int .u16 0) := L.am.is 1 rfl
    have z2 : World.cell? _ ⟨a, 2, none⟩ = some (.slice none 0 0) := L.am.is 2 rfl
    have z3 : World.cell? _ ⟨a, 3, none⟩ = some (.slice none 0 0) := L.am.is 3 rfl
    have z4 : World.cell? _ ⟨a, 4, none⟩ = some (.slice none 0 0) := L.am.is 4 rfl
    have z5 : World.cell? _ ⟨a, 5, none⟩ = some (.slice none 0 0) := L.am.is 5 rfl
    have k0 : World.cell? _ ⟨b, 0, none⟩ = some (.string ⟨#[]⟩) := L.bk.is 0 rfl
    have k1 : World.cell? _ ⟨b, 1, none⟩ = some (.int .u16 0) := L.bk.is 1 rfl
    have k2 : World.cell? _ ⟨b, 2, none⟩ = some (.int .u16 0) := L.bk.is 2 rfl
    have k3 : World.cell? _ ⟨b, 3, none⟩ = some (.bool false) := L.bk.is 3 rfl
    exact bodyPost_ret (v := .tuple #[.agg zMsg, zKey.v, .int .i64 400]) (by simp [results, Try.results15, go_sem, z0, z1, z2, z3, z4, z5, k0, k1, k2, k3, zMsg, zKey, Key.v]) rfl ⟨⟨_, rfl, zM_at _⟩, L.bl⟩
  rw [if_neg c2] at hR
  obtain rfl := Decidable.not_not.mp c2
  clear c2 h0
  cases ha : askF m with
  | none =>
    rw [ha] at hR
    simp only [] at hR
    unfold askE zKey Key.v
    simp only []
    subst hR
    clear ha
    have z0 := D5.out.am.is 0 rfl
    have z1 := D5.out.am.is 1 rfl
    have z2 := D5.out.am.is 2 rfl
    have z3 := D5.out.am.is 3 rfl
    have z4 := D5.out.am.is 4 rfl
    have z5 := D5.out.am.is 5 rfl
    have y0 := D5.out.am.frozen 0
    have y1 := D5.out.am.frozen 1
    have y2 := D5.out.am.frozen 2
    have y3 := D5.out.am.frozen 3
    have y4 := D5.out.am.frozen 4
    have y5 := D5.out.am.frozen 5
    have k0 := D5.out.bk.is 0 rfl
    have k1 := D5.out.bk.is 1 rfl
    have k2 := D5.out.bk.is 2 rfl
    have k3 := D5.out.bk.is 3 rfl
    have fk0 := D5.out.bk.frozen 0
    have fk1 := D5.out.bk.frozen 1
    have fk2 := D5.out.bk.frozen 2
    have fk3 := D5.out.bk.frozen 3
    have nab := D5.out.ne
    have nba := Ne.symm D5.out.ne
    go_upto_region 8 with fail
    clear k0 k1 k2 k3 fk0 fk1 fk2 fk3
    clear z0 z1 z2 z3 z4 z5 y0 y1 y2 y3 y4 y5 nab nba
    have D6' := D5.out.kset (u0 := (.string ⟨#[]⟩)) (u1 := (.int .u16 0)) (u2 := (.int .u16 0)) (u3 := (.bool false))
    generalize hW : (((w5.setCell ⟨b, 0, none⟩ (.string ⟨#[]⟩)).setCell ⟨b, 1, none⟩ (.int .u16 0)).setCell ⟨b, 2, none⟩ (.int .u16 0)).setCell ⟨b, 3, none⟩ (.bool false) = w6 at *
    have D6 : Aside0 (RS w w6 a b #[.int .u16 m.id, .int .u16 m.flags, .slice A2 l2 c2, .slice A3 l3 c3, .slice A4 l4 c4, .slice A5 l5 c5] zKc _ m _) := ⟨D6'⟩
    clear hW D5 D6'
    have z0 := D6.out.am.is 0 rfl
    have z1 := D6.out.am.is 1 rfl
    have z2 := D6.out.am.is 2 rfl
    have z3 := D6.out.am.is 3 rfl
    have z4 := D6.out.am.is 4 rfl
    have z5 := D6.out.am.is 5 rfl
    have y0 := D6.out.am.frozen 0
    have y1 := D6.out.am.frozen 1
    have y2 := D6.out.am.frozen 2
    have y3 := D6.out.am.frozen 3
    have y4 := D6.out.am.frozen 4
    have y5 := D6.out.am.frozen 5
    have k0 := D6.out.bk.is 0 rfl
    have k1 := D6.out.bk.is 1 rfl
    have k2 := D6.out.bk.is 2 rfl
    have k3 := D6.out.bk.is 3 rfl
    have fk0 := D6.out.bk.frozen 0
    have fk1 := D6.out.bk.frozen 1
    have fk2 := D6.out.bk.frozen 2
    have fk3 := D6.out.bk.frozen 3
    have nab := D6.out.ne
    have nba := Ne.symm D6.out.ne
    go_wp2_with fail
    clear k0 k1 k2 k3 fk0 fk1 fk2 fk3
    clear z0 z1 z2 z3 z4 z5 y0 y1 y2 y3 y4 y5 nab nba
    have L := D6.out.zero
    have z0 : World.cell? _ ⟨a, 0, none⟩ = some (.int .u16 0) := L.am.is 0 rfl
    have z1 : World.cell? _ ⟨a, 1, none⟩ = some (.int .u16 0) := L.am.is 1 rfl
    have z2 : World.cell? _ ⟨a, 2, none⟩ = some (.slice none 0 0) := L.am.is 2 rfl
    have z3 : World.cell? _ ⟨a, 3, none⟩ = some (.slice none 0 0) := L.am.is 3 rfl
    have z4 : World.cell? _ ⟨a, 4, none⟩ = some (.slice none 0 0) := L.am.is 4 rfl
    have z5 : World.cell? _ ⟨a, 5, none⟩ = some (.slice none 0 0) := L.am.is 5 rfl
    have k0 : World.cell? _ ⟨b, 0, none⟩ = some (.string ⟨#[]⟩) := L.bk.is 0 rfl
    have k1 : World.cell? _ ⟨b, 1, none⟩ = some (.int .u16 0) := L.bk.is 1 rfl
    have k2 : World.cell? _ ⟨b, 2, none⟩ = some (.int .u16 0) := L.bk.is 2 rfl
    have k3 : World.cell? _ ⟨b, 3, none⟩ = some (.bool false) := L.bk.is 3 rfl
    exact bodyPost_ret (v := .tuple #[.agg zMsg, zKey.v, .int .i64 400]) (by simp [results, Try.results15, go_sem, z0, z1, z2, z3, z4, z5, k0, k1, k2, k3, zMsg, zKey, Key.v]) rfl ⟨⟨_, rfl, zM_at _⟩, L.bl⟩
  | some k =>
    rw [ha] at hR
    simp only [] at hR
    obtain ⟨kn, kt, kc, kd⟩ := k
    unfold askE Key.v
    simp only []
    subst hR
    clear ha
    have z0 := D5.out.am.is 0 rfl
    have z1 := D5.out.am.is 1 rfl
    have z2 := D5.out.am.is 2 rfl
    have z3 := D5.out.am.is 3 rfl
    have z4 := D5.out.am.is 4 rfl
    have z5 := D5.out.am.is 5 rfl
    have y0 := D5.out.am.frozen 0
    have y1 := D5.out.am.frozen 1
    have y2 := D5.out.am.frozen 2
    have y3 := D5.out.am.frozen 3
    have y4 := D5.out.am.frozen 4
    have y5 := D5.out.am.frozen 5
    have k0 := D5.out.bk.is 0 rfl
    have k1 := D5.out.bk.is 1 rfl
    have k2 := D5.out.bk.is 2 rfl
    have k3 := D5.out.bk.is 3 rfl
    have fk0 := D5.out.bk.frozen 0
    have fk1 := D5.out.bk.frozen 1
    have fk2 := D5.out.bk.frozen 2
    have fk3 := D5.out.bk.frozen 3
    have nab := D5.out.ne
    have nba := Ne.symm D5.out.ne
    go_upto_region 8 with fail
    clear k0 k1 k2 k3 fk0 fk1 fk2 fk3
    clear z0 z1 z2 z3 z4 z5 y0 y1 y2 y3 y4 y5 nab nba
    have D6' := D5.out.kset (u0 := (.string kn)) (u1 := (.int .u16 kt)) (u2 := (.int .u16 kc)) (u3 := (.bool kd))
    generalize hW : (((w5.setCell ⟨b, 0, none⟩ (.string kn)).setCell ⟨b, 1, none⟩ (.int .u16 kt)).setCell ⟨b, 2, none⟩ (.int .u16 kc)).setCell ⟨b, 3, none⟩ (.bool kd) = w6 at *
    have D6 : Aside0 (RS w w6 a b #[.int .u16 m.id, .int .u16 m.flags, .slice A2 l2 c2, .slice A3 l3 c3, .slice A4 l4 c4, .slice A5 l5 c5] #[.string kn, .int .u16 kt, .int .u16 kc, .bool kd] _ m _) := ⟨D6'⟩
    clear hW D5 D6'
    go_upto_region 10 with fail
    refine dr_start (fun w' => ((w'.cell? ⟨a, 0, none⟩ = some (.int .u16 m.id) ∧ w'.cell? ⟨a, 1, none⟩ = some (.int .u16 m.flags) ∧ w'.cell? ⟨a, 2, none⟩ = some (.slice A2 l2 c2) ∧ w'.cell? ⟨a, 3, none⟩ = some (.slice A3 l3 c3) ∧ w'.cell? ⟨a, 4, none⟩ = some (.slice A4 l4 c4) ∧ w'.cell? ⟨a, 5, none⟩ = some (.slice A5 l5 c5)) ∧
      (w'.cell? ⟨b, 0, none⟩ = some (.string kn) ∧ w'.cell? ⟨b, 1, none⟩ = some (.int .u16 kt) ∧ w'.cell? ⟨b, 2, none⟩ = some (.int .u16 kc) ∧ w'.cell? ⟨b, 3, none⟩ = some (.bool kd))) ∧ Aside0 (RS w w' a b #[.int .u16 m.id, .int .u16 m.flags, .slice A2 l2 c2, .slice A3 l3 c3, .slice A4 l4 c4, .slice A5 l5 c5] #[.string kn, .int .u16 kt, .int .u16 kc, .bool kd] w2.heap.size m (.agg #[.int .u16 m.id, .int .u16 m.flags, .slice A2 l2 c2, .slice A3 l3 c3, .slice A4 l4 c4, .slice A5 l5 c5]))) [] (by kernel_rfl) (rs_cells D6.out.drew) (fun hS => ?_)
    repeat (first | (refine dr_pure (by kernel_rfl) (by rfl) (fun _ _ _ h => h) (v := ?_) (a' := ?_) ?_ ?_ ?_; rotate_left 2; (focus (intro w'; go_simp; with_reducible rfl)); (focus (simp only [Act.put, List.setIfInBounds_toArray, List.set_cons_zero, List.set_cons_succ]; rfl))) | (refine dr_take (by kernel_rfl) (by rfl) (fun _ _ _ h => h) hS (v := ?_) (a' := ?_) ?_ ?_ ?_; rotate_left 2; (focus (intro w' hS'; go_simp; with_reducible rfl)); (focus (simp only [Act.put, List.setIfInBounds_toArray, List.set_cons_zero, List.set_cons_succ]; rfl))) | (refine dr_off (by kernel_rfl) (by rfl) (fun _ _ _ h => h) (a' := ?_) ?_ ?_; rotate_left; (focus (simp only [Act.put, List.setIfInBounds_toArray, List.set_cons_zero, List.set_cons_succ]; rfl))))
    clear D6
    generalize w6.drew = w6d at *
    have D7 := hS.2
    have z0 := D7.out.am.is 0 rfl
    have z1 := D7.out.am.is 1 rfl
    have z2 := D7.out.am.is 2 rfl
    have z3 := D7.out.am.is 3 rfl
    have z4 := D7.out.am.is 4 rfl
    have z5 := D7.out.am.is 5 rfl
    have y0 := D7.out.am.frozen 0
    have y1 := D7.out.am.frozen 1
    have y2 := D7.out.am.frozen 2
    have y3 := D7.out.am.frozen 3
    have y4 := D7.out.am.frozen 4
    have y5 := D7.out.am.frozen 5
    have k0 := D7.out.bk.is 0 rfl
    have k1 := D7.out.bk.is 1 rfl
    have k2 := D7.out.bk.is 2 rfl
    have k3 := D7.out.bk.is 3 rfl
    have fk0 := D7.out.bk.frozen 0
    have fk1 := D7.out.bk.frozen 1
    have fk2 := D7.out.bk.frozen 2
    have fk3 := D7.out.bk.frozen 3
    have nab := D7.out.ne
    have nba := Ne.symm D7.out.ne
    refine dr_skip ((((((w6d.setCell ⟨a, 0, none⟩ (.int .u16 m.id)).setCell ⟨a, 1, none⟩ (.int .u16 m.flags)).setCell ⟨a, 2, none⟩ (.slice A2 l2 c2)).setCell ⟨a, 3, none⟩ (.slice A3 l3 c3)).setCell ⟨a, 4, none⟩ (.slice A4 l4 c4)).setCell ⟨a, 5, none⟩ (.slice A5 l5 c5)) (by kernel_rfl) (by rfl) (by rfl) rfl ⟨by go_simp⟩ (rs_cells D7.out.mset) (fun hS => ?_)
    clear k0 k1 k2 k3 fk0 fk1 fk2 fk3
    clear z0 z1 z2 z3 z4 z5 y0 y1 y2 y3 y4 y5 nab nba
    clear D7
    generalize (((((w6d.setCell ⟨a, 0, none⟩ (.int .u16 m.id)).setCell ⟨a, 1, none⟩ (.int .u16 m.flags)).setCell ⟨a, 2, none⟩ (.slice A2 l2 c2)).setCell ⟨a, 3, none⟩ (.slice A3 l3 c3)).setCell ⟨a, 4, none⟩ (.slice A4 l4 c4)).setCell ⟨a, 5, none⟩ (.slice A5 l5 c5) = w7 at *
    have D7 := hS.2
    have z0 := D7.out.am.is 0 rfl
    have z1 := D7.out.am.is 1 rfl
    have z2 := D7.out.am.is 2 rfl
    have z3 := D7.out.am.is 3 rfl
    have z4 := D7.out.am.is 4 rfl
    have z5 := D7.out.am.is 5 rfl
    have y0 := D7.out.am.frozen 0
    have y1 := D7.out.am.frozen 1
    have y2 := D7.out.am.frozen 2
    have y3 := D7.out.am.frozen 3
    have y4 := D7.out.am.frozen 4
    have y5 := D7.out.am.frozen 5
    have k0 := D7.out.bk.is 0 rfl
    have k1 := D7.out.bk.is 1 rfl
    have k2 := D7.out.bk.is 2 rfl
    have k3 := D7.out.bk.is 3 rfl
    have fk0 := D7.out.bk.frozen 0
    have fk1 := D7.out.bk.frozen 1
    have fk2 := D7.out.bk.frozen 2
    have fk3 := D7.out.bk.frozen 3
    have nab := D7.out.ne
    have nba := Ne.symm D7.out.ne
    refine dr_skip ((((w7.setCell ⟨b, 0, none⟩ (.string kn)).setCell ⟨b, 1, none⟩ (.int .u16 kt)).setCell ⟨b, 2, none⟩ (.int .u16 kc)).setCell ⟨b, 3, none⟩ (.bool kd)) (by kernel_rfl) (by rfl) (by rfl) rfl ⟨by go_simp⟩ (rs_cells D7.out.kset) (fun hS => ?_)
    clear k0 k1 k2 k3 fk0 fk1 fk2 fk3
    clear z0 z1 z2 z3 z4 z5 y0 y1 y2 y3 y4 y5 nab nba
    clear D7
    generalize (((w7.setCell ⟨b, 0, none⟩ (.string kn)).setCell ⟨b, 1, none⟩ (.int .u16 kt)).setCell ⟨b, 2, none⟩ (.int .u16 kc)).setCell ⟨b, 3, none⟩ (.bool kd) = w8 at *
    repeat (first | (refine dr_pure (by kernel_rfl) (by rfl) (fun _ _ _ h => h) (v := ?_) (a' := ?_) ?_ ?_ ?_; rotate_left 2; (focus (intro w'; go_simp; with_reducible rfl)); (focus (simp only [Act.put, List.setIfInBounds_toArray, List.set_cons_zero, List.set_cons_succ]; rfl))) | (refine dr_take (by kernel_rfl) (by rfl) (fun _ _ _ h => h) hS (v := ?_) (a' := ?_) ?_ ?_ ?_; rotate_left 2; (focus (intro w' hS'; go_simp; with_reducible rfl)); (focus (simp only [Act.put, List.setIfInBounds_toArray, List.set_cons_zero, List.set_cons_succ]; rfl))) | (refine dr_off (by kernel_rfl) (by rfl) (fun _ _ _ h => h) (a' := ?_) ?_ ?_; rotate_left; (focus (simp only [Act.put, List.setIfInBounds_toArray, List.set_cons_zero, List.set_cons_succ]; rfl))))
    refine dr_done (by kernel_rfl) ?_
    obtain ⟨⟨⟨z0, z1, z2, z3, z4, z5⟩, k0, k1, k2, k3⟩, D8⟩ := hS
    go_wp2_with fail
    exact bodyPost_ret (v := .tuple #[.agg #[.int .u16 m.id, .int .u16 m.flags, .slice A2 l2 c2, .slice A3 l3 c3, .slice A4 l4 c4, .slice A5 l5 c5], Key.v ⟨kn, kt, kc, kd⟩, .int .i64 200]) (by simp [results, Try.results15, go_sem, z0, z1, z2, z3, z4, z5, k0, k1, k2, k3, Key.v]) rfl ⟨⟨_, rfl, msgAt_of D8.out.p⟩, D8.out.bl⟩
end Go.Proofs.Ytfoflodgegehfaa.M
set_option linter.unusedVariables false
set_option linter.unusedSimpArgs false
namespace Go.Proofs.Ytfoflodgegehfaa.M
open Go.RowKit Go.Maps Go.Proofs.YtfoflodgegehfaaW.PrintWords Go.Proofs.YtfoflodgegehfaaW.PrintLast Go.Proofs.YtfoflodgegehfaaW.PrintMore
attribute [local go_sem] max2_int min2_int max_two min_two max_three min_three max_four min_four
attribute [local go_sem ↓] Go.wp_at_zero Go.wp_at_succ
def wakeT : ByteArray := ⟨#[47, 100, 110, 115, 45, 113, 117, 101, 114, 121, 63, 100, 110, 115, 61, 65, 65, 65, 66, 65, 65, 65, 66, 65, 65, 65, 65, 65, 65, 65, 65, 65, 51, 100, 51, 100, 119, 100, 108, 101, 71, 70, 116, 99, 71, 120, 108, 65, 50, 78, 118, 98, 81, 65, 65, 65, 81, 65, 66]⟩
def putT : ByteArray := ⟨#[80, 85, 84]⟩
def getR (p : ByteArray) : Req := ⟨getT, p, ⟨#[]⟩, ⟨#[]⟩, false, 0⟩
theorem wake1 : (routeF (getR wakeT) ⟨#[]⟩).2.2 = 200 ∧ (routeF (getR wakeT) ⟨#[]⟩).2.1.ty = 1 ∧ (routeF (getR wakeT) ⟨#[]⟩).1.qs.length = 1 := by decide +kernel
theorem wake2 : (routeF ⟨putT, epT, ⟨#[]⟩, ⟨#[]⟩, false, 0⟩ ⟨#[]⟩).2.2 = 405 := by decide +kernel
theorem wake3 : paramF ⟨#[97, 61, 98, 38, 100, 110, 115, 61, 99, 61, 100]⟩ dnsT = (⟨#[99, 61, 100]⟩, true) := by decide +kernel
theorem wake4 : targetF ⟨#[0]⟩ = ⟨#[47, 100, 110, 115, 45, 113, 117, 101, 114, 121, 63, 100, 110, 115, 61, 65, 65]⟩ := by decide +kernel
set_option maxHeartbeats 8000000 in
set_option maxRecDepth 100000 in
theorem awake21_calls (w : World) : Calls Try.prog 8 #[] w fun e w' => e = .returned (.bool true) ∧ Below w.heap.size w w' := by
  have h1 := fun W => route_calls (getR wakeT) ⟨#[]⟩ W (by decide) (by decide)
  have h2 := fun W => route_calls ⟨putT, epT, ⟨#[]⟩, ⟨#[]⟩, false, 0⟩ ⟨#[]⟩ W (by decide) (by decide)
  have h3 := fun W => param_calls ⟨#[97, 61, 98, 38, 100, 110, 115, 61, 99, 61, 100]⟩ dnsT W (by decide)
  have h4 := fun W => target_calls ⟨#[0]⟩ W (by decide)
  rw [wake3] at h3
  rw [wake4] at h4
  have k1 := wake1
  have k2 := wake2
  generalize routeF (getR wakeT) ⟨#[]⟩ = x1 at *
  generalize routeF ⟨putT, epT, ⟨#[]⟩, ⟨#[]⟩, false, 0⟩ ⟨#[]⟩ = x2 at *
  obtain ⟨m1, y1, s1⟩ := x1
  obtain ⟨m2, y2, s2⟩ := x2
  simp only [] at k1 k2
  obtain ⟨rfl, k1, k3⟩ := k1
  subst k2
  have K1 := Lib.hid k1
  have K3 := Lib.hid k3
  clear k1 k3
  have H1 := Aside0.mk h1
  have H2 := Aside0.mk h2
  have H3 := Aside0.mk h3
  have H4 := Aside0.mk h4
  clear h1 h2 h3 h4
  go_enter Try.func8, Try.ntmps8
  go_wp2_with fail
  refine (H1.out _).mono ?_
  rintro e w1 ⟨⟨v, rfl, hm⟩, hb⟩
  have HB1 := Aside0.mk hb
  obtain ⟨A2, c2, A3, c3, A4, c4, A5, c5, rfl, h2, g2, h3, g3, h4, g4, h5, g5⟩ := hm
  clear hb h2 g2 h3 g3 h4 g4 h5 g5 H1
  unfold Key.v
  simp only []
  go_upto_region 2 with fail
  obtain ⟨HX, HK, hb⟩ := two_at w1 #[.int .u16 m1.id, .int .u16 m1.flags, .slice A2 m1.qs.length c2, .slice A3 m1.ans.length c3, .slice A4 m1.auth.length c4, .slice A5 m1.add.length c5] #[.string y1.name, .int .u16 y1.ty, .int .u16 y1.cl, .bool y1.dO] 35 37
  have HX2 := Aside0.mk HX
  have HK2 := Aside0.mk HK
  have HB2 := Aside0.mk (below_step HB1.out hb)
  clear HX HK hb HB1
  generalize (w1.alloc (.cells #[.int .u16 m1.id, .int .u16 m1.flags, .slice A2 m1.qs.length c2, .slice A3 m1.ans.length c3, .slice A4 m1.auth.length c4, .slice A5 m1.add.length c5] 35 (0, 0))).alloc (.cells #[.string y1.name, .int .u16 y1.ty, .int .u16 y1.cl, .bool y1.dO] 37 (0, 0)) = w2 at *
  generalize w1.heap.size + 1 = b1 at *
  generalize w1.heap.size = a1 at *
  go_wp2_with fail
  refine (H2.out _).mono ?_
  rintro e w3 ⟨⟨v, rfl, hm⟩, hb⟩
  have HX3 := Aside0.mk (HX2.out.below hb)
  have HK3 := Aside0.mk (HK2.out.below hb)
  have HB3 := Aside0.mk (below_step HB2.out hb)
  obtain ⟨B2, d2, B3, d3, B4, d4, B5, d5, rfl, h2, g2, h3, g3, h4, g4, h5, g5⟩ := hm
  clear hb h2 g2 h3 g3 h4 g4 h5 g5 H2 HX2 HK2 HB2
  unfold Key.v
  simp only []
  go_upto_region 3 with fail
  obtain ⟨HX, HK, hb⟩ := two_at w3 #[.int .u16 m2.id, .int .u16 m2.flags, .slice B2 m2.qs.length d2, .slice B3 m2.ans.length d3, .slice B4 m2.auth.length d4, .slice B5 m2.add.length d5] #[.string y2.name, .int .u16 y2.ty, .int .u16 y2.cl, .bool y2.dO] 35 37
  have HX4 := Aside0.mk (HX3.out.below hb)
  have HK4 := Aside0.mk (HK3.out.below hb)
  have HB4 := Aside0.mk (below_step HB3.out hb)
  clear HX HK hb HX3 HK3 HB3
  generalize (w3.alloc (.cells #[.int .u16 m2.id, .int .u16 m2.flags, .slice B2 m2.qs.length d2, .slice B3 m2.ans.length d3, .slice B4 m2.auth.length d4, .slice B5 m2.add.length d5] 35 (0, 0))).alloc (.cells #[.string y2.name, .int .u16 y2.ty, .int .u16 y2.cl, .bool y2.dO] 37 (0, 0)) = w4 at *
  go_wp2_with fail
  refine (H3.out _).mono ?_
  rintro e w5 ⟨rfl, hb⟩
  have HX5 := HX4.out.below hb
  have HK5 := HK4.out.below hb
  have HB5 := Aside0.mk (below_step HB4.out hb)
  clear hb HX4 HK4 HB4 H3
  have z2 : w5.cell? ⟨a1, 2, none⟩ = some (.slice A2 m1.qs.length c2) := HX5.is 2 rfl
  have z1 : w5.cell? ⟨b1, 1, none⟩ = some (.int .u16 y1.ty) := HK5.is 1 rfl
  rw [K3.out] at z2
  rw [K1.out] at z1
  clear HX5 HK5
  obtain ⟨d1, d2, d3⟩ := const_yes (s := ⟨#[99, 61, 100]⟩) rfl (L := [99, 61, 100]) rfl
  go_wp2_with fail
  refine (H4.out _).mono ?_
  rintro e w6 ⟨rfl, hb⟩
  have HB6 := Aside0.mk (below_step HB5.out hb)
  clear hb
  go_wp2_with fail
  go_ret
  exact ⟨rfl, HB6.out⟩
end Go.Proofs.Ytfoflodgegehfaa.M
set_option linter.unusedVariables false
set_option linter.unusedSimpArgs false
namespace Go.Proofs.Ytfoflodgegehfaa.M
open Go.ChangeShapes Go.WideShapes Go.Deep Go.RowKit Go.Proofs.YtfoflodgegehfaaW.PrintWords
def Opens {α : Type} (K : Kd α) (t : TypeId) (Ok : α → Prop) : Prop := ∀ {H : Type} {enc : TypeId × Value → H} {W : World} {base : Nat} {spare : Nat → Bool} {held : Bool} {fuel : Nat} {cs : List Value} {x : DataW H × List MemPlace},
  DataW.trod enc Try.prog W base spare held fuel t cs = some x → (∀ n ∈ x.1.weights Try.prog t, n ≤ reachBytes) → ∃ a : α, K.K W a cs ∧ Ok a
theorem opens_string : Opens Kd.string 9 (fun s => s.size ≤ 140737488351232) := by
  intro H enc W base spare held fuel cs x h hw
  obtain ⟨s, rfl, rfl, _⟩ := DataW.trod_string Try.underlying9 h
  refine ⟨s, rfl, ?_⟩
  have := hw s.data.toList.length (by simp [DataW.weights])
  simpa [reachBytes] using this
theorem opens_int {κ : IntKind} {t : TypeId} (ht : Try.prog.underlying t = some (.int κ)) : Opens (Kd.int κ) t (fun n => (Lit.int κ n).wf = true) := by
  intro H enc W base spare held fuel cs x h hw
  obtain ⟨n, rfl, rfl, hn⟩ := DataW.trod_int ht h
  exact ⟨n, rfl, hn⟩
theorem struct_fields {H : Type} {enc : TypeId × Value → H} {W : World} {base : Nat} {spare : Nat → Bool} {held : Bool} {fuel : Nat} {cs : List Value} {x : DataW H × List MemPlace} {t : TypeId} {fs : Array Field} (he : Try.prog.underlying t = some (.struct fs)) (hone : oneCellFields Try.prog fs = true) (hC : Try.prog.cellsOf t = fs.size)
    (h : DataW.trod enc Try.prog W base spare held fuel t cs = some x) (hw : ∀ n ∈ x.1.weights Try.prog t, n ≤ reachBytes) :
    cs.length = fs.size ∧ ∃ n, ∀ (j : Nat) (f : Field), fs[j]? = some f → ∃ (v : Value) (y : DataW H × List MemPlace), cs[j]? = some v ∧ DataW.trod enc Try.prog W base spare held n f.type [v] = some y ∧ ∀ n ∈ y.1.weights Try.prog f.type, n ≤ reachBytes := by
  obtain ⟨ys, n', _, rfl, hlen, hyl, hf⟩ := DataW.trod_struct he h
  rw [hC] at hlen
  refine ⟨hlen, n', fun j f hj => ?_⟩
  obtain ⟨ho, hk⟩ := hone_of hone j f hj
  have hjl : j < fs.size := (Array.getElem?_eq_some_iff.1 hj).1
  have h1 := hf j f hj
  rw [ho, hk] at h1
  have hone' : (cs.drop j).take 1 = [cs[j]'(by omega)] := by
    rw [List.drop_eq_getElem_cons (by omega)]
    rfl
  rw [hone'] at h1
  have hys : ys[j]? = some (ys[j]'(by omega)) := List.getElem?_eq_getElem (by omega)
  refine ⟨_, _, List.getElem?_eq_getElem (by omega), h1.trans hys, fun n hn => hw n ?_⟩
  simp only [DataW.weights, he]
  refine DataW.weights_mem_each (j := j) (t := f.type) ?_ ?_ n hn
  · rw [List.getElem?_map, Array.getElem?_toList, hj]
    rfl
  · rw [List.getElem?_map, hys]
    rfl
end Go.Proofs.Ytfoflodgegehfaa.M
set_option linter.unusedVariables false
set_option linter.unusedSimpArgs false
namespace Go.Proofs.Ytfoflodgegehfaa.M
open Go.ChangeShapes Go.WideShapes Go.Deep Go.RowKit Go.Proofs.YtfoflodgegehfaaW.PrintWords
structure ReqIn (r : Req) : Prop where
  method : r.method.size ≤ 140737488351232
  path : r.path.size ≤ 140737488351232
  text : r.text.size ≤ 140737488351232
  media : r.media.size ≤ 140737488351232
set_option maxRecDepth 100000 in
theorem open_req {H : Type} {enc : TypeId × Value → H} {W : World} {base b0 : Nat} {spare : Nat → Bool} {held : Bool} {r : Reach} {v : Value} {d : DataW H} {p : List MemPlace} (hv : Value.okWide Try.prog W r b0 30 v)
    (h : DataW.Trod enc Try.prog W base spare held 30 v d p) (hw : ∀ n ∈ d.weights Try.prog 30, n ≤ reachBytes) : ∃ m : Req, v = m.v ∧ ReqIn m := by
  obtain ⟨⟨cs⟩, rfl, hsz⟩ := okWide_struct Try.underlying30 hv
  obtain ⟨fuel, hf'⟩ := h
  obtain ⟨hl, n, hf⟩ := struct_fields Try.underlying30 (by kernel_rfl) (by kernel_rfl) hf' hw
  obtain ⟨v0, y0, c0, t0, w0⟩ := hf 0 _ rfl
  obtain ⟨v1, y1, c1, t1, w1⟩ := hf 1 _ rfl
  obtain ⟨v2, y2, c2, t2, w2⟩ := hf 2 _ rfl
  obtain ⟨v3, y3, c3, t3, w3⟩ := hf 3 _ rfl
  obtain ⟨v4, y4, c4, t4, w4⟩ := hf 4 _ rfl
  obtain ⟨v5, y5, c5, t5, w5⟩ := hf 5 _ rfl
  obtain ⟨a0, k0, o0⟩ := opens_string t0 w0
  obtain ⟨a1, k1, o1⟩ := opens_string t1 w1
  obtain ⟨a2, k2, o2⟩ := opens_string t2 w2
  obtain ⟨a3, k3, o3⟩ := opens_string t3 w3
  obtain ⟨a4, k4, _⟩ := DataW.trod_bool (by kernel_rfl) t4
  obtain ⟨a5, k5, o5⟩ := opens_int (κ := .i64) (by kernel_rfl) t5 w5
  obtain rfl : v0 = _ := List.head_eq_of_cons_eq k0
  obtain rfl : v1 = _ := List.head_eq_of_cons_eq k1
  obtain rfl : v2 = _ := List.head_eq_of_cons_eq k2
  obtain rfl : v3 = _ := List.head_eq_of_cons_eq k3
  obtain rfl : v4 = _ := List.head_eq_of_cons_eq k4
  obtain rfl : v5 = _ := List.head_eq_of_cons_eq k5
  match cs, hl with
  | [x0, x1, x2, x3, x4, x5], _ =>
    simp [Value.cells] at c0 c1 c2 c3 c4 c5
    subst c0 c1 c2 c3 c4 c5
    exact ⟨⟨a0, a1, a2, a3, a4, a5⟩, rfl, o0, o1, o2, o3⟩
end Go.Proofs.Ytfoflodgegehfaa.M
set_option linter.unusedVariables false
set_option linter.unusedSimpArgs false
namespace Go.Proofs.Ytfoflodgegehfaa.M
open Go.RowKit Go.Maps Go.Proofs.YtfoflodgegehfaaW.PrintWords Go.Proofs.YtfoflodgegehfaaW.PrintLast Go.Proofs.YtfoflodgegehfaaW.PrintMore
attribute [local go_sem] max2_int min2_int max_two min_two max_three min_three max_four min_four
attribute [local go_sem ↓] Go.wp_at_zero Go.wp_at_succ
theorem post_get : postT ≠ getT := by decide
end Go.Proofs.Ytfoflodgegehfaa.M
set_option linter.unusedVariables false
set_option linter.unusedSimpArgs false
namespace Go.Proofs.Ytfoflodgegehfaa.M
open Go.RowKit Go.Maps Go.Proofs.YtfoflodgegehfaaW.PrintWords Go.Proofs.YtfoflodgegehfaaW.PrintLast Go.Proofs.YtfoflodgegehfaaW.PrintMore
attribute [local go_sem] max2_int min2_int max_two min_two max_three min_three max_four min_four
attribute [local go_sem ↓] Go.wp_at_zero Go.wp_at_succ
def inI (c a b : Int) : Bool := decide (a ≤ c ∧ c ≤ b)
set_option maxHeartbeats 2000000 in
theorem in_calls (c a b : Int) (w : World) : Calls Try.prog 87 #[.int .u8 c, .int .u8 a, .int .u8 b] w fun e w' => e = .returned (.bool (inI c a b)) ∧ w = w' := by
  go_enter Try.func87, Try.ntmps87
  go_wp2_with fail
  all_goals
    go_ret
    refine ⟨congrArg (fun x => Ending.returned (.bool x)) ?_, rfl⟩
    simp only [inI]
    rw [Bool.eq_iff_iff]
    simp
    try omega
set_option maxHeartbeats 4000000 in
set_option maxRecDepth 100000 in
theorem refFold_calls (s : ByteArray) (w : World) (hs : s.size ≤ 1000000000000) :
    Calls Try.prog 76 #[.string s] w fun e w' => e = .returned (.string (foldS s)) ∧ Below w.heap.size w w' := by
  have HB := Aside0.mk (Below.refl w.heap.size w)
  have HS := Lib.hid hs
  have q3 : (s.size : Int) ≤ 1000000000000 := by omega
  clear hs
  go_enter Try.func76, Try.ntmps76
  go_wp2_with fail
  go_loopg [3, 4] s.size (fun kq v3 v4 w' => ∃ (j : Nat) (xs : List Int), v4 = .int .i64 j ∧ Aside0 (kq + j = s.size) ∧ Aside0 (xs = ((bytesOf s).take j).map foldI) ∧ Aside0 (B8 w' w.heap.size (fun _ => True) v3 xs) ∧ Aside0 (Below w.heap.size w w'))
  case atStart => exact ⟨0, [], rfl, ⟨rfl⟩, ⟨rfl⟩, ⟨Kd.R_nil _ _ _ _ _⟩, HB⟩
  case round =>
    clear HB
    obtain ⟨j, xs, rfl, HK, HX, HO, HB⟩ := hrel
    obtain ⟨A3, c3, rfl⟩ := Kd.R_slice HO.out
    cases gk with
    | zero =>
      obtain rfl : j = s.size := by have := HK.out; omega
      have hst := strOf HO.out
      have HT := Lib.hid (show strOfNums xs = foldS s by rw [HX.out, List.take_of_length_le (by rw [bytesOf_length]; omega)]; rfl)
      go_wp2_with fail
      go_ret
      exact ⟨congrArg (fun x => Ending.returned (.string x)) HT.out, HB.out⟩
    | succ k =>
      have hj : j < s.size := by have := HK.out; omega
      obtain ⟨c0, c1⟩ := bt_range s j
      have HT := Lib.hid (take_bytes s j hj)
      have hx := bt_nat s j hj
      have HL1 := Lib.hid (show (xs.length + 1) * 1 ≤ 140737488355328 by rw [HX.out, List.length_map, List.length_take]; have := HS.out; omega)
      obtain ⟨c, hc⟩ : ∃ c, bt s (j : Int) = c := ⟨_, rfl⟩
      rw [hc] at hx c0 c1
      have HC := Lib.hid hc
      have q1 : (0 : Int) ≤ (j : Int) := by omega
      have q2 : (j : Int) < (s.size : Int) := by omega
      clear hc
      go_wp2_with fail
      refine (in_calls c 65 90 _).mono ?_
      rintro e w1 ⟨rfl, hw1⟩
      subst hw1
      cases hg : inI c 65 90 with
      | false =>
        have hf : foldI c = c := by
          unfold foldI
          rw [if_neg]
          unfold inI at hg
          exact of_decide_eq_false hg
        have HX2 := Aside0.mk (show xs ++ [c] = ((bytesOf s).take (j + 1)).map foldI by rw [HT.out, List.map_append, ← HX.out, List.map_singleton, HC.out, hf])
        clear hg hf
        go_wp2_with (((with_reducible refine gate_builtin (b := .append) (xs := #[.tmp 19, .tmp 21]) rfl ?_); at_builtin; go_must (refine app8 (p := c) rfl (.tmp 19) (.tmp 21) rfl rfl rfl HO.out HB.out (fun _ _ _ => trivial) (below_size HB.out) HL1.out ?_; intro va wa hoa hba hga hata; have HO1 := Aside0.mk hoa; have HB1 := Aside0.mk hba; clear hoa hba hga hata)))
        go_roundg k
        case measure => omega
        case rel => exact ⟨j + 1, _, by go_num, ⟨by have := HK.out; omega⟩, HX2, HO1, HB1⟩
      | true =>
        have hi : 65 ≤ c ∧ c ≤ 90 := by
          unfold inI at hg
          exact of_decide_eq_true hg
        have hf : foldI c = c + 32 := if_pos hi
        have HX2 := Aside0.mk (show xs ++ [c + 32] = ((bytesOf s).take (j + 1)).map foldI by rw [HT.out, List.map_append, ← HX.out, List.map_singleton, HC.out, hf])
        obtain ⟨i1, i2⟩ := hi
        clear hg hf
        go_wp2_with (((with_reducible refine gate_builtin (b := .append) (xs := #[.tmp 19, .tmp 21]) rfl ?_); at_builtin; go_must (refine app8 (p := c + 32) rfl (.tmp 19) (.tmp 21) rfl rfl rfl HO.out HB.out (fun _ _ _ => trivial) (below_size HB.out) HL1.out ?_; intro va wa hoa hba hga hata; have HO1 := Aside0.mk hoa; have HB1 := Aside0.mk hba; clear hoa hba hga hata)))
        go_roundg k
        case measure => omega
        case rel => exact ⟨j + 1, _, by go_num, ⟨by have := HK.out; omega⟩, HX2, HO1, HB1⟩
end Go.Proofs.Ytfoflodgegehfaa.M
