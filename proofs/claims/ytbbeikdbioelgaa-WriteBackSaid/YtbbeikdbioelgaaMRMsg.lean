/- Walks of package dnsread: question, record, records, message. -/
import Derived.Test.YtbbeikdbioelgaaMRData
import Derived.Test.YtbbeikdbioelgaaMPlain
set_option linter.unusedVariables false
set_option linter.unusedSimpArgs false
namespace Go.Proofs.Ytbbeikdbioelgaa.M
open Go.RowKit Go.Maps Go.Proofs.YtbbeikdbioelgaaW.PrintWords Go.Proofs.YtbbeikdbioelgaaW.PrintLast Go.Proofs.YtbbeikdbioelgaaW.PrintMore
attribute [local go_sem] max2_int min2_int max_two min_two max_three min_three max_four min_four
attribute [local go_sem ↓] Go.wp_at_zero Go.wp_at_succ
/-- A question, at a place. -/
def quesR (s : ByteArray) (a : Int) : Except Int (Ques × Int) :=
  match nameAt s a with
  | .error c => .error c
  | .ok (b, a1) => match getF s a1 2 with
    | none => .error 2
    | some t => match getF s (a1 + 2) 2 with
      | none => .error 2
      | some c => .ok (⟨strOfNums b, t, c⟩, a1 + 2 + 2)
def QuesP (q : Ques) (v : Value) (w' : World) : Prop := v = .agg #[.string q.f0, .int .u16 q.f1, .int .u16 q.f2]
/-- A block that is one struct. -/
def SAt (w : World) (h : Nat) (cs : Array Value) (T : Nat) : Prop := w.heap[h]? = some (.cells cs T (0, 0))
section
variable {w w1 : World} {g h : Nat} {s : ByteArray} {a : Int} {cs : Array Value} {T : Nat}
theorem SAt.cell (hx : SAt w h cs T) (j : Nat) : w.cell? ⟨h, j, none⟩ = cs[j]? := blk_cell hx j
theorem SAt.is (hx : SAt w h cs T) (j : Nat) {v : Value} (hv : cs[j]? = some v) : w.cell? ⟨h, j, none⟩ = some v := (hx.cell j).trans hv
theorem SAt.ne (hx : SAt w h cs T) (hr : RAt w g s a) (hT : T ≠ 87) : h ≠ g := by
  rintro rfl
  unfold SAt at hx
  unfold RAt at hr
  rw [hr] at hx
  have := Option.some.inj hx
  injection this with _ h2
  exact hT h2.symm
theorem SAt.only (hx : SAt w h cs T) (hr : RAt w g s a) (hT : T ≠ 87) (ho : Only g w w1) : SAt w1 h cs T := ho.at_ hx (hx.ne hr hT)
theorem SAt.new (w : World) (cs : Array Value) (T : Nat) : SAt (w.alloc (.cells cs T (0, 0))) w.heap.size cs T := blk_new w _
theorem SAt.below (hx : SAt w h cs T) (hb : Below w.heap.size w w1) : SAt w1 h cs T := blk_below hx hb
theorem SAt.set (hx : SAt w h cs T) (j : Nat) (u : Value) : SAt (w.setCell ⟨h, j, none⟩ u) h (cs.setIfInBounds j u) T := by
  unfold SAt
  rw [blk_set hx j _]
theorem SAt.far (hx : SAt w h cs T) {h2 : Nat} (hne : h ≠ h2) (j : Nat) (u : Value) : SAt (w.setCell ⟨h2, j, none⟩ u) h cs T := (Below.heap_setCell w _ u h hne).trans hx
theorem SAt.frozen (hx : SAt w h cs T) (j : Nat) : w.frozen? ⟨h, j, none⟩ = false := blk_frozen hx j
theorem SAt.lt (hx : SAt w h cs T) : h < w.heap.size := blk_lt hx
theorem RAt.far (hr : RAt w g s a) {h2 : Nat} (hne : g ≠ h2) (j : Nat) (u : Value) : RAt (w.setCell ⟨h2, j, none⟩ u) g s a := (Below.heap_setCell w _ u g hne).trans hr
theorem RAt.lt (hr : RAt w g s a) : g < w.heap.size := blk_lt hr
/-- A new block may be written. -/
theorem Only.setNew {w0 : World} (h0 : Only g w0 w) {h2 : Nat} (hn : w0.heap.size ≤ h2) (j : Nat) (u : Value) : Only g w0 (w.setCell ⟨h2, j, none⟩ u) :=
  ⟨h0.os, h0.tape, h0.output, by simpa using h0.size, fun k hk hg => (Below.heap_setCell w _ u k (by show k ≠ h2; omega)).trans (h0.block k hk hg)⟩
theorem Only.alloc {w0 : World} (h0 : Only g w0 w) (o : Obj) : Only g w0 (w.alloc o) := h0.trans (Only.of_below (below_alloc (Below.refl _ _) o) g)
end
theorem get2 {s : ByteArray} {a n : Int} (h : getF s a 2 = some n) : 0 ≤ n ∧ n ≤ 65535 ∧ 0 ≤ a ∧ a + 2 ≤ s.size ∧ IntKind.u16.wrap n = n := by
  have h1 := get_bound (z := 2) h
  have h2 := get_at h
  refine ⟨h1.1, by omega, h2.1, h2.2.2, ?_⟩
  simp [IntKind.wrap, IntKind.bits, IntKind.signed]
  omega
theorem get4 {s : ByteArray} {a n : Int} (h : getF s a 4 = some n) : 0 ≤ n ∧ n ≤ 4294967295 ∧ 0 ≤ a ∧ a + 4 ≤ s.size ∧ IntKind.u32.wrap n = n := by
  have h1 := get_bound (z := 4) h
  have h2 := get_at h
  refine ⟨h1.1, by omega, h2.1, h2.2.2, ?_⟩
  rw [IntKind.wrap_u32]
  omega
set_option maxHeartbeats 4000000 in
set_option maxRecDepth 100000 in
theorem question_calls {w : World} {g : Nat} {s : ByteArray} {a : Int} (h : RAt w g s a) (hs : s.size ≤ 1000000) (h0 : 0 ≤ a) (ha : a ≤ s.size) :
    Calls Try.prog 68 #[.pointer (some ⟨g, 0, none⟩)] w fun e w' => Ends QuesP (quesR s a) w g s e w' := by
  obtain ⟨R, hR⟩ : ∃ R, quesR s a = R := ⟨_, rfl⟩
  rw [hR]
  unfold quesR at hR
  have HR := Aside0.mk h
  clear h
  go_enter Try.func68, Try.ntmps68
  go_wp2_with fail
  have HV := Aside0.mk (SAt.new w #[.string ⟨#[]⟩, .int .u16 0, .int .u16 0] 39)
  refine (name_calls' (HR.out.below (below_alloc (Below.refl _ _) _)) hs (by omega) (by omega)).mono ?_
  intro e w2 ht
  have HO := Aside0.mk (((Only.refl g w).alloc _).trans ht.only)
  have HV2 := Aside0.mk (HV.out.only (HR.out.below (below_alloc (Below.refl _ _) _)) (by decide) ht.only)
  cases hn : nameAt s a with
  | error c =>
    rw [hn] at hR
    obtain rfl := ht.bad c hn
    exact ⟨rfl, Ends.err hR.symm HO.out⟩
  | ok x =>
    obtain ⟨b, a1⟩ := x
    rw [hn] at hR
    obtain ⟨rfl, hr2⟩ := ht.good b a1 hn
    clear ht hn
    simp only [] at hR
    obtain ⟨t0, ht0⟩ : ∃ t0, strOfNums b = t0 := ⟨_, rfl⟩
    rw [ht0] at hR ⊢
    go_wp2_with fail
    have HQ3 := Aside0.mk (SAt.new w2 #[.string t0, .int .u16 0, .int .u16 0] 39)
    have HR3 := Aside0.mk (hr2.below (below_alloc (Below.refl _ _) (.cells #[.string t0, .int .u16 0, .int .u16 0] 39 (0, 0))))
    have HO3 := Aside0.mk (HO.out.alloc (.cells #[.string t0, .int .u16 0, .int .u16 0] 39 (0, 0)))
    have HV3 := Aside0.mk (HV2.out.below (below_alloc (Below.refl _ _) (.cells #[.string t0, .int .u16 0, .int .u16 0] 39 (0, 0))))
    have HSz := Lib.hid (show w.heap.size ≤ w2.heap.size ∧ w.heap.size ≤ w.heap.size from ⟨HO.out.size, Nat.le_refl _⟩)
    have HLt := Lib.hid (show w.heap.size ≤ w2.heap.size ∧ w.heap.size ≠ w2.heap.size from ⟨HO.out.size, by have := HV2.out.lt; omega⟩)
    clear hr2 HO HV2
    generalize hW : w2.alloc (.cells #[.string t0, .int .u16 0, .int .u16 0] 39 (0, 0)) = w3 at *
    obtain ⟨q, hq⟩ : ∃ q, w2.heap.size = q := ⟨_, rfl⟩
    obtain ⟨r, hr⟩ : ∃ r, w.heap.size = r := ⟨_, rfl⟩
    rw [hq] at HQ3 HLt HSz
    have HSz := Lib.hid (show w.heap.size ≤ q ∧ w.heap.size ≤ r from ⟨HSz.out.1, by omega⟩)
    rw [hr] at HLt HV3
    rw [hq]
    rw [hr]
    clear hq hr hW
    have hgq := HQ3.out.ne HR3.out (by decide)
    have hgr := HV3.out.ne HR3.out (by decide)
    cases h1 : getF s a1 2 with
    | none =>
      rw [h1] at hR
      refine (num_no HR3.out hs h1).mono ?_
      rintro e w' ⟨rfl, ho⟩
      exact ⟨rfl, Ends.err hR.symm (HO3.out.trans ho)⟩
    | some t =>
      rw [h1] at hR
      simp only [] at hR
      obtain ⟨t0', t1', _, _, hwt⟩ := get2 h1
      refine (num_yes HR3.out hs h1).mono ?_
      rintro e w4 ⟨rfl, hr, ho⟩
      have HQ4 := HQ3.out.only HR3.out (by decide) ho
      have HV4 := HV3.out.only HR3.out (by decide) ho
      have HO4 := HO3.out.trans ho
      have y := HQ4.is 1 rfl
      have f := HQ4.frozen 1
      clear h1
      go_wp2_with fail
      have HR5 := hr.far (Ne.symm hgq) 1 (.int .u16 t)
      have HO5 := HO4.setNew HSz.out.1 1 (.int .u16 t)
      have HV5 := HV4.far HLt.out.2 1 (.int .u16 t)
      have HQ5 : SAt _ q #[.string t0, .int .u16 t, .int .u16 0] 39 := HQ4.set 1 (.int .u16 t)
      clear HR3 HO3 HV3 HQ3 hr HO4 HV4 HQ4 ho y f
      generalize hW : w4.setCell ⟨q, 1, none⟩ (.int .u16 t) = w5 at *
      cases h2 : getF s (a1 + 2) 2 with
      | none =>
        rw [h2] at hR
        refine (num_no HR5 hs h2).mono ?_
        rintro e w' ⟨rfl, ho⟩
        exact ⟨rfl, Ends.err hR.symm (HO5.trans ho)⟩
      | some c =>
        rw [h2] at hR
        simp only [] at hR
        obtain ⟨c0', c1', _, _, hwc⟩ := get2 h2
        refine (num_yes HR5 hs h2).mono ?_
        rintro e w6 ⟨rfl, hr, ho⟩
        have HQ6 := HQ5.only HR5 (by decide) ho
        have HV6 := HV5.only HR5 (by decide) ho
        have HO6 := HO5.trans ho
        have y := HQ6.is 2 rfl
        have f := HQ6.frozen 2
        have y0 := HQ6.is 0 rfl
        have y1 := HQ6.is 1 rfl
        have z0 := HV6.is 0 rfl
        have z1 := HV6.is 1 rfl
        have z2 := HV6.is 2 rfl
        have g0 := HV6.frozen 0
        have g1 := HV6.frozen 1
        have g2 := HV6.frozen 2
        have hqr := HLt.out.2
        have hrq := Ne.symm HLt.out.2
        clear h2
        go_wp2_with fail
        have HR9 := ((((hr.far (Ne.symm hgq) 2 (.int .u16 c)).far (Ne.symm hgr) 0 (.string t0)).far (Ne.symm hgr) 1 (.int .u16 t)).far (Ne.symm hgr) 2 (.int .u16 c))
        have HO9 := ((((HO6.setNew HSz.out.1 2 (.int .u16 c)).setNew HSz.out.2 0 (.string t0)).setNew HSz.out.2 1 (.int .u16 t)).setNew HSz.out.2 2 (.int .u16 c))
        have HV9 : SAt _ r #[.string t0, .int .u16 t, .int .u16 c] 39 := ((((HV6.far HLt.out.2 2 (.int .u16 c)).set 0 (.string t0)).set 1 (.int .u16 t)).set 2 (.int .u16 c))
        clear y f y0 y1 z0 z1 z2 g0 g1 g2
        generalize hW : (((w6.setCell ⟨q, 2, none⟩ (.int .u16 c)).setCell ⟨r, 0, none⟩ (.string t0)).setCell ⟨r, 1, none⟩ (.int .u16 t)).setCell ⟨r, 2, none⟩ (.int .u16 c) = w9 at *
        have z0 := HV9.is 0 rfl
        have z1 := HV9.is 1 rfl
        have z2 := HV9.is 2 rfl
        refine bodyPost_ret (v := .agg #[.string t0, .int .u16 t, .int .u16 c]) (by simp [results, Try.results68, go_sem, z0, z1, z2]) rfl ?_
        exact Ends.ok hR.symm rfl HR9 HO9
/-- A record, at a place. -/
def recR (s : ByteArray) (a : Int) : Except Int (Rec × Int) :=
  match nameAt s a with
  | .error c => .error c
  | .ok (b, a1) => match getF s a1 2 with
    | none => .error 2
    | some t => match getF s (a1 + 2) 2 with
      | none => .error 2
      | some c => match getF s (a1 + 2 + 2) 4 with
        | none => .error 2
        | some l => match getF s (a1 + 2 + 2 + 4) 2 with
          | none => .error 2
          | some n => if s.size - (a1 + 2 + 2 + 4 + 2) < n then .error 2 else
            match dataR s t (a1 + 2 + 2 + 4 + 2 + n) (a1 + 2 + 2 + 4 + 2) with
            | .error d => .error d
            | .ok ((names, nums, texts), a2) => if checkF ⟨strOfNums b, t, c, l, names, nums, texts⟩ = 0 then .ok (⟨strOfNums b, t, c, l, names, nums, texts⟩, a2) else .error (checkF ⟨strOfNums b, t, c, l, names, nums, texts⟩)
def RecP (B : Nat) (r : Rec) (v : Value) (w : World) : Prop := ∃ v4 v5 v6, v = .agg #[.string r.f0, .int .u16 r.f1, .int .u16 r.f2, .int .u32 r.f3, v4, v5, v6] ∧
  Kd.R Kd.string 9 w B (fun _ => True) v4 r.f4 ∧ Kd.R (Kd.int .u32) 41 w B (fun _ => True) v5 r.f5 ∧ Kd.R Kd.string 9 w B (fun _ => True) v6 r.f6
theorem recAt_of {w : World} {B : Nat} {r : Rec} {v4 v5 v6 : Value} (h4 : Kd.R Kd.string 9 w B (fun _ => True) v4 r.f4) (h5 : Kd.R (Kd.int .u32) 41 w B (fun _ => True) v5 r.f5) (h6 : Kd.R Kd.string 9 w B (fun _ => True) v6 r.f6) :
    RecAt w (.agg #[.string r.f0, .int .u16 r.f1, .int .u16 r.f2, .int .u32 r.f3, v4, v5, v6]) r := by
  obtain ⟨A4, c4, rfl, l4, g4⟩ := Kd.R_reads h4
  obtain ⟨A5, c5, rfl, l5, g5⟩ := Kd.R_reads h5
  obtain ⟨A6, c6, rfl, l6, g6⟩ := Kd.R_reads h6
  exact ⟨A4, c4, A5, c5, A6, c6, rfl, l4, g4, l5, g5, l6, g6⟩
end Go.Proofs.Ytbbeikdbioelgaa.M
