/- Walks of package dnswrite: the writer. -/
import Derived.Test.YtbbeikdbioelgaaMPlain
import Derived.Test.YtbbeikdbioelgaaMJDraw
import Derived.Maps.OwnSet
import Derived.Maps.Ext
import Derived.StringKeys
import Derived.StillTailTactics
import Derived.Deep.RegionHeld3
import Derived.Deep.RegionLaw
import Derived.Deep.DrawnRows
import Derived.Deep.DeepMust
set_option linter.unusedVariables false
set_option linter.unusedSimpArgs false
namespace Go.Proofs.Ytbbeikdbioelgaa.M
open Go.RowKit Go.Maps Go.Proofs.YtbbeikdbioelgaaW.PrintWords Go.Proofs.YtbbeikdbioelgaaW.PrintLast Go.Proofs.YtbbeikdbioelgaaW.PrintMore
attribute [local go_sem] max2_int min2_int max_two min_two max_three min_three max_four min_four
attribute [local go_sem ↓] Go.wp_at_zero Go.wp_at_succ

section
variable {ops : Array Oper} {o : Oper} {a : Act} {Q : Exit → Act → World → Prop} {Kc : Act → World → Prop}
theorem gate_step {E : Prop} {W : World} {b : Builtin} {xs : Array Operand} {ts : Array TypeId} (_ho : o.op = .call { callee := .builtin b, args := xs, argTypes := ts }) (h : if Region.wanted o (yielded ops a.tmps) = true then Oper.wp Try.prog o a W Kc Q else E) : if Region.wanted o (yielded ops a.tmps) = true then Oper.wp Try.prog o a W Kc Q else E := h
set_option maxRecDepth 100000 in
/-- append(v, y...), y a text, as one step of a region that draws. -/
theorem app8s_step {w0 W : World} {base : Nat} (N : Option Tmp) (hN : o.dst = N) (hw : Region.wanted o (yielded ops a.tmps) = true) (s x : Operand) (ho : o.op = .call { callee := .builtin .append, args := #[s, x], argTypes := #[57, 9] })
    {v : Value} {xs : List Int} {y : ByteArray} (hs : a.eval s = v) (hx : a.eval x = .string y)
    (HO : B8 W base (fun _ => True) v xs) (HB : Below base w0 W) (hbase : base ≤ W.heap.size) (hl : xs.length + y.size ≤ 140737488355328)
    (h : ∀ v1 w1, B8 w1 base (fun _ => True) v1 (xs ++ bytesOf y) → Below base w0 w1 → W.grownBy w1 v.ownBlock → Kc (a.put N v1) w1) :
    if Region.wanted o (yielded ops a.tmps) = true then Oper.wp Try.prog o a W Kc Q else Kc (a.put N undef) W := by
  subst hN
  obtain ⟨i0, hi, hzz⟩ := Option.map_eq_some_iff.1 info8
  simp only [Prod.mk.injEq] at hzz
  obtain ⟨hz0, hz1, hz2⟩ := hzz
  obtain ⟨v1, w1, hr, h2, h3, h4⟩ := Lib.run_append_own_string (P := Try.prog) W base 57 9 o.type 5 i0 Try.underlying57 Try.underlying9 hi hz0 hz1 hz2 v xs.length (nums .u8 xs) (Kd.own_of_R HO) y (by simp only [maxLen]; omega) hl hbase
  have hl2 : (xs ++ bytesOf y).length = xs.length + y.size := by rw [List.length_append, bytesOf_length]
  have hc : nums .u8 (xs ++ bytesOf y) = nums .u8 xs ++ Lib.strCells y := by
    rw [nums_append]
    congr 1
    simp [nums, bytesOf, Lib.strCells]
  refine event_step hw (v := v1) (w1 := w1) ?_ (h v1 w1 (Kd.R_of_own ?_ (fun _ _ => trivial)) (HB.grown h3 hbase (own_base (Kd.own_of_R HO))) h3)
  · unfold execOp
    simp only [ho, resolve, invoke, builtin, Sem.run_bind, Sem.run_pure, Result.andThen_ok, List.map_toArray, List.map_cons, List.map_nil, hs, hx, hr]
  · rw [hl2]
    show w1.ownsRow base 5 1 v1 (xs.length + y.size) (nums .u8 (xs ++ bytesOf y))
    rw [hc]
    exact h2
/-- append(v, y...), y a row of bytes, as one step of a region that draws. -/
theorem app8r_step {w0 W : World} {base : Nat} (N : Option Tmp) (hN : o.dst = N) (hw : Region.wanted o (yielded ops a.tmps) = true) (s x : Operand) (ho : o.op = .call { callee := .builtin .append, args := #[s, x], argTypes := #[57, 57] })
    {v : Value} {xs ys : List Int} {A : Option Addr} {m c : Nat} (hs : a.eval s = v) (hx : a.eval x = .slice A m c)
    (HO : B8 W base (fun _ => True) v xs) (HR : (Kd.int .u8).C W A m ys) (HB : Below base w0 W) (hbase : base ≤ W.heap.size) (hl : (xs.length + m) * 1 ≤ 140737488355328)
    (h : ∀ v1 w1, B8 w1 base (fun _ => True) v1 (xs ++ ys) → Below base w0 w1 → W.grownBy w1 v.ownBlock → Kc (a.put N v1) w1) :
    if Region.wanted o (yielded ops a.tmps) = true then Oper.wp Try.prog o a W Kc Q else Kc (a.put N undef) W := by
  subst hN
  exact Kd.R_append_rows_step (Kd.int .u8) (w0 := w0) base hw s x 57 5 (.int .u8 0) 1 ho Try.underlying57 info8 rfl (by decide) (by decide) v xs ys A m c (fun _ => True) (fun _ => False) hs hx HO HR (fun _ _ hk => hk) (fun _ hk => hk.elim) (fun _ _ => trivial) HB hbase hl
    (fun v1 w1 h1 h2 h3 _ => h v1 w1 h1 h2 h3)
end

theorem Put_nil (n sz : Int) (w : World) (h0 : 0 ≤ sz) (h8 : sz ≤ 8) :
    Calls Try.prog 56 #[.slice none 0 0, .int .u64 n, .int .i64 sz] w fun e w' => ∃ A c, e = .returned (.slice A (putL n sz.toNat).length c) ∧ (Kd.int .u8).C w' A (putL n sz.toNat).length (putL n sz.toNat) ∧ Below w.heap.size w w' := by
  refine (Put_calls none 0 [] n sz w (Kd.C_of_reads (d := (0 : Int)) (h1 := fun _ => rfl) ⟨rfl, by decide, fun h => absurd h (by decide)⟩) (Nat.le_refl _) (by decide) h0 h8).mono ?_
  rintro e w' ⟨v, rfl, ho, hb⟩
  obtain ⟨A, c, rfl, _, hr⟩ := Kd.R_reads ho
  exact ⟨A, c, rfl, hr, hb⟩
theorem undrew {B : Nat} {w w1 : World} (h : Below B w.drew w1) : Below B w w1 := ⟨h.os, h.tape, h.output, h.size, h.block⟩
theorem undrewN {B n : Nat} {w w1 : World} (h : Below B (w.drewN n) w1) : Below B w w1 := ⟨h.os, h.tape, h.output, h.size, h.block⟩
/-- What a block's first cell holds now (a name that the walk does not open). -/
def nowAt (w : World) (g : Nat) : Value := (w.cell? ⟨g, 0, none⟩).getD undef
theorem now_of {w : World} {g : Nat} {u : Value} (h : w.cell? ⟨g, 0, none⟩ = some u) : w.cell? ⟨g, 0, none⟩ = some (nowAt w g) := by
  unfold nowAt
  rw [h]
  rfl
theorem now_is {w : World} {g : Nat} {u : Value} (h : w.cell? ⟨g, 0, none⟩ = some u) : nowAt w g = u := by
  unfold nowAt
  rw [h]
  rfl
theorem now_set {w : World} {g : Nat} {u x : Value} (h : w.cell? ⟨g, 0, none⟩ = some u) : (w.setCell ⟨g, 0, none⟩ x).cell? ⟨g, 0, none⟩ = some (nowAt (w.setCell ⟨g, 0, none⟩ x) g) := by
  refine now_of (u := x) ?_
  first | exact World.cell?_setCell_same _ _ _ h | (simp [World.setCell, World.cell?] at *)
def keyOfS (s : ByteArray) : Lit := .string s.data.toList
def RepS (D : DataW Unit) (m : List UInt8 → Option Int) : Prop := ∀ l : List UInt8, Maps.has D (.string l) = (m l).isSome ∧ ∀ v, m l = some v → D.atKey (.string l) (.lit (.int .i64 0)) = .lit (.int .i64 v)
/-- A writer at block g: what it has written, and what it knows (in the map at block mb, of at most N entries). -/
structure WAt (w0 w : World) (g mb : Nat) (out : List Int) (m : List UInt8 → Option Int) (N : Nat) : Prop where
  own : ∃ v, w.heap[g]? = some (.cells #[v, .map (some mb)] 67 (0, 0)) ∧ B8 w w0.heap.size (fun _ => True) v out
  map : ∃ D : DataW Unit, w.ownsMap Try.prog 9 (plainElem Try.prog 3) mb N D ∧ RepS D m
  hg : w0.heap.size ≤ g
  hm : w0.heap.size ≤ mb
  ne : mb ≠ g
  below : Below w0.heap.size w0 w
theorem mapOf_far {w w1 : World} {mb N : Nat} {D : DataW Unit} (h : w.ownsMap Try.prog 9 (plainElem Try.prog 3) mb N D) (hb : w1.heap[mb]? = w.heap[mb]?) : w1.ownsMap Try.prog 9 (plainElem Try.prog 3) mb N D := by
  obtain ⟨es, clock, he, hr⟩ := h
  exact ⟨es, clock, hb.trans he, hr⟩
/-- What is no row of bytes, nor of the writer's own, stays. -/
def KeepT (w w' : World) (g mb : Nat) : Prop := w.heap.size ≤ w'.heap.size ∧ ∀ k cs t, w.heap[k]? = some (.cells cs t (0, 0)) → t ≠ 5 → k ≠ g → k ≠ mb → w'.heap[k]? = some (.cells cs t (0, 0))
section
variable {w w1 w2 : World} {g mb : Nat}
theorem KeepT.refl (w : World) (g mb : Nat) : KeepT w w g mb := ⟨Nat.le_refl _, fun _ _ _ h _ _ _ => h⟩
theorem KeepT.trans (h : KeepT w w1 g mb) (h2 : KeepT w1 w2 g mb) : KeepT w w2 g mb := ⟨Nat.le_trans h.1 h2.1, fun k cs t hk ht h1 h3 => h2.2 k cs t (h.2 k cs t hk ht h1 h3) ht h1 h3⟩
theorem KeepT.below (hb : Below w.heap.size w w1) (g mb : Nat) : KeepT w w1 g mb := ⟨hb.size, fun k cs t hk _ _ _ => blk_below hk hb⟩
theorem KeepT.grown {base : Nat} {v : Value} {xs : List Int} (ho : B8 w base (fun _ => True) v xs) (hg : w.grownBy w1 v.ownBlock) (g mb : Nat) : KeepT w w1 g mb :=
  ⟨hg.size, fun k cs t hk ht _ _ => blk_grown hk hg (fun e => by
    obtain ⟨cells, hc⟩ := own_typed (Kd.own_of_R ho) k e.symm
    rw [hc] at hk
    injection hk with hk
    injection hk with _ h2
    exact ht h2.symm)⟩
theorem KeepT.set (w : World) (g mb : Nat) (j : Nat) (u : Value) : KeepT w (w.setCell ⟨g, j, none⟩ u) g mb := ⟨by simp, fun k cs t hk _ h1 _ => (Below.heap_setCell w _ u k h1).trans hk⟩
theorem KeepT.map (hg : w.grownBy w1 (some mb)) (g : Nat) : KeepT w w1 g mb := ⟨hg.size, fun k cs t hk _ _ h2 => blk_grown hk hg (fun e => h2 (Option.some.inj e))⟩
theorem KeepT.drew (w : World) (g mb : Nat) : KeepT w w.drew g mb := ⟨Nat.le_refl _, fun _ _ _ h _ _ _ => h⟩
end
/-- The map's block is no row of bytes. -/
theorem map_ne {w : World} {base mb N : Nat} {v : Value} {xs : List Int} {D : DataW Unit} (h : w.ownsMap Try.prog 9 (plainElem Try.prog 3) mb N D) (ho : B8 w base (fun _ => True) v xs) : some mb ≠ v.ownBlock := by
  intro e
  obtain ⟨es, clock, he, hr⟩ := h
  obtain ⟨cells, hc⟩ := own_typed (Kd.own_of_R ho) mb e.symm
  rw [hc] at he
  exact absurd (Option.some.inj he) (by simp)

theorem WAt.stored {w0 w : World} {g mb N : Nat} {out : List Int} {m : List UInt8 → Option Int} {v v1 : Value} {D : DataW Unit} (hx : w.heap[g]? = some (.cells #[v, .map (some mb)] 67 (0, 0))) (ho : B8 w w0.heap.size (fun _ => True) v1 out)
    (hM : w.ownsMap Try.prog 9 (plainElem Try.prog 3) mb N D) (hR : RepS D m) (hg : w0.heap.size ≤ g) (hm : w0.heap.size ≤ mb) (hne : mb ≠ g) (hb : Below w0.heap.size w0 w) : WAt w0 (w.setCell ⟨g, 0, none⟩ v1) g mb out m N :=
  ⟨⟨v1, by rw [blk_set hx 0 v1]; rfl, Kd.R_set ho hx (by intro q hq; rw [show q = 5 by simpa [Kd.int, Kd.scalar] using hq]; decide) 0 v1⟩,
   ⟨D, mapOf_far hM (Below.heap_setCell w _ _ mb hne), hR⟩, hg, hm, hne, hb.setCell hg v1⟩
set_option maxHeartbeats 2000000 in
set_option maxRecDepth 100000 in
theorem num_calls {w0 w : World} {g mb N : Nat} {out : List Int} {m : List UInt8 → Option Int} (h : WAt w0 w g mb out m N) (n sz : Int) (h0 : 0 ≤ sz) (h8 : sz ≤ 8) (n0 : 0 ≤ n) (n1 : n ≤ 4294967295) (hl : out.length ≤ 100000000) :
    Calls Try.prog 32 #[.pointer (some ⟨g, 0, none⟩), .int .i64 n, .int .i64 sz] w fun e w' => e = .returned (.tuple #[]) ∧ WAt w0 w' g mb (out ++ putL n sz.toNat) m N ∧ KeepT w w' g mb := by
  obtain ⟨⟨v, hcell, ho⟩, ⟨D, hmap, hrep⟩, hg, hmb, hne, hb⟩ := h
  have HX := Aside0.mk hcell
  have HO := Aside0.mk ho
  have HM := Aside0.mk hmap
  have HR := Aside0.mk hrep
  have HB := Aside0.mk hb
  have HL := Aside0.mk hl
  have z0 : w.cell? ⟨g, 0, none⟩ = some v := (blk_cell HX.out 0).trans rfl
  have GL := Aside0.mk (blk_lt hcell)
  have y0 : nowAt w.drew g = v := now_is z0
  have hwr : IntKind.u64.wrap n = n := mine_wraps64 n n0 (by omega)
  have HP := Aside0.mk (show (out.length + (putL n sz.toNat).length) * 1 ≤ 140737488355328 by rw [putL_length]; omega)
  clear hcell ho hmap hrep hb hl
  go_enter Try.func32, Try.ntmps32
  go_wp2_with fail
  refine start_ (n := 13) (S := fun w' => w'.cell? ⟨g, 0, none⟩ = some v) (ds := [12]) (Array.replicate 13 false) (by kernel_rfl) (by kernel_rfl) rfl (by exact z0) (fun hS => ?_)
  refine dpure 0 (some 6) rfl rfl (by kernel_rfl) (fun _ _ _ h => h) (by rfl) (v := ?_) (a' := ?_) ?_ ?_ ?_
  rotate_left 2
  · intro w'; go_simp; with_reducible rfl
  · simp only [Act.put, List.setIfInBounds_toArray, List.set_cons_zero, List.set_cons_succ]; rfl
  refine dpure 1 (some 7) rfl rfl (by kernel_rfl) (fun _ _ _ h => h) (by rfl) (v := ?_) (a' := ?_) ?_ ?_ ?_
  rotate_left 2
  · intro w'; go_simp; with_reducible rfl
  · simp only [Act.put, List.setIfInBounds_toArray, List.set_cons_zero, List.set_cons_succ]; rfl
  refine dpure 2 (some 8) rfl rfl (by kernel_rfl) (fun _ _ _ h => h) (by rfl) (v := ?_) (a' := ?_) ?_ ?_ ?_
  rotate_left 2
  · intro w'; go_simp; with_reducible rfl
  · simp only [Act.put, List.setIfInBounds_toArray, List.set_cons_zero, List.set_cons_succ]; rfl
  refine dpure 3 (some 9) rfl rfl (by kernel_rfl) (fun _ _ _ h => h) (by rfl) (v := ?_) (a' := ?_) ?_ ?_ ?_
  rotate_left 2
  · intro w'; go_simp; with_reducible rfl
  · simp only [Act.put, List.setIfInBounds_toArray, List.set_cons_zero, List.set_cons_succ]; rfl
  refine dtake 4 (some 10) rfl rfl (by kernel_rfl) (fun _ _ _ h => h) (by rfl) hS (v := ?_) (a' := ?_) ?_ ?_ ?_
  rotate_left 2
  · rintro w' s0; go_simp; with_reducible rfl
  · simp only [Act.put, List.setIfInBounds_toArray, List.set_cons_zero, List.set_cons_succ]; rfl
  refine dpure 5 (some 11) rfl rfl (by kernel_rfl) (fun _ _ _ h => h) (by rfl) (v := ?_) (a' := ?_) ?_ ?_ ?_
  rotate_left 2
  · intro w'; go_simp; with_reducible rfl
  · simp only [Act.put, List.setIfInBounds_toArray, List.set_cons_zero, List.set_cons_succ]; rfl
  refine dpure 6 (some 12) rfl rfl (by kernel_rfl) (fun _ _ _ h => h) (by rfl) (v := ?_) (a' := ?_) ?_ ?_ ?_
  rotate_left 2
  · intro w'; go_simp; with_reducible rfl
  · simp only [Act.put, List.setIfInBounds_toArray, List.set_cons_zero, List.set_cons_succ]; rfl
  refine dpure 7 (some 13) rfl rfl (by kernel_rfl) (fun _ _ _ h => h) (by rfl) (v := ?_) (a' := ?_) ?_ ?_ ?_
  rotate_left 2
  · intro w'; go_simp; with_reducible rfl
  · simp only [Act.put, List.setIfInBounds_toArray, List.set_cons_zero, List.set_cons_succ]; rfl
  refine done1 8 (some 14) rfl rfl (by kernel_rfl) (by decide) (fun K hK => ?_)
  refine goes_ Try.func56 (by kernel_rfl) rfl #[.slice none 0 0, .int .u64 n, .int .i64 sz] (by rfl) rfl rfl (by kernel_rfl) ?_
  refine (Put_nil n sz _ h0 h8).mono ?_
  rintro e w2 ⟨A, c, rfl, hr2, hb2⟩
  refine ⟨_, rfl, ?_⟩
  have HX2 := blk_below (blk_drew HX.out) hb2
  have HO2 := Kd.R_below (Kd.R_drew HO.out) hb2
  have HM2 := mapOf_far HM.out (hb2.block mb HM.out.lt)
  have HB2 := HB.out.trans ((undrew hb2).mono HB.out.size)
  refine hK.out _ _ ((blk_cell HX2 0).trans rfl) (fun hS => ?_)
  clear hK K
  refine norm_ (a' := ?_) ?_ ?_
  rotate_left
  · simp only [Act.put, List.setIfInBounds_toArray, List.set_cons_zero, List.set_cons_succ]; rfl
  refine done1 9 (some 15) rfl rfl (by kernel_rfl) (by decide) (fun K hK => ?_)
  refine app8r_step (w0 := w0) (c := c) (base := w0.heap.size) (some 15) rfl (by rfl) (.tmp 10) (.tmp 14) (by kernel_rfl) (by kernel_rfl) (by kernel_rfl) HO2 hr2 HB2 HB2.size HP.out ?_
  intro v3 w3 ho3 hb3 hg3
  obtain ⟨A3, c3, rfl⟩ := Kd.R_slice ho3
  have HX3 := blk_grown HX2 hg3 (Kd.R_ne HO2 HX2 (by decide))
  have HM3 := mapOf_far HM2 (hg3.block mb HM2.lt (map_ne HM2 HO2))
  refine hK.out _ _ ((blk_cell HX3 0).trans rfl) (fun hS => ?_)
  clear hK K
  refine norm_ (a' := ?_) ?_ ?_
  rotate_left
  · simp only [Act.put, List.setIfInBounds_toArray, List.set_cons_zero, List.set_cons_succ]; rfl
  refine dpure 10 (some 16) rfl rfl (by kernel_rfl) (fun _ _ _ h => h) (by rfl) (v := ?_) (a' := ?_) ?_ ?_ ?_
  rotate_left 2
  · intro w'; go_simp; with_reducible rfl
  · simp only [Act.put, List.setIfInBounds_toArray, List.set_cons_zero, List.set_cons_succ]; rfl
  refine dpure 11 (some 17) rfl rfl (by kernel_rfl) (fun _ _ _ h => h) (by rfl) (v := ?_) (a' := ?_) ?_ ?_ ?_
  rotate_left 2
  · intro w'; go_simp; with_reducible rfl
  · simp only [Act.put, List.setIfInBounds_toArray, List.set_cons_zero, List.set_cons_succ]; rfl
  have z3 : w3.cell? ⟨g, 0, none⟩ = some v := (blk_cell HX3 0).trans rfl
  have f3 : w3.frozen? ⟨g, 0, none⟩ = false := blk_frozen HX3 0
  refine dlast 12 (Array.getElem?_eq_getElem (by decide)) (by kernel_rfl) (List.mem_singleton.2 rfl) ?_
  intro K hK
  refine dskip (w1 := w3.setCell ⟨g, 0, none⟩ (.slice A3 (out ++ putL n sz.toNat).length c3)) (by kernel_rfl) (by kernel_rfl) ?_ ?_
  · go_simp
  refine hK.out _ _ (done_ (by kernel_rfl) ?_)
  clear hK K
  go_end0
  exact ⟨rfl, WAt.stored HX3 ho3 HM3 HR.out hg hmb hne hb3, (((KeepT.drew w g mb).trans (KeepT.below hb2 g mb)).trans (KeepT.grown HO2 hg3 g mb)).trans (KeepT.set w3 g mb 0 _)⟩

theorem WAt.more {w0 w : World} {g mb N N' : Nat} {out : List Int} {m : List UInt8 → Option Int} (h : WAt w0 w g mb out m N) (hn : N ≤ N') : WAt w0 w g mb out m N' := by
  obtain ⟨h1, ⟨D, hM, hR⟩, h3, h4, h5, h6⟩ := h
  exact ⟨h1, ⟨D, hM.mono hn, hR⟩, h3, h4, h5, h6⟩
theorem B8_far {w w1 : World} {base mb : Nat} {v : Value} {xs : List Int} (h : B8 w base (fun _ => True) v xs) (hg : w.grownBy w1 (some mb)) (hne : some mb ≠ v.ownBlock) : B8 w1 base (fun _ => True) v xs :=
  Kd.R_of_own (own_other (Kd.own_of_R h) hg (.inr hne.symm)) (fun _ _ => trivial)
theorem wf_len (o : List Int) (h : o.length ≤ 100000000) : (Lit.int .i64 (o.length : Int)).wf = true := by
  simp [Lit.wf, IntKind.min, IntKind.max, IntKind.bits, IntKind.signed]
  omega
theorem or_far (a : Int) (h0 : 0 ≤ a) (h1 : a < 16384) : bits .or .i64 a 49152 = a + 49152 := by
  obtain ⟨n, rfl⟩ := Int.eq_ofNat_of_zero_le h0
  have hk : ∀ n : Int, 0 ≤ n → n < 2 ^ 60 → IntKind.i64.wrap n = n := by
    intro n h0 h1
    rw [IntKind.wrap_i64]
    omega
  have h := (bits_nat .i64 60 (by decide) hk n 49152 (by omega) (by decide)).2
  rw [show ((49152 : Nat) : Int) = 49152 from rfl] at h
  rw [h, Nat.or_comm, show (49152 : Nat) = 2 ^ 14 * 3 from rfl, ← Nat.two_pow_add_eq_or_of_lt (by omega) 3]
  omega
def updS (m : List UInt8 → Option Int) (l : List UInt8) (v : Int) : List UInt8 → Option Int := fun k => if k = l then some v else m k
/-- A name behind some bytes, by what is known; and what is known then. -/
def nameF : Nat → List Int → (List UInt8 → Option Int) → ByteArray → List Int × (List UInt8 → Option Int)
  | 0, out, m, _ => (out, m)
  | k + 1, out, m, s => if s.size ≤ 1 then (out ++ [0], m) else
    match m s.data.toList with
    | some a => (out ++ putL (a + 49152) 2, m)
    | none => nameF k (out ++ bytesOf (s.extract 0 (nb s 0 + 1))) (if out.length < 16384 then updS m s.data.toList out.length else m) (s.extract (nb s 0 + 1) s.size)
/-- A text whose labels can be walked over. -/
def nameOk : Nat → ByteArray → Prop
  | 0, _ => False
  | k + 1, s => s.size ≤ 1 ∨ (nb s 0 + 1 ≤ s.size ∧ nameOk k (s.extract (nb s 0 + 1) s.size))
theorem nameOk_split (k : Nat) (s : ByteArray) (out : List ByteArray) (h : (splitF k s out).2 = true) : nameOk k s := by
  induction k generalizing s out with
  | zero => exact absurd h (by simp [splitF])
  | succ k ih =>
    unfold splitF at h
    by_cases h1 : s.size = 0
    · exact .inl (by omega)
    · rw [if_neg h1] at h
      by_cases h2 : nb s 0 = 0
      · rw [if_pos h2] at h
        exact .inl (by have : s.size = 1 := by simpa using h
                       omega)
      · rw [if_neg h2] at h
        by_cases h3 : 63 < nb s 0 ∨ s.size ≤ nb s 0
        · rw [if_pos h3] at h
          exact absurd h (by simp)
        · rw [if_neg h3] at h
          exact .inr ⟨by omega, ih _ _ h⟩
theorem rep_updS {D : DataW Unit} {m : List UInt8 → Option Int} (h : RepS D m) (hD : IsMap D) (l : List UInt8) (v : Int) : RepS (D.put (.string l) (.lit (.int .i64 v))) (updS m l v) := by
  have hk : ∀ a : List UInt8, WideAt.IsKeyLit (.string a) := fun a => by first | trivial | (unfold WideAt.IsKeyLit; trivial)
  intro k
  unfold updS
  by_cases e : k = l
  · subst e
    rw [if_pos rfl, Maps.has_put_same hD (hk k)]
    refine ⟨rfl, fun x hx => ?_⟩
    rw [Maps.atKey_put_same hD (hk k), Option.some.inj hx]
  · have hne : (Lit.string k) ≠ (Lit.string l) := fun x => e (by injection x)
    rw [if_neg e, Maps.has_put_other hne]
    refine ⟨(h k).1, fun x hx => ?_⟩
    rw [Maps.atKey_put_other hne]
    exact (h k).2 x hx
theorem keyedS : Keyed Try.prog 9 := string_keyed Try.underlying9
theorem zeroI (w : World) : (zeroValue 3).run Try.prog w = .ok (.int .i64 0) w := by kernel_rfl

set_option maxHeartbeats 4000000 in
set_option maxRecDepth 100000 in
theorem name_calls {w0 w : World} {g mb N : Nat} {out : List Int} {m : List UInt8 → Option Int} (h : WAt w0 w g mb out m N) (hv : ∀ l v, m l = some v → 0 ≤ v ∧ v < 16384) (s : ByteArray) (k : Nat) (hk : k ≤ 300) (hs : nameOk k s) (hsz : s.size ≤ 255) (hl : out.length ≤ 10000000) (hN : N ≤ 1000000) :
    Calls Try.prog 33 #[.pointer (some ⟨g, 0, none⟩), .string s] w fun e w' => e = .returned (.tuple #[]) ∧ WAt w0 w' g mb (nameF k out m s).1 (nameF k out m s).2 (N + k) ∧ KeepT w w' g mb := by
  obtain ⟨R, hR⟩ : ∃ R, nameF k out m s = R := ⟨_, rfl⟩
  rw [hR]
  have HR := Aside0.mk hR
  have HW := Aside0.mk h
  have HV := Aside0.mk hv
  have HK := Aside0.mk hs
  have HL := Aside0.mk (show out.length + s.size ≤ 10000255 by omega)
  have HS := Aside0.mk hsz
  clear hR h hv hs hl hsz
  go_enter Try.func33, Try.ntmps33
  go_wp2
  go_loopg [1] k (fun kq v1 wr => ∃ (x : ByteArray) (o : List Int) (mm : List UInt8 → Option Int), v1 = .string x ∧ Aside0 (nameF kq o mm x = R) ∧ Aside0 (nameOk kq x) ∧ Aside0 (kq ≤ k) ∧ Aside0 (x.size ≤ 255) ∧ Aside0 (o.length + x.size ≤ 10000255) ∧ Aside0 (∀ l v, mm l = some v → 0 ≤ v ∧ v < 16384) ∧ Aside0 (WAt w0 wr g mb o mm (N + (k - kq))) ∧ Aside0 (KeepT w wr g mb))
  case atStart => exact ⟨s, out, m, rfl, HR, HK, ⟨Nat.le_refl _⟩, HS, HL, HV, ⟨by rw [Nat.sub_self]; exact HW.out⟩, ⟨KeepT.refl w g mb⟩⟩
  case round =>
    clear HR HW HV HK HL HS
    obtain ⟨x, o, mm, rfl, HR, HK, HQ, HS, HL, HV, HW, HT⟩ := hrel
    obtain ⟨j, rfl⟩ : ∃ j, gk = j + 1 := ⟨gk - 1, by cases gk with | zero => exact absurd HK.out (by simp [nameOk]) | succ n => simp⟩
    obtain ⟨⟨v, hcell, ho⟩, ⟨D, hmap, hrep⟩, hg, hmb, hne, hb⟩ := HW.out
    obtain ⟨A, c, rfl, _, _⟩ := Kd.R_reads ho
    have HX := Aside0.mk hcell
    have HO := Aside0.mk ho
    have HM := Aside0.mk hmap
    have HP := Aside0.mk hrep
    have HB := Aside0.mk hb
    have z0 : wr.cell? ⟨g, 0, none⟩ = some (.slice A o.length c) := (blk_cell HX.out 0).trans rfl
    have z1 : wr.cell? ⟨g, 1, none⟩ = some (.map (some mb)) := (blk_cell HX.out 1).trans rfl
    have hr := HR.out
    have hok := HK.out
    simp only [nameF, nameOk] at hr hok
    clear hcell ho hmap hrep hb HR HK
    by_cases c1 : x.size ≤ 1
    · rw [if_pos c1] at hr
      subst hr
      have d1 : decide ((1 : Int) < (x.size : Int)) = false := decide_eq_false (by omega)
      have d2 : decide (1 < x.size) = false := decide_eq_false (by omega)
      clear c1 hok
      go_wp2_with ((with_reducible refine gate_builtin (b := .append) (xs := #[.tmp 62, .tmp 63]) rfl ?_); at_builtin; refine app8 (p := 0) rfl (.tmp 62) (.tmp 63) rfl rfl rfl HO.out HB.out (fun _ _ _ => trivial) HB.out.size (by have := HL.out; omega) ?_; intro v3 w3 ho3 hb3 hg3 _; obtain ⟨A3, c3, rfl⟩ := Kd.R_slice ho3; have HX3 := Aside0.mk (blk_grown HX.out hg3 (Kd.R_ne HO.out HX.out (by decide))); have HM3 := Aside0.mk (mapOf_far HM.out (hg3.block mb HM.out.lt (map_ne HM.out HO.out))); have HO3 := Aside0.mk ho3; have HB3 := Aside0.mk hb3; have z3 : w3.cell? ⟨g, 0, none⟩ = some (.slice A o.length c) := (blk_cell HX3.out 0).trans rfl; have f3 : w3.frozen? ⟨g, 0, none⟩ = false := blk_frozen HX3.out 0; have HT3 := Aside0.mk (HT.out.trans (KeepT.grown HO.out hg3 g mb)); clear ho3 hb3 hg3)
      go_end0
      have e := (WAt.stored HX3.out HO3.out HM3.out HP.out hg hmb hne HB3.out).more (N' := N + k) (by omega)
      rw [List.length_append] at e
      exact ⟨rfl, e, HT3.out.trans (KeepT.set w3 g mb 0 _)⟩
    · rw [if_neg c1] at hr
      have HOK := Aside0.mk (show nb x 0 + 1 ≤ x.size ∧ nameOk j (x.extract (nb x 0 + 1) x.size) by rcases hok with h | h; exact absurd h c1; exact h)
      have d1 : decide ((1 : Int) < (x.size : Int)) = true := decide_eq_true (by omega)
      have d2 : decide (1 < x.size) = true := decide_eq_true (by omega)
      have hkey := Go.WideMaps.keyOf_string_mk (P := Try.prog) Try.underlying9 (s := x) (by have := HS.out; unfold maxLen; omega)
      obtain ⟨p1, p2⟩ := HP.out x.data.toList
      cases hm : mm x.data.toList with
      | some a =>
        rw [hm] at hr p1 p2
        obtain ⟨a0, a1⟩ := HV.out _ _ hm
        have hbits := or_far a a0 a1
        have P1 := Lib.hid p1
        have P2 := Lib.hid (p2 a rfl)
        have HR := Lib.hid hr
        clear p1 p2 hr hok hm c1
        go_wp2_with (at_lookup; refine wpList_lookup_own_ok_int _ rfl _ _ 65 rfl 9 3 .i64 keyedS Try.underlying65 Try.underlying3 (zeroI _) mb _ D rfl HM.out _ _ rfl hkey ?_; intro v hat hwv; obtain rfl : v = a := (by have e := P2.out; rw [hat] at e; simpa using e); clear hat hwv; rw [P1.out])
        refine (num_calls HW.out (v + 49152) 2 (by decide) (by decide) (by omega) (by omega) (by have := HL.out; omega)).mono ?_
        rintro e w4 ⟨rfl, hw4, ht4⟩
        have HT4 := Aside0.mk (HT.out.trans ht4)
        have HW4 := Aside0.mk (hw4.more (N' := N + k) (by omega))
        clear hw4 ht4
        go_wp2_with fail
        refine bodyPost_ret (results_none rfl _ _ _) rfl ⟨rfl, ?_, HT4.out⟩
        rw [← HR.out]
        exact HW4.out
      | none =>
        rw [hm] at hr p1
        have P1 := Lib.hid p1
        have HR := Aside0.mk hr
        have hx := nb_at x 0
        have hn := nb_lt x 0
        obtain ⟨n, hnb⟩ : ∃ n, nb x 0 = n := ⟨_, rfl⟩
        rw [hnb] at hx hn HR HOK
        have q1 : 0 < x.size := by omega
        have q2 : (n : Int) ≤ 255 := by omega
        have q3 : (n : Int) + 1 ≤ (x.size : Int) := by have := HOK.out.1; omega
        have q4 : (0 : Int) ≤ (n : Int) + 1 := by omega
        have q5 : (1 : Int) ≤ (n : Int) + 1 := by omega
        clear p1 p2 hr hok hm c1 hnb hn
        by_cases c3 : o.length < 16384
        · have d3 : decide ((o.length : Int) < 16384) = true := decide_eq_true (by omega)
          have d3' : decide (o.length < 16384) = true := decide_eq_true c3
          have HR2 := Aside0.mk (by have := HR.out; rw [if_pos c3] at this; exact this)
          clear HR c3
          go_wp2_with (at_lookup; refine wpList_lookup_own_ok_int _ rfl _ _ 65 rfl 9 3 .i64 keyedS Try.underlying65 Try.underlying3 (zeroI _) mb _ D rfl HM.out _ _ rfl hkey ?_; intro v hat hwv; clear hat hwv; rw [P1.out])
          go_still_tail 10, (by kernel_rfl)
          change wpList _ _ _ _ _ wr.drew
          have hM2 := HM.out.drew
          go_wp2_with (at_mapUpdate; refine wpList_mapUpdate_in _ rfl _ _ _ 65 rfl 9 3 keyedS Try.underlying65 _ mb _ D rfl hM2 (by unfold maxLen; omega) _ _ _ rfl rfl hkey _ [] (plainElem_int Try.underlying3 (wf_len o (by have := HL.out; omega))) ?_; intro w1 hown1 hturn1)
          have hg1 : wr.grownBy w1 (some mb) := (show wr.grownBy wr.drew (some mb) from ⟨rfl, rfl, rfl, Nat.le_refl _, fun _ _ _ => rfl⟩).trans (World.mapTurned.grown hturn1)
          have HW1 := Aside0.mk (show WAt w0 w1 g mb o (updS mm x.data.toList o.length) (N + (k - (j + 1)) + 1) from ⟨⟨_, (hg1.block g (blk_lt HX.out) (fun e => hne (Option.some.inj e).symm)).trans HX.out, B8_far HO.out hg1 (map_ne HM.out HO.out)⟩, ⟨_, hown1, rep_updS HP.out HM.out.isMap _ _⟩, hg, hmb, hne, HB.out.grown hg1 HB.out.size (fun k hk => by rw [← Option.some.inj hk]; exact hmb)⟩)
          have HV1 := Aside0.mk (show ∀ l v, updS mm x.data.toList o.length l = some v → 0 ≤ v ∧ v < 16384 by
            intro l v hl
            unfold updS at hl
            by_cases e : l = x.data.toList
            · rw [if_pos e] at hl
              have := Option.some.inj hl
              have := of_decide_eq_true d3'
              omega
            · rw [if_neg e] at hl
              exact HV.out l v hl)
          have HT1 := Aside0.mk (HT.out.trans (KeepT.map hg1 g))
          clear hM2 hown1 hturn1 hg1 z0 z1 HX HO HM HP HB
          obtain ⟨⟨v, hcell, ho⟩, ⟨D, hmap, hrep⟩, hg, hmb, hne, hb⟩ := HW1.out
          obtain ⟨A, c, rfl, _, _⟩ := Kd.R_reads ho
          have z0 : w1.cell? ⟨g, 0, none⟩ = some (.slice A o.length c) := (blk_cell hcell 0).trans rfl
          refine start_ (n := 12) (S := fun w' => w'.cell? ⟨g, 0, none⟩ = some (.slice A o.length c)) (ds := [11]) (Array.replicate 12 false) (by kernel_rfl) (by kernel_rfl) rfl (by exact z0) (fun hS => ?_)
          refine dpure 0 (some 44) rfl rfl (by kernel_rfl) (fun _ _ _ h => h) (by rfl) (v := ?_) (a' := ?_) ?_ ?_ ?_
          rotate_left 2
          · intro w'; go_simp; with_reducible rfl
          · simp only [Act.put, List.setIfInBounds_toArray, List.set_cons_zero, List.set_cons_succ]; rfl
          refine dpure 1 (some 45) rfl rfl (by kernel_rfl) (fun _ _ _ h => h) (by rfl) (v := ?_) (a' := ?_) ?_ ?_ ?_
          rotate_left 2
          · intro w'; go_simp; with_reducible rfl
          · simp only [Act.put, List.setIfInBounds_toArray, List.set_cons_zero, List.set_cons_succ]; rfl
          refine dpure 2 (some 46) rfl rfl (by kernel_rfl) (fun _ _ _ h => h) (by rfl) (v := ?_) (a' := ?_) ?_ ?_ ?_
          rotate_left 2
          · intro w'; go_simp; with_reducible rfl
          · simp only [Act.put, List.setIfInBounds_toArray, List.set_cons_zero, List.set_cons_succ]; rfl
          refine dpure 3 (some 47) rfl rfl (by kernel_rfl) (fun _ _ _ h => h) (by rfl) (v := ?_) (a' := ?_) ?_ ?_ ?_
          rotate_left 2
          · intro w'; go_simp; with_reducible rfl
          · simp only [Act.put, List.setIfInBounds_toArray, List.set_cons_zero, List.set_cons_succ]; rfl
          refine dtake 4 (some 48) rfl rfl (by kernel_rfl) (fun _ _ _ h => h) (by rfl) hS (v := ?_) (a' := ?_) ?_ ?_ ?_
          rotate_left 2
          · rintro w' s0; go_simp; with_reducible rfl
          · simp only [Act.put, List.setIfInBounds_toArray, List.set_cons_zero, List.set_cons_succ]; rfl
          refine dpure 5 (some 49) rfl rfl (by kernel_rfl) (fun _ _ _ h => h) (by rfl) (v := ?_) (a' := ?_) ?_ ?_ ?_
          rotate_left 2
          · intro w'; go_simp; with_reducible rfl
          · simp only [Act.put, List.setIfInBounds_toArray, List.set_cons_zero, List.set_cons_succ]; rfl
          refine dpure 6 (some 50) rfl rfl (by kernel_rfl) (fun _ _ _ h => h) (by rfl) (v := ?_) (a' := ?_) ?_ ?_ ?_
          rotate_left 2
          · intro w'; go_simp; with_reducible rfl
          · simp only [Act.put, List.setIfInBounds_toArray, List.set_cons_zero, List.set_cons_succ]; rfl
          refine dpure 7 (some 51) rfl rfl (by kernel_rfl) (fun _ _ _ h => h) (by rfl) (v := ?_) (a' := ?_) ?_ ?_ ?_
          rotate_left 2
          · intro w'; go_simp; with_reducible rfl
          · simp only [Act.put, List.setIfInBounds_toArray, List.set_cons_zero, List.set_cons_succ]; rfl
          refine done1 8 (some 52) rfl rfl (by kernel_rfl) (by decide) (fun K hK => ?_)
          refine app8s_step (w0 := w0) (base := w0.heap.size) (some 52) rfl (by rfl) (.tmp 48) (.tmp 51) (by kernel_rfl) (by kernel_rfl) (by kernel_rfl) (y := x.extract 0 (n + 1)) (Kd.R_drew ho) hb.drew hb.drew.size (by have := HL.out; rw [ByteArray.size_extract]; omega) ?_
          intro v3 w3 ho3 hb3 hg3
          obtain ⟨A3, c3, rfl⟩ := Kd.R_slice ho3
          have HX3 := blk_grown (blk_drew hcell) hg3 (Kd.R_ne (Kd.R_drew ho) (blk_drew hcell) (by decide))
          have HM3 := mapOf_far hmap (hg3.block mb hmap.lt (map_ne hmap ho))
          have z3 : w3.cell? ⟨g, 0, none⟩ = some (.slice A o.length c) := (blk_cell HX3 0).trans rfl
          have f3 : w3.frozen? ⟨g, 0, none⟩ = false := blk_frozen HX3 0
          refine hK.out _ _ z3 (fun hS => ?_)
          clear hK K
          refine norm_ (a' := ?_) ?_ ?_
          rotate_left
          · simp only [Act.put, List.setIfInBounds_toArray, List.set_cons_zero, List.set_cons_succ]; rfl
          refine dpure 9 (some 53) rfl rfl (by kernel_rfl) (fun _ _ _ h => h) (by rfl) (v := ?_) (a' := ?_) ?_ ?_ ?_
          rotate_left 2
          · intro w'; go_simp; with_reducible rfl
          · simp only [Act.put, List.setIfInBounds_toArray, List.set_cons_zero, List.set_cons_succ]; rfl
          refine dpure 10 (some 54) rfl rfl (by kernel_rfl) (fun _ _ _ h => h) (by rfl) (v := ?_) (a' := ?_) ?_ ?_ ?_
          rotate_left 2
          · intro w'; go_simp; with_reducible rfl
          · simp only [Act.put, List.setIfInBounds_toArray, List.set_cons_zero, List.set_cons_succ]; rfl
          refine dlast 11 (Array.getElem?_eq_getElem (by decide)) (by kernel_rfl) (List.mem_singleton.2 rfl) ?_
          intro K hK
          refine dskip (w1 := w3.setCell ⟨g, 0, none⟩ (.slice A3 (o ++ bytesOf (x.extract 0 (n + 1))).length c3)) (by kernel_rfl) (by kernel_rfl) ?_ ?_
          · go_simp
          refine hK.out _ _ (done_ (by kernel_rfl) ?_)
          clear hK K
          have e4 := (WAt.stored HX3 ho3 HM3 hrep hg hmb hne hb3).more (N' := N + (k - j)) (by have := HQ.out; omega)
          rw [List.length_append] at e4
          have HW4 := Aside0.mk e4
          have et := ((HT1.out.trans (KeepT.drew _ g mb)).trans (KeepT.grown (Kd.R_drew ho) hg3 g mb)).trans (KeepT.set w3 g mb 0 (.slice A3 (o ++ bytesOf (x.extract 0 (n + 1))).length c3))
          rw [List.length_append] at et
          have HT4 := Aside0.mk et
          clear et
          clear e4 z0 z3 f3 HX3 ho3 HM3 hb3 hg3 hS hcell ho hmap hrep hb
          go_wp2_with fail
          go_roundg j
          case measure => omega
          case rel => exact ⟨_, _, _, rfl, HR2, ⟨HOK.out.2⟩, ⟨by have := HQ.out; omega⟩, ⟨by have := HS.out; rw [ByteArray.size_extract]; omega⟩, ⟨by have := HL.out; rw [List.length_append, bytesOf_length, ByteArray.size_extract, ByteArray.size_extract]; omega⟩, HV1, HW4, HT4⟩
        · have d3 : decide ((o.length : Int) < 16384) = false := decide_eq_false (by omega)
          have d3' : decide (o.length < 16384) = false := decide_eq_false c3
          have HR2 := Aside0.mk (by have := HR.out; rw [if_neg c3] at this; exact this)
          clear HR c3
          go_wp2_with (at_lookup; refine wpList_lookup_own_ok_int _ rfl _ _ 65 rfl 9 3 .i64 keyedS Try.underlying65 Try.underlying3 (zeroI _) mb _ D rfl HM.out _ _ rfl hkey ?_; intro v hat hwv; clear hat hwv; rw [P1.out])
          have HW1 := Aside0.mk (HW.out.more (Nat.le_succ _))
          have HV1 := HV
          have HT1 := HT
          clear z0 z1 HX HO HM HP HB
          obtain ⟨⟨v, hcell, ho⟩, ⟨D, hmap, hrep⟩, hg, hmb, hne, hb⟩ := HW1.out
          obtain ⟨A, c, rfl, _, _⟩ := Kd.R_reads ho
          have z0 : wr.cell? ⟨g, 0, none⟩ = some (.slice A o.length c) := (blk_cell hcell 0).trans rfl
          refine start_ (n := 12) (S := fun w' => w'.cell? ⟨g, 0, none⟩ = some (.slice A o.length c)) (ds := [11]) (Array.replicate 12 false) (by kernel_rfl) (by kernel_rfl) rfl (by exact z0) (fun hS => ?_)
          refine dpure 0 (some 44) rfl rfl (by kernel_rfl) (fun _ _ _ h => h) (by rfl) (v := ?_) (a' := ?_) ?_ ?_ ?_
          rotate_left 2
          · intro w'; go_simp; with_reducible rfl
          · simp only [Act.put, List.setIfInBounds_toArray, List.set_cons_zero, List.set_cons_succ]; rfl
          refine dpure 1 (some 45) rfl rfl (by kernel_rfl) (fun _ _ _ h => h) (by rfl) (v := ?_) (a' := ?_) ?_ ?_ ?_
          rotate_left 2
          · intro w'; go_simp; with_reducible rfl
          · simp only [Act.put, List.setIfInBounds_toArray, List.set_cons_zero, List.set_cons_succ]; rfl
          refine dpure 2 (some 46) rfl rfl (by kernel_rfl) (fun _ _ _ h => h) (by rfl) (v := ?_) (a' := ?_) ?_ ?_ ?_
          rotate_left 2
          · intro w'; go_simp; with_reducible rfl
          · simp only [Act.put, List.setIfInBounds_toArray, List.set_cons_zero, List.set_cons_succ]; rfl
          refine dpure 3 (some 47) rfl rfl (by kernel_rfl) (fun _ _ _ h => h) (by rfl) (v := ?_) (a' := ?_) ?_ ?_ ?_
          rotate_left 2
          · intro w'; go_simp; with_reducible rfl
          · simp only [Act.put, List.setIfInBounds_toArray, List.set_cons_zero, List.set_cons_succ]; rfl
          refine dtake 4 (some 48) rfl rfl (by kernel_rfl) (fun _ _ _ h => h) (by rfl) hS (v := ?_) (a' := ?_) ?_ ?_ ?_
          rotate_left 2
          · rintro w' s0; go_simp; with_reducible rfl
          · simp only [Act.put, List.setIfInBounds_toArray, List.set_cons_zero, List.set_cons_succ]; rfl
          refine dpure 5 (some 49) rfl rfl (by kernel_rfl) (fun _ _ _ h => h) (by rfl) (v := ?_) (a' := ?_) ?_ ?_ ?_
          rotate_left 2
          · intro w'; go_simp; with_reducible rfl
          · simp only [Act.put, List.setIfInBounds_toArray, List.set_cons_zero, List.set_cons_succ]; rfl
          refine dpure 6 (some 50) rfl rfl (by kernel_rfl) (fun _ _ _ h => h) (by rfl) (v := ?_) (a' := ?_) ?_ ?_ ?_
          rotate_left 2
          · intro w'; go_simp; with_reducible rfl
          · simp only [Act.put, List.setIfInBounds_toArray, List.set_cons_zero, List.set_cons_succ]; rfl
          refine dpure 7 (some 51) rfl rfl (by kernel_rfl) (fun _ _ _ h => h) (by rfl) (v := ?_) (a' := ?_) ?_ ?_ ?_
          rotate_left 2
          · intro w'; go_simp; with_reducible rfl
          · simp only [Act.put, List.setIfInBounds_toArray, List.set_cons_zero, List.set_cons_succ]; rfl
          refine done1 8 (some 52) rfl rfl (by kernel_rfl) (by decide) (fun K hK => ?_)
          refine app8s_step (w0 := w0) (base := w0.heap.size) (some 52) rfl (by rfl) (.tmp 48) (.tmp 51) (by kernel_rfl) (by kernel_rfl) (by kernel_rfl) (y := x.extract 0 (n + 1)) (Kd.R_drew ho) hb.drew hb.drew.size (by have := HL.out; rw [ByteArray.size_extract]; omega) ?_
          intro v3 w3 ho3 hb3 hg3
          obtain ⟨A3, c3, rfl⟩ := Kd.R_slice ho3
          have HX3 := blk_grown (blk_drew hcell) hg3 (Kd.R_ne (Kd.R_drew ho) (blk_drew hcell) (by decide))
          have HM3 := mapOf_far hmap (hg3.block mb hmap.lt (map_ne hmap ho))
          have z3 : w3.cell? ⟨g, 0, none⟩ = some (.slice A o.length c) := (blk_cell HX3 0).trans rfl
          have f3 : w3.frozen? ⟨g, 0, none⟩ = false := blk_frozen HX3 0
          refine hK.out _ _ z3 (fun hS => ?_)
          clear hK K
          refine norm_ (a' := ?_) ?_ ?_
          rotate_left
          · simp only [Act.put, List.setIfInBounds_toArray, List.set_cons_zero, List.set_cons_succ]; rfl
          refine dpure 9 (some 53) rfl rfl (by kernel_rfl) (fun _ _ _ h => h) (by rfl) (v := ?_) (a' := ?_) ?_ ?_ ?_
          rotate_left 2
          · intro w'; go_simp; with_reducible rfl
          · simp only [Act.put, List.setIfInBounds_toArray, List.set_cons_zero, List.set_cons_succ]; rfl
          refine dpure 10 (some 54) rfl rfl (by kernel_rfl) (fun _ _ _ h => h) (by rfl) (v := ?_) (a' := ?_) ?_ ?_ ?_
          rotate_left 2
          · intro w'; go_simp; with_reducible rfl
          · simp only [Act.put, List.setIfInBounds_toArray, List.set_cons_zero, List.set_cons_succ]; rfl
          refine dlast 11 (Array.getElem?_eq_getElem (by decide)) (by kernel_rfl) (List.mem_singleton.2 rfl) ?_
          intro K hK
          refine dskip (w1 := w3.setCell ⟨g, 0, none⟩ (.slice A3 (o ++ bytesOf (x.extract 0 (n + 1))).length c3)) (by kernel_rfl) (by kernel_rfl) ?_ ?_
          · go_simp
          refine hK.out _ _ (done_ (by kernel_rfl) ?_)
          clear hK K
          have e4 := (WAt.stored HX3 ho3 HM3 hrep hg hmb hne hb3).more (N' := N + (k - j)) (by have := HQ.out; omega)
          rw [List.length_append] at e4
          have HW4 := Aside0.mk e4
          have et := ((HT1.out.trans (KeepT.drew _ g mb)).trans (KeepT.grown (Kd.R_drew ho) hg3 g mb)).trans (KeepT.set w3 g mb 0 (.slice A3 (o ++ bytesOf (x.extract 0 (n + 1))).length c3))
          rw [List.length_append] at et
          have HT4 := Aside0.mk et
          clear et
          clear e4 z0 z3 f3 HX3 ho3 HM3 hb3 hg3 hS hcell ho hmap hrep hb
          go_wp2_with fail
          go_roundg j
          case measure => omega
          case rel => exact ⟨_, _, _, rfl, HR2, ⟨HOK.out.2⟩, ⟨by have := HQ.out; omega⟩, ⟨by have := HS.out; rw [ByteArray.size_extract]; omega⟩, ⟨by have := HL.out; rw [List.length_append, bytesOf_length, ByteArray.size_extract, ByteArray.size_extract]; omega⟩, HV1, HW4, HT4⟩
end Go.Proofs.Ytbbeikdbioelgaa.M
